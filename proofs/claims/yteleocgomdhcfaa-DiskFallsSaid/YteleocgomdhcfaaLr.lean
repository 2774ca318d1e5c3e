/- Proved: what an operation (read) comes to on both disks. Each theorem says its own conditions. -/
import Derived.Test.YteleocgomdhcfaaLq
import Derived.Lib.BufferRead
set_option linter.unusedVariables false
set_option linter.unusedSimpArgs false
set_option linter.unusedSectionVars false
namespace Go.Proofs.DK
open Go.RowKit
theorem conv33 [Okb] {W : World} {v : Value} {s : List UInt8} (h : Rd W v s) : (convert 33 9 v).run Try.prog W = .ok (.string (bs s)) W := by
  obtain ⟨p, c, rfl, _, hr⟩ := h
  cases p with
  | none =>
    have e : s = [] := by
      cases s with
      | nil => rfl
      | cons x xs => obtain ⟨b, o, hp, _⟩ := hr 0 x rfl; cases hp
    subst e
    rw [List.length_nil, Lib.run_convert_nil_bytes W 33 9 5 c Try.underlying33 Try.underlying5 Try.underlying9]
    rfl
  | some a =>
    exact run_convert_bytes_back (P := Try.prog) W 33 9 5 a c s Try.underlying33 Try.underlying5 Try.underlying9 (fun j hj => by
      obtain ⟨b, o, hp, _, hc, _⟩ := hr j s[j] (List.getElem?_eq_getElem hj)
      cases hp
      rw [Addr.add_lit]
      exact hc)
theorem Rd.all {o : Okb} {W : World} {v : Value} {l : List UInt8} (h : @Rd o W v l) : @Rd okAll W v l := by
  obtain ⟨p, c, e, hl, h⟩ := h
  refine ⟨p, c, e, hl, fun j x hx => ?_⟩
  obtain ⟨b, o, hp, hb, hc, _⟩ := h j x hx
  exact ⟨b, o, hp, hb, hc, trivial⟩
theorem bz_cell {W : World} {a : Nat} (h : W.heap[a]? = some bz) (i : Nat) : (∀ x, W.cell? ⟨a, i, none⟩ ≠ some (.int .u8 x)) ∧ ∀ x q c l, W.cell? ⟨a, i, none⟩ = some (.slice x l c) → q = x → q = none := by
  rw [cellof h i]
  rcases i with _ | _ | _ | _ | _ | _ | _ | i
  all_goals simp
theorem rd_off {W W' : World} {v : Value} {l : List UInt8} {a : Nat} (h : @Rd okAll W v l) (ha : W.heap[a]? = some bz) (hk : ∀ k, k ≠ a → W'.heap[k]? = W.heap[k]?) (hs : W.heap.size ≤ W'.heap.size) : @Rd okAll W' v l := by
  obtain ⟨p, c, e, hl, h⟩ := h
  refine ⟨p, c, e, hl, fun j x hx => ?_⟩
  obtain ⟨b, o, hp, hb, hc, _⟩ := h j x hx
  have hne : b ≠ a := fun e => by
    rw [e] at hc
    exact (bz_cell ha _).1 _ hc
  exact ⟨b, o, hp, by omega, (World.cell?_of_block (a := ⟨b, o + j, none⟩) (hk b hne)).trans hc, trivial⟩
theorem far7h {w : World} {n a : Nat} {v0 v1 v2 v3 v4 v5 v6 : Value} (h : n ≠ a) : (((((((w.setCell ⟨a, 0, none⟩ v0).setCell ⟨a, 1, none⟩ v1).setCell ⟨a, 2, none⟩ v2).setCell ⟨a, 3, none⟩ v3).setCell ⟨a, 4, none⟩ v4).setCell ⟨a, 5, none⟩ v5).setCell ⟨a, 6, none⟩ v6).drew.heap[n]? = w.heap[n]? := by
  rw [drew_heap]
  iterate 7 rw [Below.heap_setCell _ _ _ _ h]
theorem far7s {w : World} {a : Nat} {v0 v1 v2 v3 v4 v5 v6 : Value} : (((((((w.setCell ⟨a, 0, none⟩ v0).setCell ⟨a, 1, none⟩ v1).setCell ⟨a, 2, none⟩ v2).setCell ⟨a, 3, none⟩ v3).setCell ⟨a, 4, none⟩ v4).setCell ⟨a, 5, none⟩ v5).setCell ⟨a, 6, none⟩ v6).drew.heap.size = w.heap.size := by
  rw [drew_heap]
  iterate 7 rw [World.size_setCell]
set_option maxRecDepth 100000 in
set_option maxHeartbeats 4000000 in
theorem do_e (N bd m : Nat) (S : Ds) (p : Option Addr) (c : Nat) (o : Opn) (pb pk : Option Addr) (cb ck : Nat) (w : World) (hb : Both N bd S p w) (hN : N ≤ w.heap.size) (hok : Ok m S) (hm : m ≤ 100000) (hl : Lim S) (hk : o.kind ≠ 0 ∧ o.kind ≠ 1 ∧ o.kind ≠ 2 ∧ o.kind ≠ 3 ∧ o.kind ≠ 4 ∧ o.kind ≠ 5 ∧ o.kind ≠ 6 ∧ o.kind ≠ 7) :
    Calls Try.prog 8 #[ptr bd, MV S (.slice p S.fs.length c), .agg (opc o (.slice pb o.b.length cb) (.slice pk o.keep.length ck))] w (DoOut N bd S w) := by
  have hF := hok.fine hl hm
  obtain ⟨G, hD, hG, hFs⟩ := hb
  have hWB := WB.below S (.slice p S.fs.length c) o (.slice pb o.b.length cb) (.slice pk o.keep.length ck) w
  have hD1 := hD.below hWB
  have hS := WB.size S (.slice p S.fs.length c) o (.slice pb o.b.length cb) (.slice pk o.keep.length ck) w
  have K14 := Lib.hid (c14 o.n (WB S (.slice p S.fs.length c) o (.slice pb o.b.length cb) (.slice pk o.keep.length ck) w) hD1 (fun f hf => Nat.le_trans (Nat.le_trans (used_mem hf) hok.used) (by decide)))
  have HT := Lib.hid (Tri.at S (.slice p S.fs.length c) o (.slice pb o.b.length cb) (.slice pk o.keep.length ck) w)
  have hFW : @FsAt (okP (fun b => G b ∨ (w.heap.size ≤ b ∧ b < w.heap.size + 3)) (WB S (.slice p S.fs.length c) o (.slice pb o.b.length cb) (.slice pk o.keep.length ck) w).heap.size) (WB S (.slice p S.fs.length c) o (.slice pb o.b.length cb) (.slice pk o.keep.length ck) w) p S.fs := hFs.change (by omega) (fun b hb hok _ => by
    refine ⟨hWB.block b hb, fun h => ?_⟩
    rcases h with h | h
    · have := hok h; omega
    · omega) (fun b hb ht => hWB.block b hb)
  have HS := Lib.hid hS; have HD1 := Lib.hid hD1; have HFW := Lib.hid hFW
  have HWB := Lib.hid hWB; have HG := Lib.hid hG; have HFS := Lib.hid hFs; have HOK := Lib.hid hok; have HF := Lib.hid hF
  obtain ⟨kind, n, t, b, oN, oK, keep⟩ := o
  simp only at hk
  have k0 : (kind == 0) = false := by simpa using hk.1
  have k1 : (kind == 1) = false := by simpa using hk.2.1
  have k2 : (kind == 2) = false := by simpa using hk.2.2.1
  have k3 : (kind == 3) = false := by simpa using hk.2.2.2.1
  have k4 : (kind == 4) = false := by simpa using hk.2.2.2.2.1
  have k5 : (kind == 5) = false := by simpa using hk.2.2.2.2.2.1
  have k6 : (kind == 6) = false := by simpa using hk.2.2.2.2.2.2.1
  have k7 : (kind == 7) = false := by simpa using hk.2.2.2.2.2.2.2
  clear hk
  unfold ptr at K14 ⊢
  unfold ReadOut at K14
  clear hD hG hFs hWB hD1 hok hl hF hFW hS
  obtain ⟨room, fs, down, falls, fused, fuse, part⟩ := S
  unfold MV opc
  simp only
  go_enter Try.func8, Try.ntmps8
  go_wp2_with (fail)
  go_at_call 14; (refine K14.out.mono ?_); rintro e w2 ⟨hB2, hcase⟩
  have hs2 := hB2.size
  rw [HS.out] at hs2
  have hTr2 := HT.out.keep (fun c h1 h2 => hB2.block c (by rw [HS.out]; omega))
  have hF2 := @FsAt.mono (okP (fun b => G b ∨ (w.heap.size ≤ b ∧ b < w.heap.size + 3)) (WB ⟨room, fs, down, falls, fused, fuse, part⟩ (.slice p fs.length c) ⟨kind, n, t, b, oN, oK, keep⟩ (.slice pb b.length cb) (.slice pk keep.length ck) w).heap.size) _ _ _ _ HFW.out hB2
  have K31 := Lib.hid (@c31 (okP (fun b => G b ∨ (w.heap.size ≤ b ∧ b < w.heap.size + 3)) (WB ⟨room, fs, down, falls, fused, fuse, part⟩ (.slice p fs.length c) ⟨kind, n, t, b, oN, oK, keep⟩ (.slice pb b.length cb) (.slice pk keep.length ck) w).heap.size) ⟨room, fs, down, falls, fused, fuse, part⟩ p c n w2 hF2 (Nat.le_trans HOK.out.many (by decide)))
  have hlt2 : w.heap.size < w2.heap.size := (by omega)
  have hlt3 : w.heap.size + 1 < w2.heap.size := (by omega)
  have hlt4 : w.heap.size + 2 < w2.heap.size := (by omega)
  have HTR2 := Lib.hid hTr2; have HB2 := Lib.hid hB2; have HF2 := Lib.hid hF2
  clear hTr2 hB2 hF2 K14
  unfold MV at K31
  simp only at K31 hcase
  cases down with
  | true =>
    obtain ⟨_, rfl⟩ : _ ∧ e = _ := by
      rcases hcase with h | h | h
      · exact h
      · exact absurd h.1 (by simp)
      · obtain ⟨_, _, _, h, _⟩ := h; exact absurd h (by simp)
    have x0 := cellof HTR2.out.f 0; have x1 := cellof HTR2.out.f 1; have y0 := cellof HTR2.out.a 0; have y1 := cellof HTR2.out.a 1; have y2 := cellof HTR2.out.a 2; have y3 := cellof HTR2.out.a 3; have y4 := cellof HTR2.out.a 4; have y5 := cellof HTR2.out.a 5; have y6 := cellof HTR2.out.a 6
    unfold opc at x0 x1
    simp only [List.getElem?_toArray, List.getElem?_cons_zero, List.getElem?_cons_succ] at x0 x1 y0 y1 y2 y3 y4 y5 y6
    go_wp2_with (fail)
    go_at_call 31; (refine K31.out.mono ?_); rintro e w3 ⟨hB3, ix, rfl, hix⟩
    have hs3 := hB3.size
    have hTr3 := HTR2.out.keep (fun c h1 h2 => hB3.block c (by omega))
    clear x0 x1 y0 y1 y2 y3 y4 y5 y6
    have y0 := cellof hTr3.a 0; have y1 := cellof hTr3.a 1; have y2 := cellof hTr3.a 2; have y3 := cellof hTr3.a 3; have y4 := cellof hTr3.a 4; have y5 := cellof hTr3.a 5; have y6 := cellof hTr3.a 6
    have z0 := cellof hTr3.z 0; have z1 := cellof hTr3.z 1; have z2 := cellof hTr3.z 2; have z3 := cellof hTr3.z 3; have z4 := cellof hTr3.z 4; have z5 := cellof hTr3.z 5; have z6 := cellof hTr3.z 6
    have fz := fun o => frozenof hTr3.z o
    simp only [List.getElem?_toArray, List.getElem?_cons_zero, List.getElem?_cons_succ] at y0 y1 y2 y3 y4 y5 y6 z0 z1 z2 z3 z4 z5 z6
    have HTR3 := Lib.hid hTr3; have HB3 := Lib.hid hB3
    have hl4 : w.heap.size < w3.heap.size := (by omega)
    have hl5 : w.heap.size + 2 < w3.heap.size := (by omega)
    clear hTr3 hB3
    go_wp2
    go_region_held (fun w' => w'.cell? ⟨w.heap.size, 0, none⟩ = some (.int .i64 room) ∧ w'.cell? ⟨w.heap.size, 1, none⟩ = some (.slice p fs.length c) ∧ w'.cell? ⟨w.heap.size, 2, none⟩ = some (.bool true) ∧ w'.cell? ⟨w.heap.size, 3, none⟩ = some (.int .i64 falls) ∧ w'.cell? ⟨w.heap.size, 4, none⟩ = some (.bool fused) ∧ w'.cell? ⟨w.heap.size, 5, none⟩ = some (.int .i64 fuse) ∧ w'.cell? ⟨w.heap.size, 6, none⟩ = some (.int .i64 part)) (refine ⟨?_, ?_, ?_, ?_, ?_, ?_, ?_⟩ <;> (simp only [far7 (show w.heap.size + 1 + 1 ≠ w.heap.size from by omega), drew_cell]; assumption)) (fail)
    go_wp2
    change bodyPost _ _ _ _ _ (put7 ⟨room, fs, true, falls, fused, fuse, part⟩ (.slice p fs.length c) (w.heap.size + 2) w3).drew
    have h5 : (put7 ⟨room, fs, true, falls, fused, fuse, part⟩ (.slice p fs.length c) (w.heap.size + 2) w3).heap[w.heap.size + 2]? = some (bx ⟨room, fs, true, falls, fused, fuse, part⟩ (.slice p fs.length c)) := put7_at (S' := ⟨0, [], false, 0, false, 0, 0⟩) (v' := .slice none 0 0) HTR3.out.z
    have hk5 : ∀ k, k ≠ w.heap.size + 2 → (put7 ⟨room, fs, true, falls, fused, fuse, part⟩ (.slice p fs.length c) (w.heap.size + 2) w3).heap[k]? = w3.heap[k]? := fun k h => put7_ne h
    have hs5 := put7_size ⟨room, fs, true, falls, fused, fuse, part⟩ (.slice p fs.length c) (w.heap.size + 2) w3
    have hb5 : Below N w3 (put7 ⟨room, fs, true, falls, fused, fuse, part⟩ (.slice p fs.length c) (w.heap.size + 2) w3) := put7_below (Below.refl _ _) (by omega)
    obtain ⟨w5, hw5⟩ : ∃ w5, w5 = put7 ⟨room, fs, true, falls, fused, fuse, part⟩ (.slice p fs.length c) (w.heap.size + 2) w3 := ⟨_, rfl⟩
    rw [← hw5] at h5 hk5 hs5 hb5 ⊢
    clear hw5 z0 z1 z2 z3 z4 z5 z6 y0 y1 y2 y3 y4 y5 y6 fz
    have h5' : w5.drew.heap[w.heap.size + 2]? = some (bx ⟨room, fs, true, falls, fused, fuse, part⟩ (.slice p fs.length c)) := h5
    have z0 := cellof h5' 0; have z1 := cellof h5' 1; have z2 := cellof h5' 2; have z3 := cellof h5' 3; have z4 := cellof h5' 4; have z5 := cellof h5' 5; have z6 := cellof h5' 6
    simp only [List.getElem?_toArray, List.getElem?_cons_zero, List.getElem?_cons_succ] at z0 z1 z2 z3 z4 z5 z6
    refine bodyPost_ret (v := .tuple #[.bool true, .agg #[.int .i64 room, .slice p fs.length c, .bool true, .int .i64 falls, .bool fused, .int .i64 fuse, .int .i64 part]]) (by simp [results, Try.results8, go_sem, z0, z1, z2, z3, z4, z5, z6]) rfl ⟨true, p, c, rfl, ?_, ?_, fun k hk hkp => ?_⟩
    · refine fin_both (G' := G) hN (by rw [HS.out]; exact Nat.le_refl _) HD1.out (fun b hb => .inl ⟨(HG.out b hb).1, (HG.out b hb).2.1⟩) (@FsAt.mono (okP (fun b => G b ∨ (w.heap.size ≤ b ∧ b < w.heap.size + 3)) (WB ⟨room, fs, true, falls, fused, fuse, part⟩ (.slice p fs.length c) ⟨kind, n, t, b, oN, oK, keep⟩ (.slice pb b.length cb) (.slice pk keep.length ck) w).heap.size) _ _ _ _ HF2.out HB3.out) (HB2.out.trans (HB3.out.mono HB2.out.size)) (fun b h1 h2 => hk5 b h2) hs5 ⟨_, HTR3.out.a⟩ ⟨_, HTR3.out.z⟩
    · refine Below.drew ?_
      have h1 : Below N w w2 := (HWB.out.mono hN).trans (HB2.out.mono (by rw [HS.out]; omega))
      exact (h1.trans (HB3.out.mono (by omega))).trans hb5
    · exact (hk5 k (by omega)).trans ((HB3.out.block k (by omega)).trans ((HB2.out.block k (by rw [HS.out]; omega)).trans (HWB.out.block k hk)))
  | false =>
    cases hlk : lookF fs n with
    | none =>
      rw [hlk] at hcase
      obtain ⟨_, _, rfl⟩ : _ ∧ _ ∧ e = _ := by
        rcases hcase with h | h | h
        · exact absurd h.1 (by simp)
        · exact h
        · obtain ⟨_, _, _, _, h, _⟩ := h; cases h
      have x0 := cellof HTR2.out.f 0; have x1 := cellof HTR2.out.f 1; have y0 := cellof HTR2.out.a 0; have y1 := cellof HTR2.out.a 1; have y2 := cellof HTR2.out.a 2; have y3 := cellof HTR2.out.a 3; have y4 := cellof HTR2.out.a 4; have y5 := cellof HTR2.out.a 5; have y6 := cellof HTR2.out.a 6
      unfold opc at x0 x1
      simp only [List.getElem?_toArray, List.getElem?_cons_zero, List.getElem?_cons_succ] at x0 x1 y0 y1 y2 y3 y4 y5 y6
      go_wp2_with (fail)
      go_at_call 31; (refine K31.out.mono ?_); rintro e w3 hfo
      obtain ⟨hB3, rfl⟩ := find_none hlk hfo
      clear hfo
      have hs3 := hB3.size
      have hTr3 := HTR2.out.keep (fun c h1 h2 => hB3.block c (by omega))
      clear x0 x1 y0 y1 y2 y3 y4 y5 y6
      have y0 := cellof hTr3.a 0; have y1 := cellof hTr3.a 1; have y2 := cellof hTr3.a 2; have y3 := cellof hTr3.a 3; have y4 := cellof hTr3.a 4; have y5 := cellof hTr3.a 5; have y6 := cellof hTr3.a 6
      have z0 := cellof hTr3.z 0; have z1 := cellof hTr3.z 1; have z2 := cellof hTr3.z 2; have z3 := cellof hTr3.z 3; have z4 := cellof hTr3.z 4; have z5 := cellof hTr3.z 5; have z6 := cellof hTr3.z 6
      have fz := fun o => frozenof hTr3.z o
      simp only [List.getElem?_toArray, List.getElem?_cons_zero, List.getElem?_cons_succ] at y0 y1 y2 y3 y4 y5 y6 z0 z1 z2 z3 z4 z5 z6
      have HTR3 := Lib.hid hTr3; have HB3 := Lib.hid hB3
      have hl4 : w.heap.size < w3.heap.size := (by omega)
      have hl5 : w.heap.size + 2 < w3.heap.size := (by omega)
      clear hTr3 hB3
      go_wp2
      go_region_held (fun w' => w'.cell? ⟨w.heap.size, 0, none⟩ = some (.int .i64 room) ∧ w'.cell? ⟨w.heap.size, 1, none⟩ = some (.slice p fs.length c) ∧ w'.cell? ⟨w.heap.size, 2, none⟩ = some (.bool false) ∧ w'.cell? ⟨w.heap.size, 3, none⟩ = some (.int .i64 falls) ∧ w'.cell? ⟨w.heap.size, 4, none⟩ = some (.bool fused) ∧ w'.cell? ⟨w.heap.size, 5, none⟩ = some (.int .i64 fuse) ∧ w'.cell? ⟨w.heap.size, 6, none⟩ = some (.int .i64 part)) (refine ⟨?_, ?_, ?_, ?_, ?_, ?_, ?_⟩ <;> (simp only [far7 (show w.heap.size + 1 + 1 ≠ w.heap.size from by omega), drew_cell]; assumption)) (fail)
      go_wp2
      change bodyPost _ _ _ _ _ (put7 ⟨room, fs, false, falls, fused, fuse, part⟩ (.slice p fs.length c) (w.heap.size + 2) w3).drew
      have h5 : (put7 ⟨room, fs, false, falls, fused, fuse, part⟩ (.slice p fs.length c) (w.heap.size + 2) w3).heap[w.heap.size + 2]? = some (bx ⟨room, fs, false, falls, fused, fuse, part⟩ (.slice p fs.length c)) := put7_at (S' := ⟨0, [], false, 0, false, 0, 0⟩) (v' := .slice none 0 0) HTR3.out.z
      have hk5 : ∀ k, k ≠ w.heap.size + 2 → (put7 ⟨room, fs, false, falls, fused, fuse, part⟩ (.slice p fs.length c) (w.heap.size + 2) w3).heap[k]? = w3.heap[k]? := fun k h => put7_ne h
      have hs5 := put7_size ⟨room, fs, false, falls, fused, fuse, part⟩ (.slice p fs.length c) (w.heap.size + 2) w3
      have hb5 : Below N w3 (put7 ⟨room, fs, false, falls, fused, fuse, part⟩ (.slice p fs.length c) (w.heap.size + 2) w3) := put7_below (Below.refl _ _) (by omega)
      obtain ⟨w5, hw5⟩ : ∃ w5, w5 = put7 ⟨room, fs, false, falls, fused, fuse, part⟩ (.slice p fs.length c) (w.heap.size + 2) w3 := ⟨_, rfl⟩
      rw [← hw5] at h5 hk5 hs5 hb5 ⊢
      clear hw5 z0 z1 z2 z3 z4 z5 z6 y0 y1 y2 y3 y4 y5 y6 fz
      have h5' : w5.drew.heap[w.heap.size + 2]? = some (bx ⟨room, fs, false, falls, fused, fuse, part⟩ (.slice p fs.length c)) := h5
      have z0 := cellof h5' 0; have z1 := cellof h5' 1; have z2 := cellof h5' 2; have z3 := cellof h5' 3; have z4 := cellof h5' 4; have z5 := cellof h5' 5; have z6 := cellof h5' 6
      simp only [List.getElem?_toArray, List.getElem?_cons_zero, List.getElem?_cons_succ] at z0 z1 z2 z3 z4 z5 z6
      refine bodyPost_ret (v := .tuple #[.bool true, .agg #[.int .i64 room, .slice p fs.length c, .bool false, .int .i64 falls, .bool fused, .int .i64 fuse, .int .i64 part]]) (by simp [results, Try.results8, go_sem, z0, z1, z2, z3, z4, z5, z6]) rfl ⟨true, p, c, rfl, ?_, ?_, fun k hk hkp => ?_⟩
      · refine fin_both (G' := G) hN (by rw [HS.out]; exact Nat.le_refl _) HD1.out (fun b hb => .inl ⟨(HG.out b hb).1, (HG.out b hb).2.1⟩) (@FsAt.mono (okP (fun b => G b ∨ (w.heap.size ≤ b ∧ b < w.heap.size + 3)) (WB ⟨room, fs, false, falls, fused, fuse, part⟩ (.slice p fs.length c) ⟨kind, n, t, b, oN, oK, keep⟩ (.slice pb b.length cb) (.slice pk keep.length ck) w).heap.size) _ _ _ _ HF2.out HB3.out) (HB2.out.trans (HB3.out.mono HB2.out.size)) (fun b h1 h2 => hk5 b h2) hs5 ⟨_, HTR3.out.a⟩ ⟨_, HTR3.out.z⟩
      · refine Below.drew ?_
        have h1 : Below N w w2 := (HWB.out.mono hN).trans (HB2.out.mono (by rw [HS.out]; omega))
        exact (h1.trans (HB3.out.mono (by omega))).trans hb5
      · exact (hk5 k (by omega)).trans ((HB3.out.block k (by omega)).trans ((HB2.out.block k (by rw [HS.out]; omega)).trans (HWB.out.block k hk)))
    | some f =>
      rw [hlk] at hcase
      rcases hcase with h | h | ⟨f2, pf, cf, _, ef, rfl, hrd⟩
      · exact absurd h.1 (by simp)
      · exact absurd h.2.1 (by simp)
      cases ef
      have HLK := Lib.hid hlk
      clear hlk
      have x0 := cellof HTR2.out.f 0; have x1 := cellof HTR2.out.f 1; have y0 := cellof HTR2.out.a 0; have y1 := cellof HTR2.out.a 1; have y2 := cellof HTR2.out.a 2; have y3 := cellof HTR2.out.a 3; have y4 := cellof HTR2.out.a 4; have y5 := cellof HTR2.out.a 5; have y6 := cellof HTR2.out.a 6
      unfold opc at x0 x1
      simp only [List.getElem?_toArray, List.getElem?_cons_zero, List.getElem?_cons_succ] at x0 x1 y0 y1 y2 y3 y4 y5 y6
      go_wp2_with (fail)
      go_at_call 31; (refine K31.out.mono ?_); rintro e w3 hfo
      obtain ⟨hB3, j, rfl, hj⟩ := find_some HF.out.srt HLK.out hfo
      clear hfo
      have hF3 := @FsAt.mono (okP (fun b => G b ∨ (w.heap.size ≤ b ∧ b < w.heap.size + 3)) (WB ⟨room, fs, false, falls, fused, fuse, part⟩ (.slice p fs.length c) ⟨kind, n, t, b, oN, oK, keep⟩ (.slice pb b.length cb) (.slice pk keep.length ck) w).heap.size) _ _ _ _ HF2.out hB3
      have hjl : j < fs.length := (List.getElem?_eq_some_iff.1 hj).1
      obtain ⟨bq, rfl, hbq, _, ⟨vq, e1, hvq⟩, _, htg⟩ := hF3 j f hj
      obtain ⟨pv, cv, rfl, _⟩ := id hvq
      have hrd3 := hrd.mono hB3
      have HJ := Lib.hid hj; have HV := Lib.hid hvq; have HR3 := Lib.hid hrd3; have HTG := Lib.hid htg
      clear htg hj hvq hrd hrd3 hF3
      have hs3 := hB3.size
      have hTr3 := HTR2.out.keep (fun c h1 h2 => hB3.block c (by omega))
      clear x0 x1 y0 y1 y2 y3 y4 y5 y6
      have y0 := cellof hTr3.a 0; have y1 := cellof hTr3.a 1; have y2 := cellof hTr3.a 2; have y3 := cellof hTr3.a 3; have y4 := cellof hTr3.a 4; have y5 := cellof hTr3.a 5; have y6 := cellof hTr3.a 6
      have z0 := cellof hTr3.z 0; have z1 := cellof hTr3.z 1; have z2 := cellof hTr3.z 2; have z3 := cellof hTr3.z 3; have z4 := cellof hTr3.z 4; have z5 := cellof hTr3.z 5; have z6 := cellof hTr3.z 6
      have fz := fun o => frozenof hTr3.z o
      simp only [List.getElem?_toArray, List.getElem?_cons_zero, List.getElem?_cons_succ] at y0 y1 y2 y3 y4 y5 y6 z0 z1 z2 z3 z4 z5 z6
      have HTR3 := Lib.hid hTr3; have HB3 := Lib.hid hB3
      have hl4 : w.heap.size < w3.heap.size := (by omega)
      have hl5 : w.heap.size + 2 < w3.heap.size := (by omega)
      clear hTr3 hB3
      have hbn : bq ≠ w.heap.size + 2 := fun e => by
        obtain ⟨cur, fz2, h⟩ := HTG.out
        rw [e, HTR3.out.z] at h
        cases h
      have hcv1 : ∀ W' : World, (∀ k, k ≠ w.heap.size + 2 → W'.heap[k]? = w3.heap[k]?) → w3.heap.size ≤ W'.heap.size → (convert 33 9 (.slice pf f.b.length cf)).run Try.prog W' = .ok (.string (bs f.b)) W' := fun W' hk hz => conv33 (rd_off HR3.out.all HTR3.out.z hk hz)
      have hcv2 : ∀ W' : World, (∀ k, k ≠ w.heap.size + 2 → W'.heap[k]? = w3.heap[k]?) → w3.heap.size ≤ W'.heap.size → (convert 33 9 (.slice pv f.b.length cv)).run Try.prog W' = .ok (.string (bs f.b)) W' := fun W' hk hz => conv33 (rd_off HV.out.all HTR3.out.z hk hz)
      have HC1 := Lib.hid hcv1; have HC2 := Lib.hid hcv2
      have hd1 := hcv1 w3.drew (fun _ _ => rfl) (Nat.le_refl _); have hd2 := hcv2 w3.drew (fun _ _ => rfl) (Nat.le_refl _)
      clear hcv1 hcv2
      go_wp2
      go_region_held (fun w' => w'.cell? ⟨w.heap.size, 0, none⟩ = some (.int .i64 room) ∧ w'.cell? ⟨w.heap.size, 1, none⟩ = some (.slice (some ⟨bq, 0, none⟩) fs.length c) ∧ w'.cell? ⟨w.heap.size, 2, none⟩ = some (.bool false) ∧ w'.cell? ⟨w.heap.size, 3, none⟩ = some (.int .i64 falls) ∧ w'.cell? ⟨w.heap.size, 4, none⟩ = some (.bool fused) ∧ w'.cell? ⟨w.heap.size, 5, none⟩ = some (.int .i64 fuse) ∧ w'.cell? ⟨w.heap.size, 6, none⟩ = some (.int .i64 part) ∧ w'.cell? ⟨bq, j * 3 + 1, none⟩ = some (.slice pv f.b.length cv) ∧ (convert 33 9 (.slice pf f.b.length cf)).run Try.prog w' = .ok (.string (bs f.b)) w' ∧ (convert 33 9 (.slice pv f.b.length cv)).run Try.prog w' = .ok (.string (bs f.b)) w') (refine ⟨?_, ?_, ?_, ?_, ?_, ?_, ?_, ?_, ?_, ?_⟩ <;> first | (rw [drew_cell]; with_reducible exact y0) | (rw [drew_cell]; with_reducible exact y1) | (rw [drew_cell]; with_reducible exact y2) | (rw [drew_cell]; with_reducible exact y3) | (rw [drew_cell]; with_reducible exact y4) | (rw [drew_cell]; with_reducible exact y5) | (rw [drew_cell]; with_reducible exact y6) | (rw [drew_cell]; with_reducible exact e1) | with_reducible exact hd1 | with_reducible exact hd2 | (rw [far7 (show w.heap.size + 1 + 1 ≠ w.heap.size from by omega)]; with_reducible assumption) | (rw [far7 (show w.heap.size + 1 + 1 ≠ bq from fun e => hbn e.symm)]; with_reducible assumption) | exact HC1.out _ (fun k hk => far7h hk) (by rw [far7s]; exact Nat.le_refl _) | exact HC2.out _ (fun k hk => far7h hk) (by rw [far7s]; exact Nat.le_refl _)) (fail)
      go_wp2
      change bodyPost _ _ _ _ _ (put7 ⟨room, fs, false, falls, fused, fuse, part⟩ (.slice (some ⟨bq, 0, none⟩) fs.length c) (w.heap.size + 2) w3).drew
      have h5 : (put7 ⟨room, fs, false, falls, fused, fuse, part⟩ (.slice (some ⟨bq, 0, none⟩) fs.length c) (w.heap.size + 2) w3).heap[w.heap.size + 2]? = some (bx ⟨room, fs, false, falls, fused, fuse, part⟩ (.slice (some ⟨bq, 0, none⟩) fs.length c)) := put7_at (S' := ⟨0, [], false, 0, false, 0, 0⟩) (v' := .slice none 0 0) HTR3.out.z
      have hk5 : ∀ k, k ≠ w.heap.size + 2 → (put7 ⟨room, fs, false, falls, fused, fuse, part⟩ (.slice (some ⟨bq, 0, none⟩) fs.length c) (w.heap.size + 2) w3).heap[k]? = w3.heap[k]? := fun k h => put7_ne h
      have hs5 := put7_size ⟨room, fs, false, falls, fused, fuse, part⟩ (.slice (some ⟨bq, 0, none⟩) fs.length c) (w.heap.size + 2) w3
      have hb5 : Below N w3 (put7 ⟨room, fs, false, falls, fused, fuse, part⟩ (.slice (some ⟨bq, 0, none⟩) fs.length c) (w.heap.size + 2) w3) := put7_below (Below.refl _ _) (by omega)
      obtain ⟨w5, hw5⟩ : ∃ w5, w5 = put7 ⟨room, fs, false, falls, fused, fuse, part⟩ (.slice (some ⟨bq, 0, none⟩) fs.length c) (w.heap.size + 2) w3 := ⟨_, rfl⟩
      rw [← hw5] at h5 hk5 hs5 hb5 ⊢
      clear hw5 z0 z1 z2 z3 z4 z5 z6 y0 y1 y2 y3 y4 y5 y6 fz
      have h5' : w5.drew.heap[w.heap.size + 2]? = some (bx ⟨room, fs, false, falls, fused, fuse, part⟩ (.slice (some ⟨bq, 0, none⟩) fs.length c)) := h5
      have z0 := cellof h5' 0; have z1 := cellof h5' 1; have z2 := cellof h5' 2; have z3 := cellof h5' 3; have z4 := cellof h5' 4; have z5 := cellof h5' 5; have z6 := cellof h5' 6
      simp only [List.getElem?_toArray, List.getElem?_cons_zero, List.getElem?_cons_succ] at z0 z1 z2 z3 z4 z5 z6
      refine bodyPost_ret (v := .tuple #[.bool true, .agg #[.int .i64 room, .slice (some ⟨bq, 0, none⟩) fs.length c, .bool false, .int .i64 falls, .bool fused, .int .i64 fuse, .int .i64 part]]) (by simp [results, Try.results8, go_sem, z0, z1, z2, z3, z4, z5, z6]) rfl ⟨true, (some ⟨bq, 0, none⟩), c, rfl, ?_, ?_, fun k hk hkp => ?_⟩
      · refine fin_both (G' := G) hN (by rw [HS.out]; exact Nat.le_refl _) HD1.out (fun b hb => .inl ⟨(HG.out b hb).1, (HG.out b hb).2.1⟩) (@FsAt.mono (okP (fun b => G b ∨ (w.heap.size ≤ b ∧ b < w.heap.size + 3)) (WB ⟨room, fs, false, falls, fused, fuse, part⟩ (.slice (some ⟨bq, 0, none⟩) fs.length c) ⟨kind, n, t, b, oN, oK, keep⟩ (.slice pb b.length cb) (.slice pk keep.length ck) w).heap.size) _ _ _ _ HF2.out HB3.out) (HB2.out.trans (HB3.out.mono HB2.out.size)) (fun b h1 h2 => hk5 b h2) hs5 ⟨_, HTR3.out.a⟩ ⟨_, HTR3.out.z⟩
      · refine Below.drew ?_
        have h1 : Below N w w2 := (HWB.out.mono hN).trans (HB2.out.mono (by rw [HS.out]; omega))
        exact (h1.trans (HB3.out.mono (by omega))).trans hb5
      · exact (hk5 k (by omega)).trans ((HB3.out.block k (by omega)).trans ((HB2.out.block k (by rw [HS.out]; omega)).trans (HWB.out.block k hk)))
/-- An operation, whatever it is. -/
theorem c8 (N bd m : Nat) (S : Ds) (p : Option Addr) (c : Nat) (o : Opn) (pb pk : Option Addr) (cb ck : Nat) (w : World) (hb : Both N bd S p w) (hN : N ≤ w.heap.size) (hok : Ok m S) (hm : m ≤ 100000) (hl : Lim S) (hs : o.small) (hR : RdN N w (.slice pb o.b.length cb) o.b) (hI : RdIN N w (.slice pk o.keep.length ck) o.keep) :
    Calls Try.prog 8 #[ptr bd, MV S (.slice p S.fs.length c), .agg (opc o (.slice pb o.b.length cb) (.slice pk o.keep.length ck))] w (DoOut N bd (S.does o) w) := by
  unfold Ds.does
  obtain ⟨q1, q2, q3⟩ := hs
  by_cases h0 : o.kind = 0
  · rw [if_pos h0]
    exact do_0 N bd m S p c o pb pk cb ck w hb hN hok hm hl hR (by omega) (by omega) h0
  rw [if_neg h0]
  by_cases h1 : o.kind = 1
  · rw [if_pos h1]
    exact do_1 N bd m S p c o pb pk cb ck w hb hN hok hm hl h1
  rw [if_neg h1]
  by_cases h2 : o.kind = 2
  · rw [if_pos h2]
    exact do_2 N bd m S p c o pb pk cb ck w hb hN hok hm hl (by omega) h2
  rw [if_neg h2]
  by_cases h3 : o.kind = 3
  · rw [if_pos h3]
    exact do_3 N bd m S p c o pb pk cb ck w hb hN hok hm hl h3
  rw [if_neg h3]
  by_cases h4 : o.kind = 4
  · rw [if_pos h4]
    exact do_4 N bd m S p c o pb pk cb ck w hb hN hok hm hl h4
  rw [if_neg h4]
  by_cases h5 : o.kind = 5
  · rw [if_pos h5]
    exact do_5 N bd m S p c o pb pk cb ck w hb hN hok hm hl h5
  rw [if_neg h5]
  by_cases h6 : o.kind = 6
  · rw [if_pos h6]
    exact do_6 N bd m S p c o pb pk cb ck w hb hN hok hm hl h6
  rw [if_neg h6]
  by_cases h7 : o.kind = 7
  · rw [if_pos h7]
    exact do_7 N bd m S p c o pb pk cb ck w hb hN hok hm hl hI (by omega) h7
  rw [if_neg h7]
  exact do_e N bd m S p c o pb pk cb ck w hb hN hok hm hl ⟨h0, h1, h2, h3, h4, h5, h6, h7⟩
end Go.Proofs.DK
