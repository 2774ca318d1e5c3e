/- Proved: what 'place' and 'Send' come to. Each theorem says its own conditions. -/
import Derived.Test.YtopnmikijbajfaaNc
set_option linter.unusedVariables false
set_option linter.unusedSimpArgs false
namespace Go.Proofs.NT
open Go.RowKit Go.Ai
abbrev nptr (bn : Nat) : Value := .pointer (some ⟨bn, 0, none⟩)
theorem c20z (bn : Nat) (k : Int) (p : Option Addr) (c : Nat) (w : World) (h : w.cell? ⟨bn, 0, none⟩ = some (.slice p 0 c)) : Calls Try.prog 20 #[nptr bn, .int .i64 k] w fun e w' => e = .returned (.tuple #[.int .i64 0, .bool false]) ∧ w = w' := by
  go_enter Try.func20, Try.ntmps20
  go_wp2
  exact bodyPost_ret (v := .tuple #[.int .i64 0, .bool false]) (by simp [results, Try.results20, go_sem]) rfl ⟨rfl, rfl⟩
set_option maxHeartbeats 1000000 in
theorem c20 (bn : Nat) (k : Int) (p : Option Addr) (l c : Nat) (w : World) (h : w.cell? ⟨bn, 0, none⟩ = some (.slice p l c)) (hl : 0 < l) (hl2 : l ≤ 512) : Calls Try.prog 20 #[nptr bn, .int .i64 k] w fun e w' => e = .returned (.tuple #[.int .i64 ((k.toNat % l : Nat) : Int), .bool true]) ∧ w = w' := by
  have e1 : ¬ ((l : Int) = 0) := by omega
  have e2 : ¬ (l = 0) := by omega
  rcases Int.lt_or_le k 0 with hk | hk
  · have e3 : k.toNat = 0 := by omega
    have e4 : (0 : Int).tmod (l : Int) = 0 := by simp
    rw [e3]
    go_enter Try.func20, Try.ntmps20
    go_wp2
    exact bodyPost_ret (v := .tuple #[.int .i64 0, .bool true]) (by simp [results, Try.results20, go_sem]) rfl ⟨by simp, rfl⟩
  · obtain ⟨n, rfl⟩ : ∃ n : Nat, k = n := ⟨k.toNat, by omega⟩
    have e4 : (n : Int).tmod (l : Int) = ((n % l : Nat) : Int) := by rw [Int.tmod_eq_emod_of_nonneg (by omega)]; simp
    have e5 : ¬ ((n : Int) < 0) := by omega
    go_enter Try.func20, Try.ntmps20
    go_wp2
    exact bodyPost_ret (v := .tuple #[.int .i64 ((n % l : Nat) : Int), .bool true]) (by simp [results, Try.results20, go_sem]) rfl ⟨by simp, rfl⟩
theorem info39 : (Try.prog.info? 39).map (fun i => (i.zero, i.size, i.bytes)) = some (some (.agg #[.int .u32 0, .int .u32 0, .slice none 0 0]), 3, 32) := by kernel_rfl
theorem info_parts {t : TypeId} {z : Value} {n b : Nat} (h : (Try.prog.info? t).map (fun i => (i.zero, i.size, i.bytes)) = some (some z, n, b)) : ∃ i, Try.prog.info? t = some i ∧ i.zero = some z ∧ i.size = n ∧ i.bytes = b := by
  cases e : Try.prog.info? t with
  | none => rw [e] at h; cases h
  | some i =>
    rw [e] at h
    simp only [Option.map_some, Option.some.injEq, Prod.mk.injEq] at h
    exact ⟨i, rfl, h.1, h.2.1, h.2.2⟩
/-- A mail put behind. -/
theorem NetAt.snoc {F : Nat → Prop} {bn : Nat} {L : List Ml} {w w2 w3 w4 : World} {lv : Value} {xs : List Value} {a b : Int} {s : List UInt8} {v : Value} {g cap : Nat}
    (h1 : w.heap[bn]? = some (.cells #[lv] 56 (0, 0))) (h2 : w.ownsRow 0 39 3 lv L.length xs) (h3 : ∀ g, lv.ownBlock = some g → F g ∧ g ≠ bn) (h4 : F bn) (h5 : Rows mlE (fun b => F b ∧ b ≠ bn ∧ lv.ownBlock ≠ some b) w xs L)
    (hB : Below w.heap.size w w2) (hb : BytAt (w.heap.size ≤ ·) w2 v s) (hB3 : Below w2.heap.size w2 w3) (hown : w4.ownsRow 0 39 3 (.slice (some ⟨g, 0, none⟩) (L.length + 1) cap) (L.length + 1) (xs ++ [.int .u32 a, .int .u32 b, v])) (hgrow : w3.grownBy w4 lv.ownBlock) (hat : lv.ownBlock = some g ∨ g = w3.heap.size) (hlt : g < w4.heap.size) :
    NetAt (fun b => F b ∨ w.heap.size ≤ b) bn (L ++ [⟨a, b, s⟩]) (w4.setCell ⟨bn, 0, none⟩ (.slice (some ⟨g, 0, none⟩) (L.length + 1) cap)) ∧ Turn F w (w4.setCell ⟨bn, 0, none⟩ (.slice (some ⟨g, 0, none⟩) (L.length + 1) cap)) := by
  have hbn : bn < w.heap.size := (Array.getElem?_eq_some_iff.1 h1).1
  have s2 := hB.size
  have s3 := hB3.size
  have s4 := hgrow.size
  have hlv : lv.ownBlock ≠ some bn := fun e => (h3 bn e).2 rfl
  have hgbn : g ≠ bn := by
    rcases hat with h | h
    · exact (h3 g h).2
    · omega
  have hold : ∀ b, b < w2.heap.size → lv.ownBlock ≠ some b → g ≠ b := fun b hb ho e => by
    subst e
    rcases hat with h | h
    · exact ho h
    · omega
  have hk : Keeps (fun b => lv.ownBlock ≠ some b) w3 w4 := ⟨hgrow.size, fun b hb ho => hgrow.block b hb (fun e => ho e.symm)⟩
  have hk3 : Keeps (fun b => lv.ownBlock ≠ some b) w2 w4 := (Keeps.below hB3).trans hk
  have hk2 : Keeps (fun b => lv.ownBlock ≠ some b) w w4 := (Keeps.below hB).trans hk3
  have hset : ∀ W, Keeps (fun b => b ≠ bn) W (W.setCell ⟨bn, 0, none⟩ (.slice (some ⟨g, 0, none⟩) (L.length + 1) cap)) := fun W => ⟨by rw [World.size_setCell]; exact Nat.le_refl _, fun b _ ho => Below.heap_setCell _ _ _ _ ho⟩
  have hblk : w4.heap[bn]? = some (.cells #[lv] 56 (0, 0)) := (hk2.2 bn hbn hlv).trans h1
  refine ⟨⟨.slice (some ⟨g, 0, none⟩) (L.length + 1) cap, xs ++ [.int .u32 a, .int .u32 b, v], ?_, ?_, ?_, .inl h4, ?_⟩, ?_⟩
  · rw [heap_setCell hblk]; rfl
  · rw [List.length_append]
    exact own_keeps hown (hset w4) fun g' e => by cases e; exact hgbn
  · intro g' e
    cases e
    refine ⟨?_, hgbn⟩
    rcases hat with h | h
    · exact .inl (h3 g h).1
    · exact .inr (by show w.heap.size ≤ g; omega)
  · refine Rows.mono (W := w4) ?_ ((hset w4).less fun b _ ho => ho.2.1)
    refine Rows.snoc ?_ ?_
    · refine Rows.weaken (ok := fun b => (F b ∧ b ≠ bn ∧ lv.ownBlock ≠ some b) ∧ b < w.heap.size) ?_ fun b hb ho => ⟨.inl ho.1.1, ho.1.2.1, fun e => hold b (by omega) ho.1.2.2 (Option.some.inj e)⟩
      exact Rows.mono (Rows.weaken h5 fun b hb ho => ⟨ho, hb⟩) (hk2.less fun b _ ho => ho.1.2.2)
    · refine ⟨v, rfl, ?_⟩
      refine BytAt.weaken (ok := fun b => w.heap.size ≤ b ∧ b < w2.heap.size) ?_ fun b hb ho => ⟨.inr ho.1, by omega, fun e => hold b ho.2 (fun e => by have := (h2.lt b e).2; omega) (Option.some.inj e)⟩
      exact BytAt.mono (BytAt.weaken hb fun b hb ho => ⟨ho, hb⟩) (hk3.less fun b _ ho e => by have := (h2.lt b e).2; omega)
  · refine Turn.trans (F' := F) ?_ (Turn.set w4 _ _ h4) (fun b _ h => h)
    refine Turn.trans (F' := F) (Turn.of (hB.trans (hB3.mono s2))) (Turn.grown hgrow fun g' e => (h3 g' e).1) (fun b _ h => h)
def SendOut (F : Nat → Prop) (bn : Nat) (L : List Ml) (m : Ml) (w : World) (e : Ending) (w' : World) : Prop :=
  e = .returned (.int .i64 0) ∧ NetAt (fun b => F b ∨ w.heap.size ≤ b) bn (L ++ [m]) w' ∧ Turn F w w'
set_option maxRecDepth 100000 in
set_option maxHeartbeats 2000000 in
theorem c9f {F : Nat → Prop} {bn : Nat} {L : List Ml} {w : World} (a b : Int) (s : List UInt8) (v : Value) (hs : s.length ≤ 16384) (hv : BIn w v s) (hL : 512 ≤ L.length) (hL2 : L.length ≤ 512) (h : NetAt F bn L w) : Calls Try.prog 9 #[nptr bn, .int .u32 a, .int .u32 b, v] w fun e w' => e = .returned (.int .i64 7) ∧ w = w' := by
  obtain ⟨p, c, hc⟩ := h.cell
  have hl : L.length = 512 := by omega
  rw [hl] at hc
  obtain ⟨q, d, rfl⟩ := hv.slice
  have e1 : decide ((16384 : Int) < (s.length : Int)) = false := by simp; omega
  clear h hv
  generalize s.length = sl at *
  go_enter Try.func9, Try.ntmps9
  go_wp2
  go_ret
  exact ⟨rfl, rfl⟩
set_option maxRecDepth 100000 in
set_option maxHeartbeats 4000000 in
theorem c9 {F : Nat → Prop} {bn : Nat} {L : List Ml} {w : World} (a b : Int) (s : List UInt8) (v : Value) (hs : s.length ≤ 16384) (hv : BIn w v s) (hL : L.length < 512) (h : NetAt F bn L w) : Calls Try.prog 9 #[nptr bn, .int .u32 a, .int .u32 b, v] w (SendOut F bn L ⟨a, b, s⟩ w) := by
  obtain ⟨lv, xs, h1, h2, h3, h4, h5⟩ := h
  obtain ⟨p, c, rfl⟩ := own_slice h2
  have hc : w.cell? ⟨bn, 0, none⟩ = some (.slice p L.length c) := cell_of_heap h1 0
  have hfz : w.frozen? ⟨bn, 0, none⟩ = false := by simp [World.frozen?, h1]
  have hbn : bn < w.heap.size := (Array.getElem?_eq_some_iff.1 h1).1
  obtain ⟨q, d, rfl⟩ := hv.slice
  obtain ⟨i0, hi0, hz0, hz1, hz2⟩ := info_parts info39
  have e1 : decide ((16384 : Int) < (s.length : Int)) = false := by simp; omega
  have e2 : decide ((512 : Int) ≤ (L.length : Int)) = false := by simp; omega
  have hlen : L.length ≤ 512 := by omega
  have H1 := Lib.hid h1; have H2 := Lib.hid h2; have H3 := Lib.hid h3; have H5 := Lib.hid h5; have HV := Lib.hid hv
  have hlv : (Value.slice p L.length c).ownBlock ≠ some bn := fun e => (h3 bn e).2 rfl
  have K19 := c19 a b s (.slice q s.length d)
  clear h1 h2 h3 h5 hv
  generalize hN : L.length = n at *
  generalize hSL : s.length = sl at *
  go_enter Try.func9, Try.ntmps9
  go_wp2
  go_region_law (first
    | (go_simp; go_at_call 19; refine (K19 _ (by omega) (HV.out.mono (Below.refl _ w).drew)).mono ?_; rintro e w2 ⟨p2, l2, c2, rfl, hb2, hB2⟩; have hB2' : Below w.heap.size w w2 := ((Below.refl _ w).drew).trans (hB2.mono (by simp)); obtain ⟨hc2, hf2⟩ := bcell hB2'; have hz2' : bn < w2.heap.size := (by have := hB2'.size; omega); have hne2 : ¬ (bn = w2.heap.size) := (by omega); have hne3 : ¬ (w2.heap.size = bn) := (by omega); have g0 := (hc2 bn 0 hbn).trans hc; have g1 := (hf2 bn 0 hbn).trans hfz; have HB2 := Lib.hid hB2'; have HBY := Lib.hid hb2; have HO2 := Lib.hid (own_below H2.out hB2'); clear hB2 hB2' hb2 hc2 hf2)
    | (refine step_append_lies _ (by rfl) _ _ _ (by rfl) 0 39 i0 _ 3 32 Try.underlying35 hi0 hz0 hz1 hz2 rfl (by omega) (.slice p n c) n xs (by rfl) (HO2.out.alloc _) ⟨w2.heap.size, 0, none⟩ 1 1 [.int .u32 a, .int .u32 b, .slice p2 l2 c2] (by rfl) (by rfl) (World.news_of_block (cs := #[.int .u32 a, .int .u32 b, .slice p2 l2 c2]) (t := 39) (fr := (0, 0)) (heap_alloc_new w2 _)) (by simp [Value.oneCell']) (by omega) (by unfold maxLen; omega) (by omega) (by omega) (w2.heap.size + 1) (by simp) ?_; intro gg cap w4 hown4 hgrow hat hlt4; have gb := (hgrow.block bn (by simp; omega) (Ne.symm hlv)); have gb0 := (World.cell?_of_block (a := ⟨bn, 0, none⟩) gb).trans (((((Below.refl _ w2).alloc (Nat.le_refl _) _)).cell (p := ⟨bn, 0, none⟩) hz2').trans g0); have gb1 := (World.frozen?_of_block (a := ⟨bn, 0, none⟩) gb).trans (((((Below.refl _ w2).alloc (Nat.le_refl _) _)).frozen (p := ⟨bn, 0, none⟩) hz2').trans g1); clear gb; have HO4 := Lib.hid hown4; have HG4 := Lib.hid hgrow; have HA4 := Lib.hid hat; clear hown4 hgrow hat))
  all_goals go_wp2
  all_goals go_ret
  all_goals (subst hN; obtain ⟨r1, r2⟩ := NetAt.snoc H1.out H2.out H3.out h4 H5.out HB2.out (by simpa using HBY.out) ((Below.refl _ w2).alloc (Nat.le_refl _) _) HO4.out HG4.out (by simpa using HA4.out) (by assumption); exact ⟨rfl, r1, r2⟩)
end Go.Proofs.NT
