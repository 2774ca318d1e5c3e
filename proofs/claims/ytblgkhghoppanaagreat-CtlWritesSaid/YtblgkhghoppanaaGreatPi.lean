/- Proved: contracts of single functions of the program and lemmas that they need; each theorem says its own conditions. -/
import Derived.Test.YtblgkhghoppanaaGreatPh
set_option linter.unusedVariables false
set_option linter.unusedSimpArgs false
namespace Go.Proofs.PK
open Go.RowKit
theorem conv_new (w : World) (t : List Nat) (hby : Byt t) : ∃ cap W2, (convert 9 24 (.string (S t))).run Tryz.prog w = .ok (.slice (some ⟨w.heap.size, 0, none⟩) t.length cap) W2 ∧ Below w.heap.size w W2 ∧ w.heap.size < W2.heap.size ∧ Rd W2 (.slice (some ⟨w.heap.size, 0, none⟩) t.length cap) t := by
  have h := run_bytes_of_string (P := Tryz.prog) w 9 24 5 (S t) Tryz.underlying9 Tryz.underlying24 Tryz.underlying5
  rw [S_size] at h
  refine ⟨_, _, h, ((Below.refl _ w).drew).alloc (by simp) _, by simp, w.heap.size, 0, _, rfl, fun _ => by simp, fun j x hx => ?_⟩
  rw [Addr.add_lit]
  have h2 := heap_alloc_new w.drew (.cells (bytesRow (S t) (grownCap w t.length 0 5)) 5 ((bytesRow (S t) (grownCap w t.length 0 5)).size, (bytesRow (S t) (grownCap w t.length 0 5)).size + 1))
  rw [show w.drew.heap.size = w.heap.size from rfl] at h2
  unfold World.cell?
  simp only [Nat.zero_add]
  rw [h2]
  have hj : j < (B t).length := (List.getElem?_eq_some_iff.1 hx).1
  rw [B_len, Nat.mul_one] at hj
  have hs := strCells_S hby
  unfold Lib.strCells at hs
  have hx2 : ((S t).data.toList.map fun b => Value.int .u8 b.toNat)[j]? = some x := by rw [hs]; exact hx
  have hsz := S_size t
  show (bytesRow (S t) (grownCap w t.length 0 5))[j]? = some x
  unfold bytesRow
  rw [Array.getElem?_append_left (by rw [Array.size_map]; show j < (S t).size; omega)]
  rw [← Array.getElem?_toList]
  simpa using hx2
abbrev w13 (w : World) : World := w.alloc (.cells #[.int .u8 0, .int .u32 0, .int .u64 0, .slice none 0 0] 26)
/-- What is told, of bytes. -/
def ctlB (L : List Nat) (c : Nat) : Except Nat (Nat × Nat × Nat × List Nat) := match dec 0 (L.drop 1) with
    | .error e => .error e
    | .ok (sub, k) => if 4294967295 < sub then .error 5 else match dec 0 (L.drop (1 + k)) with
      | .error e => .error e
      | .ok (n, k2) => match txt L (1 + k + k2) with
        | .error e => .error e
        | .ok (t, e) => if e < L.length then .error 2 else .ok (c, sub, n, t)
def ctlOf (l : List Nat) : Except Nat (Nat × Nat × Nat × List Nat) := match l with
  | [] => .error 3
  | c :: r => ctlB (c :: r) c
theorem w13_cells {w W : World} (hB : Below (w13 w).heap.size (w13 w) W) : W.cell? ⟨w.heap.size, 0, none⟩ = some (.int .u8 0) ∧ W.cell? ⟨w.heap.size, 1, none⟩ = some (.int .u32 0) ∧ W.cell? ⟨w.heap.size, 2, none⟩ = some (.int .u64 0) ∧ W.cell? ⟨w.heap.size, 3, none⟩ = some (.slice none 0 0) ∧
    W.frozen? ⟨w.heap.size, 0, none⟩ = false ∧ W.frozen? ⟨w.heap.size, 1, none⟩ = false ∧ W.frozen? ⟨w.heap.size, 2, none⟩ = false ∧ W.frozen? ⟨w.heap.size, 3, none⟩ = false := by
  obtain ⟨hc, hf⟩ := bcell hB
  have hn : w.heap.size < (w13 w).heap.size := by simp
  have h : (w13 w).heap[w.heap.size]? = some (.cells #[.int .u8 0, .int .u32 0, .int .u64 0, .slice none 0 0] 26) := heap_alloc_new w _
  simp only [hc _ _ hn, hf _ _ hn]
  unfold World.cell? World.frozen?
  simp only [h]
  exact ⟨rfl, rfl, rfl, rfl, rfl, rfl, rfl, rfl⟩
theorem Rd.set {W : World} {g o n cap : Nat} {l : List Nat} (h : Rd W (.slice (some ⟨g, o, none⟩) n cap) l) {b i : Nat} (u : Value) (hne : b ≠ g) : Rd (W.setCell ⟨b, i, none⟩ u) (.slice (some ⟨g, o, none⟩) n cap) l := by
  obtain ⟨b', o', cap', hv, h1, h2⟩ := h
  cases hv
  refine ⟨g, o, cap, rfl, fun hp => by simp [World.setCell]; exact h1 hp, fun j x hx => ?_⟩
  have := h2 j x hx
  rw [Addr.add_lit] at this ⊢
  rw [World.cell?_setCell_other (h := fun e => hne (by cases e; rfl))]
  exact this
theorem txt_err {l : List Nat} {a e : Nat} (h : txt l a = .error e) : ¬ e = 0 := by
  unfold txt at h
  split at h
  · rename_i e' h'
    cases h
    exact dec_err _ _ _ h'
  · split at h
    · cases h; omega
    · split at h
      · cases h; omega
      · cases h
theorem txt_byt {l t : List Nat} {a e : Nat} (hby : Byt l) (h : txt l a = .ok (t, e)) : Byt t := by
  unfold txt at h
  split at h
  · cases h
  · split at h
    · cases h
    · split at h
      · cases h
      · cases h; exact hby.sub _ _
def GotC (r : Except Nat (Nat × Nat × Nat × List Nat)) (w : World) (e : Ending) (w' : World) : Prop := match r with
  | .error er => e = .returned (.tuple #[argn 0 0 0 (.slice none 0 0), .int .i64 er]) ∧ Below w.heap.size w w'
  | .ok (a, b, d, t) => ∃ sv, e = .returned (.tuple #[argn a b d sv, .int .i64 0]) ∧ RdN w' sv t ∧ Below w.heap.size w w'
theorem RdC.mono {w w' : World} {v : Value} {l : List Nat} (h : RdC w v l) (hB : Below w.heap.size w w') : RdC w' v l := by
  obtain ⟨b, o, cap, rfl, hc, h1, h2⟩ := h
  refine ⟨b, o, cap, rfl, hc, fun hp => Nat.lt_of_lt_of_le (h1 hp) hB.size, fun j x hx => ?_⟩
  have hj : j < l.length := (List.getElem?_eq_some_iff.1 hx).1
  exact (hB.cell (p := ⟨b, o + j, none⟩) (h1 (by omega))).trans (h2 j x hx)
set_option maxRecDepth 100000 in
set_option maxHeartbeats 1000000 in
theorem c13b (v : Value) (L : List Nat) (c : Nat) (w : World) (h : RdC w v L) (hc : L[0]? = some c) (hby : Byt L) (hl : L.length ≤ 1000000) (res : Except Nat (Nat × Nat × Nat × List Nat)) (HRES : Hid (ctlB L c = res)) : Calls Tryz.prog 13 #[v] w (GotC res w) := by
  have hB0 : Below w.heap.size w (w13 w) := (Below.refl _ w).alloc (Nat.le_refl _) _
  have h0 := h.mono hB0
  have hlt : 0 < L.length := (List.getElem?_eq_some_iff.1 hc).1
  have hlen : ¬ L.length = 0 := by omega
  have D1 : Calls Tryz.prog 34 #[v, .int .i64 1] (w13 w) (Got 1 (dec 0 (L.drop 1)) (w13 w)) := c34 v _ 1 _ h0 hby hl (by omega)
  obtain ⟨b, o, cap, hv, hcap, hb, hr⟩ := id h
  have hcell := hr 0 c hc
  have hbl := hb hlt
  subst hv
  rw [Nat.add_zero] at hcell
  have hc0 : (w13 w).cell? ⟨b, o, none⟩ = some (.int .u8 c) := (hB0.cell (p := ⟨b, o, none⟩) hbl).trans hcell
  have HH := Lib.hid h0; have HY := Lib.hid hby; have HB0 := Lib.hid hB0
  clear h h0 hr hcell hb hby hB0 hc
  rcases hd1 : dec 0 (L.drop 1) with er | ⟨sub, k⟩
  · obtain rfl : res = .error er := by rw [← HRES.out]; unfold ctlB; rw [hd1]
    rw [hd1] at D1
    change Calls _ _ _ _ (fun e w' => e = .returned (.tuple #[.int .u64 0, .int .i64 0, .int .i64 er]) ∧ w' = w13 w) at D1
    have he := dec_err _ _ _ hd1
    clear hd1
    go_enter Tryz.func13, Tryz.ntmps13
    go_wp2_with (first | (go_at_call 34; (with_reducible refine D1.mono ?_); rintro e w1 ⟨rfl, rfl⟩))
    exact bodyPost_ret (v := .tuple #[argn 0 0 0 (.slice none 0 0), .int .i64 er]) (by simp [results, Tryz.results13, go_sem]) rfl ⟨rfl, by repeat (first | exact HB0.out | refine Below.setCell ?_ (Nat.le_refl _) _)⟩
  · rw [hd1] at D1
    change Calls _ _ _ _ (fun e w' => e = .returned (.tuple #[.int .u64 sub, .int .i64 ((1 + k : Nat) : Int), .int .i64 0]) ∧ w' = w13 w) at D1
    have hk := (dec_le _ _ _ _ hd1).2
    rw [List.length_drop] at hk
    by_cases h5 : 4294967295 < sub
    · obtain rfl : res = .error 5 := by rw [← HRES.out]; unfold ctlB; rw [hd1]; exact if_pos h5
      clear hd1 hk
      go_enter Tryz.func13, Tryz.ntmps13
      go_wp2_with (first | (go_at_call 34; (with_reducible refine D1.mono ?_); rintro e w1 ⟨rfl, rfl⟩))
      exact bodyPost_ret (v := .tuple #[argn 0 0 0 (.slice none 0 0), .int .i64 5]) (by simp [results, Tryz.results13, go_sem]) rfl ⟨rfl, by repeat (first | exact HB0.out | refine Below.setCell ?_ (Nat.le_refl _) _)⟩
    · have D2 := c34 _ _ (1 + k) _ HH.out HY.out hl (by omega)
      rcases hd2 : dec 0 (L.drop (1 + k)) with er | ⟨n, k2⟩
      · obtain rfl : res = .error er := by rw [← HRES.out]; unfold ctlB; rw [hd1]; simp only []; rw [if_neg h5, hd2]
        rw [hd2] at D2
        generalize 1 + k = e1 at *
        change Calls _ _ _ _ (fun e w' => e = .returned (.tuple #[.int .u64 0, .int .i64 0, .int .i64 er]) ∧ w' = w13 w) at D2
        have he := dec_err _ _ _ hd2
        clear hd1 hk hd2
        go_enter Tryz.func13, Tryz.ntmps13
        go_wp2_with (first | (go_at_call 34; (with_reducible refine D1.mono ?_); rintro e w1 ⟨rfl, rfl⟩) | (go_at_call 34; (with_reducible refine D2.mono ?_); rintro e w1 ⟨rfl, rfl⟩))
        exact bodyPost_ret (v := .tuple #[argn 0 0 0 (.slice none 0 0), .int .i64 er]) (by simp [results, Tryz.results13, go_sem]) rfl ⟨rfl, by repeat (first | exact HB0.out | refine Below.setCell ?_ (Nat.le_refl _) _)⟩
      · have hk2 := (dec_le _ _ _ _ hd2).2
        rw [List.length_drop] at hk2
        rw [hd2] at D2
        change Calls _ _ _ _ (fun e w' => e = .returned (.tuple #[.int .u64 n, .int .i64 ((1 + k + k2 : Nat) : Int), .int .i64 0]) ∧ w' = w13 w) at D2
        have D3 := c35 _ _ (1 + k + k2) _ HH.out HY.out hl (by omega)
        rcases ht : txt L (1 + k + k2) with er | ⟨t, e3⟩
        · obtain rfl : res = .error er := by rw [← HRES.out]; unfold ctlB; rw [hd1]; simp only []; rw [if_neg h5, hd2]; simp only []; rw [ht]
          rw [ht] at D3
          generalize 1 + k + k2 = e2 at *
          generalize 1 + k = e1 at *
          change Calls _ _ _ _ (fun e w' => e = .returned (.tuple #[.string ⟨#[]⟩, .int .i64 0, .int .i64 er]) ∧ w' = w13 w) at D3
          have he := txt_err ht
          clear hd1 hk hd2 hk2 ht
          go_enter Tryz.func13, Tryz.ntmps13
          go_wp2_with (first | (go_at_call 34; (with_reducible refine D1.mono ?_); rintro e w1 ⟨rfl, rfl⟩) | (go_at_call 34; (with_reducible refine D2.mono ?_); rintro e w1 ⟨rfl, rfl⟩) | (go_at_call 35; (with_reducible refine D3.mono ?_); rintro e w1 ⟨rfl, rfl⟩))
          exact bodyPost_ret (v := .tuple #[argn 0 0 0 (.slice none 0 0), .int .i64 er]) (by simp [results, Tryz.results13, go_sem]) rfl ⟨rfl, by repeat (first | exact HB0.out | refine Below.setCell ?_ (Nat.le_refl _) _)⟩
        · rw [ht] at D3
          change Calls _ _ _ _ (fun e w' => e = .returned (.tuple #[.string (S t), .int .i64 e3, .int .i64 0]) ∧ w' = w13 w) at D3
          by_cases h2 : e3 < L.length
          · obtain rfl : res = .error 2 := by rw [← HRES.out]; unfold ctlB; rw [hd1]; simp only []; rw [if_neg h5, hd2]; simp only []; rw [ht]; exact if_pos h2
            generalize 1 + k + k2 = e2 at *
            generalize 1 + k = e1 at *
            clear hd1 hk hd2 hk2 ht
            go_enter Tryz.func13, Tryz.ntmps13
            go_wp2_with (first | (go_at_call 34; (with_reducible refine D1.mono ?_); rintro e w1 ⟨rfl, rfl⟩) | (go_at_call 34; (with_reducible refine D2.mono ?_); rintro e w1 ⟨rfl, rfl⟩) | (go_at_call 35; (with_reducible refine D3.mono ?_); rintro e w1 ⟨rfl, rfl⟩))
            exact bodyPost_ret (v := .tuple #[argn 0 0 0 (.slice none 0 0), .int .i64 2]) (by simp [results, Tryz.results13, go_sem]) rfl ⟨rfl, by repeat (first | exact HB0.out | refine Below.setCell ?_ (Nat.le_refl _) _)⟩
          · obtain rfl : res = .ok (c, sub, n, t) := by rw [← HRES.out]; unfold ctlB; rw [hd1]; simp only []; rw [if_neg h5, hd2]; simp only []; rw [ht]; exact if_neg h2
            have hbt := txt_byt HY.out ht
            obtain ⟨cap2, W2, hcv, hBW, hlW, hRW⟩ := conv_new (w13 w) t hbt
            generalize 1 + k + k2 = e2 at *
            generalize 1 + k = e1 at *
            obtain ⟨x0, x1, x2, x3, f0, f1, f2, f3⟩ := w13_cells hBW
            clear hd1 hk hd2 hk2 ht hbt
            go_enter Tryz.func13, Tryz.ntmps13
            go_wp2_with (first | (go_at_call 34; (with_reducible refine D1.mono ?_); rintro e w1 ⟨rfl, rfl⟩) | (go_at_call 34; (with_reducible refine D2.mono ?_); rintro e w1 ⟨rfl, rfl⟩) | (go_at_call 35; (with_reducible refine D3.mono ?_); rintro e w1 ⟨rfl, rfl⟩))
            refine bodyPost_ret (v := .tuple #[argn c sub n (.slice (some ⟨w.heap.size + 1, 0, none⟩) t.length cap2), .int .i64 0]) (by simp [results, Tryz.results13, go_sem, x0, x1, x2, x3]) rfl ⟨_, rfl, .inr ?_, ?_⟩
            · rw [show (w13 w).heap.size = w.heap.size + 1 from by simp] at hRW
              have hne : w.heap.size ≠ w.heap.size + 1 := by omega
              exact (((hRW.set _ hne).set _ hne).set _ hne).set _ hne
            · exact ((((btrans HB0.out hBW).setCell (Nat.le_refl _) _).setCell (Nat.le_refl _) _).setCell (Nat.le_refl _) _).setCell (Nat.le_refl _) _
theorem c13 (v : Value) (l : List Nat) (w : World) (h : RdC w v l) (hby : Byt l) (hl : l.length ≤ 1000000) : Calls Tryz.prog 13 #[v] w (GotC (ctlOf l) w) := by
  match l, h, hby, hl with
  | c :: r, h, hby, hl => exact c13b v (c :: r) c w h rfl hby hl _ (Lib.hid rfl)
  | [], ⟨b, o, cap, hv, _⟩, _, _ =>
    have hB0 : Below w.heap.size w (w13 w) := (Below.refl _ w).alloc (Nat.le_refl _) _
    subst hv
    show Calls _ _ _ _ (GotC (.error 3) w)
    go_enter Tryz.func13, Tryz.ntmps13
    go_wp2
    exact bodyPost_ret (v := .tuple #[argn 0 0 0 (.slice none 0 0), .int .i64 3]) (by simp [results, Tryz.results13, go_sem]) rfl ⟨rfl, by repeat (first | exact hB0 | refine Below.setCell ?_ (Nat.le_refl _) _)⟩
end Go.Proofs.PK
