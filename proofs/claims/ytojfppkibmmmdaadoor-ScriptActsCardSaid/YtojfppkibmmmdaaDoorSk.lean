/- Proved: acts that read alike are the same, and their events may be; each theorem says its own conditions. -/
import Derived.Test.YtojfppkibmmmdaaDoorSf
import Derived.Test.YtojfppkibmmmdaaDoorSs
import Derived.Test.YtojfppkibmmmdaaDoorSe
set_option linter.unusedVariables false
set_option linter.unusedSimpArgs false
namespace Go.Proofs.SA
open Go.RowKit
theorem still_PI (f lo : Nat) : Still (PI f lo) := ⟨fun _ _ _ _ _ _ h k => h.mono k, fun _ _ _ _ _ _ h k => h.weaken k⟩
theorem c10 {PP PP' : Pats} (HS : Still PP) (HS' : Still PP') {ok ok' : Nat → Prop} {W : World} {ca cb : List Value} {a : PA} (h : ActIs PP ok W ca a) (h' : ActIs PP' ok' W cb a) (hby : ∀ x ∈ a.byt, x < 256)
    (CS : ∀ j W' v6 v7 u6 u7, PP ok j W' v6 v7 → PP' ok' j W' u6 u7 → Calls Tryd.prog 14 #[.agg #[v6, v7], .agg #[u6, u7]] W' (Tru W')) : Calls Tryd.prog 10 #[.agg ca.toArray, .agg cb.toArray] W (Tru W) := by
  obtain ⟨v5, v6, v7, v8, v9, rfl, h5, h6, h8, h9⟩ := h
  obtain ⟨u5, u6, u7, u8, u9, rfl, k5, k6, k8, k9⟩ := h'
  obtain ⟨n9, p9, q9, c9, d9, f, rfl, rfl, hn9, hk9⟩ := keep_pair h9 k9
  obtain ⟨n5, p5, q5, rfl, rfl, hn5, hk5⟩ := fld_pair h5 k5
  obtain ⟨p8, l8, m8, rfl⟩ := h8.slice
  obtain ⟨q8, l8', m8', rfl⟩ := k8.slice
  obtain ⟨p6, l6, m6, m7, rfl, rfl⟩ := h6.form
  obtain ⟨q6, l6', m6', m7', rfl, rfl⟩ := k6.form
  refine c10a a p5 q5 p6 q6 p8 q8 p9 q9 n5 l6 m6 l6' m6' l8 m8 l8' m8' n9 c9 d9 m7 m7' (St a.byt) W (fun W' hB => conv_byt (h8.mono (Go.Ai.Keeps.below hB)) hby) (fun W' hB => conv_byt (k8.mono (Go.Ai.Keeps.below hB)) hby) hn9 f hk9 hn5 hk5 fun W' hB => ?_
  have e6 := h6.mono HS (Go.Ai.Keeps.below hB)
  have e6' := k6.mono HS' (Go.Ai.Keeps.below hB)
  cases hp : a.pat with
  | none =>
    rw [hp] at e6 e6'
    obtain ⟨r1, r2⟩ := e6
    obtain ⟨r3, r4⟩ := e6'
    rw [r1, r2, r3, r4]
    exact (c14n W').mono fun _ _ h => h
  | some j =>
    rw [hp] at e6 e6'
    exact CS j W' _ _ _ _ e6.2 e6'.2
theorem same_PI (f : Nat) (hf : f = 13 ∨ f = 15) {ok ok' : Nat → Prop} (j : Nat) (W' : World) (v6 v7 u6 u7 : Value) (h : PI 13 100 ok j W' v6 v7) (k : PI f 160 ok' j W' u6 u7) : Calls Tryd.prog 14 #[.agg #[v6, v7], .agg #[u6, u7]] W' (Tru W') := (c14 f hf j W' v6 v7 u6 u7 h k).mono fun _ _ h => h
noncomputable def mayV (y : Nat) : Bool := Go.Ai.answers (Go.Ai.aCallT Tryd.prog Go.Ai.noSums (Go.Ai.runT Tryd.prog Go.Ai.noSums 100 60) 24 [.agg (val y).toArray] (Go.Ai.blank Tryd.prog)) Go.Ai.isTrue
theorem may_all : ((List.range 128).all fun y => mayV y) = true := by kernel_rfl
theorem c24 (y : Nat) (h : y < 128) (W : World) : Calls Tryd.prog 24 #[.agg (val y).toArray] W (Tru W) := by
  have hg : mayV y = true := List.all_eq_true.1 may_all y (List.mem_range.2 h)
  refine (Go.Ai.ai_closed progOk' mixed' 100 60 24 [.agg (val y).toArray] (.bool true) ?_ (Go.Ai.aCallT_imp (Go.Ai.runT_sim Tryd.prog Go.Ai.noSums 100 60) (Go.Ai.answers_true hg)) rfl W).mono fun _ _ h => h
  unfold val
  split <;> rfl
set_option maxRecDepth 100000 in
set_option maxHeartbeats 1000000 in
theorem c11a (t : Int) (p5 : Option Addr) (n5 : Nat) (W : World) (h5 : n5 ≤ 1) (hf : 0 < n5 → ∃ y b x0 x1 x2 x3, y < 128 ∧ (val y).toArray = #[x0, x1, x2, x3] ∧ p5 = some ⟨b, 0, none⟩ ∧ b < W.heap.size ∧ W.cell? ⟨b, 0, none⟩ = some x0 ∧ W.cell? ⟨b, 1, none⟩ = some x1 ∧ W.cell? ⟨b, 2, none⟩ = some x2 ∧ W.cell? ⟨b, 3, none⟩ = some x3) :
    Calls Tryd.prog 11 #[.agg #[.int .u8 t, .slice p5 n5 n5]] W (Tru W) := by
  have HF := Lib.hid hf
  clear hf
  have e0 := cell_of_heap (heap_alloc_new W (.cells #[.int .u8 t, .slice p5 n5 n5] 29)) (fz := (0, 0))
  have hB0 : Below W.heap.size W (W.alloc (.cells #[.int .u8 t, .slice p5 n5 n5] 29)) := (Below.refl _ _).alloc (Nat.le_refl _) _
  have hl0 : W.heap.size < (W.alloc (.cells #[.int .u8 t, .slice p5 n5 n5] 29)).heap.size := by simp
  have HE0 := Lib.hid e0
  have HB0 := Lib.hid hB0
  clear e0 hB0
  go_enter Tryd.func11, Tryd.ntmps11
  go_wp2
  generalize W.alloc (.cells #[.int .u8 t, .slice p5 n5 n5] 29) = W0 at *
  go_loopw [7] (fun i wr => ∃ k : Nat, i = .int .i64 k ∧ k ≤ n5 ∧ Below W0.heap.size W0 wr) (fun i _ => n5 - (intOf i).toNat)
  case atStart => exact ⟨0, rfl, Nat.zero_le _, Below.refl _ _⟩
  case round =>
    obtain ⟨k, rfl, hk, hB⟩ := hrel
    have x1 := ((bcell hB).1 _ 1 hl0).trans (HE0.out 1)
    simp only [List.getElem?_toArray, List.getElem?_cons_succ, List.getElem?_cons_zero] at x1
    have HB := Lib.hid hB
    have hBx : Below W.heap.size W wr := HB0.out.trans (hB.mono HB0.out.size)
    have HX := Lib.hid hBx
    clear hB hBx
    by_cases hlt : k < n5
    · obtain ⟨y, b, y0, y1, y2, y3, hy, hv, rfl, hb, r0, r1, r2, r3⟩ := HF.out (by omega)
      obtain rfl : k = 0 := by omega
      have r0 := ((bcell HX.out).1 _ 0 hb).trans r0
      have r1 := ((bcell HX.out).1 _ 1 hb).trans r1
      have r2 := ((bcell HX.out).1 _ 2 hb).trans r2
      have r3 := ((bcell HX.out).1 _ 3 hb).trans r3
      have K24 := c24 y hy wr
      rw [hv] at K24
      clear hv
      go_wp2_with (go_at_call 24; refine K24.mono ?_; rintro e w3 ⟨rfl, hB3⟩)
      go_roundw
      case rel => exact ⟨0 + 1, by go_num, by omega, btrans HB.out hB3⟩
      case measure => simp [intOf]; omega
    · have h8 : decide ((n5 : Int) ≤ 8) = true := by simp; omega
      go_wp2
      go_ret
      exact ⟨rfl, HX.out⟩
theorem c11 {ok : Nat → Prop} {W : World} {v5 : Value} {o : Option Nat} (t : Int) (h : FldIs ok W v5 o) : Calls Tryd.prog 11 #[.agg #[.int .u8 t, v5]] W (Tru W) := by
  obtain ⟨n5, p5, q5, rfl, e, hn5, hk5⟩ := fld_pair h h
  refine c11a t p5 n5 W hn5 fun hp => ?_
  obtain ⟨y, b, b', x0, x1, x2, x3, hy, hv, rfl, _, hb, _, r0, r1, r2, r3, _⟩ := hk5 hp
  exact ⟨y, b, x0, x1, x2, x3, hy, hv, rfl, hb, r0, r1, r2, r3⟩
end Go.Proofs.SA
