/- Proved: what the law of acts comes to over bytes; each theorem says its own conditions. -/
import Derived.Test.YtojfppkibmmmdaaDoorSl
import Derived.Test.YtojfppkibmmmdaaDoorSh
import Derived.Deep.RegionWith
import Derived.Deep.RegionHeld
set_option linter.unusedVariables false
set_option linter.unusedSimpArgs false
namespace Go.Proofs.SA
open Go.RowKit
abbrev P1' : Pats := PI 13 100
abbrev P3 : Pats := PI 15 160
theorem acts_pat : ∀ (m : Nat) (L : List Nat), ∀ a ∈ actsL m L, a.kind = 2 → ∃ j, a.pat = some j
  | 0, L, a, h, _ => by simp [actsL] at h
  | m + 1, L, a, h, hk => by
    by_cases hs : L.length < 4
    · rw [actsL_short hs] at h; simp at h
    · obtain ⟨c, w, n, x, r, rfl⟩ : ∃ c w n x r, L = c :: w :: n :: x :: r := by
        match L, Nat.le_of_not_lt hs with
        | c :: w :: n :: x :: r, _ => exact ⟨c, w, n, x, r, rfl⟩
      rw [actsL_four] at h
      split at h
      · rcases List.mem_cons.1 h with rfl | h
        · simp [actC] at hk
        · exact acts_pat m _ a h hk
      · rcases List.mem_cons.1 h with rfl | h
        · have hk : kindN c = 2 := hk
          exact ⟨n % 32, by simp [actC, hk]⟩
        · exact acts_pat m _ a h hk
def R3 (w1 : World) (n : Nat) (i : Value) (wr : World) : Prop := ∃ k : Nat, i = .int .i64 k ∧ k ≤ n ∧ Below w1.heap.size w1 wr
set_option maxRecDepth 100000 in
set_option maxHeartbeats 400000 in
theorem law3g (p : Option Addr) (l cap : Nat) (w : World) (hl : 6000 < l) (hfix : ∀ w', Below w.heap.size w w' → Calls Tryd.prog 7 #[] w' (Tru w')) : Calls Tryd.prog 3 #[.slice p l cap] w (Tru w) := by
  have K7 := hfix _ (Below.refl _ w)
  clear hfix
  go_enter Tryd.func3, Tryd.ntmps3
  go_wp2_with (go_at_call 7; refine K7.mono ?_; rintro e w3 ⟨rfl, hB3⟩)
  go_ret
  exact ⟨rfl, hB3⟩
set_option maxRecDepth 100000 in
set_option maxHeartbeats 4000000 in
theorem law3 (A : List PA) (blk off l cap : Nat) (w : World) (hA : A.length ≤ 100000) (hby : ∀ a ∈ A, ∀ x ∈ a.byt, x < 256) (hpat : ∀ a ∈ A, a.kind = 2 → ∃ j, a.pat = some j) (hl : l ≤ 6000)
    (CA : ∀ w', Below w.heap.size w w' → Calls Tryd.prog 8 #[.slice (some ⟨blk, off, none⟩) l cap] w' (ActsOut P1' A w')) (CB : ∀ w', Below w.heap.size w w' → Calls Tryd.prog 9 #[.slice (some ⟨blk, off, none⟩) l cap] w' (ActsOut P3 A w'))
    (hfix : ∀ w', Below w.heap.size w w' → Calls Tryd.prog 7 #[] w' (Tru w')) : Calls Tryd.prog 3 #[.slice (some ⟨blk, off, none⟩) l cap] w (Tru w) := by
  go_enter Tryd.func3, Tryd.ntmps3
  go_wp2_with (first
    | (go_at_call 8; refine (CA _ (Below.refl _ _)).mono ?_; rintro e w1 ⟨va, rfl, ha, hB1⟩; obtain ⟨pa, ca, rfl, hpa⟩ := ha.slice; have HA := Lib.hid ha; have HPA := Lib.hid hpa; have hw1 := hB1; clear ha hpa hB1)
    | (go_at_call 9; refine (CB _ hw1).mono ?_; rintro e w2 ⟨vb, rfl, hb, hB2⟩; obtain ⟨pb, cb, rfl, hpb⟩ := hb.slice; have HBB := Lib.hid hb; have HPB := Lib.hid hpb; have HA2 := Lib.hid (HA.out.mono (still_PI 13 100) hB2); have hw2 := btrans hw1 hB2; clear hb hpb hB2))
  clear CA CB hw1 HA
  go_loopw [22] (fun i wr => R3 w2 A.length i wr) (fun i _ => A.length - (intOf i).toNat)
  case atStart => exact ⟨0, rfl, Nat.zero_le _, Below.refl _ _⟩
  case round =>
    obtain ⟨k, rfl, hk, hB⟩ := hrel
    have hBw := btrans hw2 hB
    by_cases hlt : k < A.length
    · obtain ⟨g, rfl, hg⟩ := HPA.out (by omega)
      obtain ⟨g', rfl, hg'⟩ := HPB.out (by omega)
      have ea : A[k]? = some A[k] := List.getElem?_eq_getElem hlt
      have hby' := hby A[k] (List.getElem_mem hlt)
      have hpat' := hpat A[k] (List.getElem_mem hlt)
      generalize A[k] = a at ea hby' hpat'
      obtain ⟨p5, pl5, pm5, p6, pl6, pm6, pm7, p8, pl8, pm8, p9, pl9, pm9, hact, hga, x0, x1, x2, x3, x4, x5, x6, x7, x8, x9⟩ := act_at (HA2.out.mono (still_PI 13 100) hB) ea
      obtain ⟨q5, ql5, qm5, q6, ql6, qm6, qm7, q8, ql8, qm8, q9, ql9, qm9, hact', hgb, y0, y1, y2, y3, y4, y5, y6, y7, y8, y9⟩ := act_at (HBB.out.mono (still_PI 15 160) hB) ea
      have his : (k : Int) < (A.length : Int) := by omega
      have hk0 : (0 : Int) ≤ (k : Int) := by omega
      have HB := Lib.hid hB; have HW := Lib.hid hBw
      clear hB hBw ea hby hpat
      have hBA : Below wr.heap.size wr (wr.alloc (.cells #[.int .u8 (a.kind : Int), .int .u32 (a.who : Int), .int .u32 (a.nn : Int), .int .u32 (a.kk : Int), .int .u8 (a.topic : Int), .slice p5 pl5 pm5, .slice p6 pl6 pm6, .int .u64 pm7, .slice p8 pl8 pm8, .slice p9 pl9 pm9] 36)).drew := ((Below.refl _ _).alloc (Nat.le_refl _) _).drew
      have K10 := c10 (still_PI 13 100) (still_PI 15 160) (hact.mono (still_PI 13 100) (Go.Ai.Keeps.below hBA)) (hact'.mono (still_PI 15 160) (Go.Ai.Keeps.below hBA)) hby' (same_PI 15 (.inr rfl))
      have K11 : ∀ W', Below (wr.alloc (.cells #[.int .u8 (a.kind : Int), .int .u32 (a.who : Int), .int .u32 (a.nn : Int), .int .u32 (a.kk : Int), .int .u8 (a.topic : Int), .slice p5 pl5 pm5, .slice p6 pl6 pm6, .int .u64 pm7, .slice p8 pl8 pm8, .slice p9 pl9 pm9] 36)).drew.heap.size (wr.alloc (.cells #[.int .u8 (a.kind : Int), .int .u32 (a.who : Int), .int .u32 (a.nn : Int), .int .u32 (a.kk : Int), .int .u8 (a.topic : Int), .slice p5 pl5 pm5, .slice p6 pl6 pm6, .int .u64 pm7, .slice p8 pl8 pm8, .slice p9 pl9 pm9] 36)).drew W' → Calls Tryd.prog 11 #[.agg #[.int .u8 (a.topic : Int), .slice p5 pl5 pm5]] W' (Tru W') := fun W' hB => by
        obtain ⟨_, _, _, _, _, e, h5, _⟩ := hact.mono (still_PI 13 100) (Go.Ai.Keeps.below (hBA.trans (hB.mono hBA.size)))
        simp only [heads, List.cons.injEq, and_true] at e
        obtain ⟨_, _, _, _, _, rfl, _⟩ := e
        exact c11 _ h5
      have HZ : Hid (∀ j, (wr.alloc (.cells #[.int .u8 (a.kind : Int), .int .u32 (a.who : Int), .int .u32 (a.nn : Int), .int .u32 (a.kk : Int), .int .u8 (a.topic : Int), .slice p5 pl5 pm5, .slice p6 pl6 pm6, .int .u64 pm7, .slice p8 pl8 pm8, .slice p9 pl9 pm9] 36)).drew.cell? ⟨wr.heap.size, j, none⟩ = (#[.int .u8 (a.kind : Int), .int .u32 (a.who : Int), .int .u32 (a.nn : Int), .int .u32 (a.kk : Int), .int .u8 (a.topic : Int), .slice p5 pl5 pm5, .slice p6 pl6 pm6, .int .u64 pm7, .slice p8 pl8 pm8, .slice p9 pl9 pm9] : Array Value)[j]?) := Lib.hid (fun j => cell_of_heap (fz := (0, 0)) (heap_alloc_new wr _) j)
      have HY : Hid (∀ (j : Nat) (x : Value), ([.int .u8 (a.kind : Int), .int .u32 (a.who : Int), .int .u32 (a.nn : Int), .int .u32 (a.kk : Int), .int .u8 (a.topic : Int), .slice q5 ql5 qm5, .slice q6 ql6 qm6, .int .u64 qm7, .slice q8 ql8 qm8, .slice q9 ql9 qm9] : List Value)[j]? = some x → (wr.alloc (.cells #[.int .u8 (a.kind : Int), .int .u32 (a.who : Int), .int .u32 (a.nn : Int), .int .u32 (a.kk : Int), .int .u8 (a.topic : Int), .slice p5 pl5 pm5, .slice p6 pl6 pm6, .int .u64 pm7, .slice p8 pl8 pm8, .slice p9 pl9 pm9] 36)).drew.cell? ⟨g', k * 10 + j, none⟩ = some x) := Lib.hid (fun j x e => by
        have hc := fun o => (bcell hBA).1 g' o hgb
        rcases (by have := (List.getElem?_eq_some_iff.1 e).1; simp at this; omega : j = 0 ∨ j = 1 ∨ j = 2 ∨ j = 3 ∨ j = 4 ∨ j = 5 ∨ j = 6 ∨ j = 7 ∨ j = 8 ∨ j = 9) with rfl | rfl | rfl | rfl | rfl | rfl | rfl | rfl | rfl | rfl <;> cases e <;> refine (hc _).trans ?_ <;> assumption)
      have hl3 : wr.heap.size < (wr.alloc (.cells #[.int .u8 (a.kind : Int), .int .u32 (a.who : Int), .int .u32 (a.nn : Int), .int .u32 (a.kk : Int), .int .u8 (a.topic : Int), .slice p5 pl5 pm5, .slice p6 pl6 pm6, .int .u64 pm7, .slice p8 pl8 pm8, .slice p9 pl9 pm9] 36)).drew.heap.size := by simp
      have hl3' : g' < (wr.alloc (.cells #[.int .u8 (a.kind : Int), .int .u32 (a.who : Int), .int .u32 (a.nn : Int), .int .u32 (a.kk : Int), .int .u8 (a.topic : Int), .slice p5 pl5 pm5, .slice p6 pl6 pm6, .int .u64 pm7, .slice p8 pl8 pm8, .slice p9 pl9 pm9] 36)).drew.heap.size := by simp; omega
      have HBA := Lib.hid hBA
      by_cases h2 : a.kind = 2
      · have K12 : ∀ W', Below (wr.alloc (.cells #[.int .u8 (a.kind : Int), .int .u32 (a.who : Int), .int .u32 (a.nn : Int), .int .u32 (a.kk : Int), .int .u8 (a.topic : Int), .slice p5 pl5 pm5, .slice p6 pl6 pm6, .int .u64 pm7, .slice p8 pl8 pm8, .slice p9 pl9 pm9] 36)).drew.heap.size (wr.alloc (.cells #[.int .u8 (a.kind : Int), .int .u32 (a.who : Int), .int .u32 (a.nn : Int), .int .u32 (a.kk : Int), .int .u8 (a.topic : Int), .slice p5 pl5 pm5, .slice p6 pl6 pm6, .int .u64 pm7, .slice p8 pl8 pm8, .slice p9 pl9 pm9] 36)).drew W' → Calls Tryd.prog 12 #[.agg #[.slice p6 pl6 pm6, .int .u64 pm7]] W' (Says (.int .i64 0) W') := fun W' hB => by
          obtain ⟨_, _, _, _, _, e, _, h6, _⟩ := hact.mono (still_PI 13 100) (Go.Ai.Keeps.below (hBA.trans (hB.mono hBA.size)))
          simp only [heads, List.cons.injEq, and_true] at e
          obtain ⟨_, _, _, _, _, _, rfl, rfl, _⟩ := e
          obtain ⟨j, ej⟩ := hpat' h2
          rw [ej] at h6
          exact c12 j W' _ _ h6.2
        have ht : ((a.kind : Int) == 2) = true := by simp; omega
        clear h2 hBA hact hact' hpat' hby'
        go_wp2
        go_region_held3 (fun w' => w'.cell? ⟨wr.heap.size, 0, none⟩ = some (.int .u8 (a.kind : Int)) ∧ w'.cell? ⟨wr.heap.size, 1, none⟩ = some (.int .u32 (a.who : Int)) ∧ w'.cell? ⟨wr.heap.size, 2, none⟩ = some (.int .u32 (a.nn : Int)) ∧ w'.cell? ⟨wr.heap.size, 3, none⟩ = some (.int .u32 (a.kk : Int)) ∧ w'.cell? ⟨wr.heap.size, 4, none⟩ = some (.int .u8 (a.topic : Int)) ∧ w'.cell? ⟨wr.heap.size, 5, none⟩ = some (.slice p5 pl5 pm5) ∧ w'.cell? ⟨wr.heap.size, 6, none⟩ = some (.slice p6 pl6 pm6) ∧ w'.cell? ⟨wr.heap.size, 7, none⟩ = some (.int .u64 pm7) ∧ w'.cell? ⟨wr.heap.size, 8, none⟩ = some (.slice p8 pl8 pm8) ∧ w'.cell? ⟨wr.heap.size, 9, none⟩ = some (.slice p9 pl9 pm9) ∧ w'.cell? ⟨g', k * 10, none⟩ = some (.int .u8 (a.kind : Int)) ∧ w'.cell? ⟨g', k * 10 + 1, none⟩ = some (.int .u32 (a.who : Int)) ∧ w'.cell? ⟨g', k * 10 + 2, none⟩ = some (.int .u32 (a.nn : Int)) ∧ w'.cell? ⟨g', k * 10 + 3, none⟩ = some (.int .u32 (a.kk : Int)) ∧ w'.cell? ⟨g', k * 10 + 4, none⟩ = some (.int .u8 (a.topic : Int)) ∧ w'.cell? ⟨g', k * 10 + 5, none⟩ = some (.slice q5 ql5 qm5) ∧ w'.cell? ⟨g', k * 10 + 6, none⟩ = some (.slice q6 ql6 qm6) ∧ w'.cell? ⟨g', k * 10 + 7, none⟩ = some (.int .u64 qm7) ∧ w'.cell? ⟨g', k * 10 + 8, none⟩ = some (.slice q8 ql8 qm8) ∧ w'.cell? ⟨g', k * 10 + 9, none⟩ = some (.slice q9 ql9 qm9)) (go_keep)
          (first
            | (go_at_call 10; refine K10.mono ?_; rintro e w3 ⟨rfl, hB3⟩; have hc3 := bcell hB3; have ua0 := (hc3.1 _ 0 hl3).trans (HZ.out 0); have ua1 := (hc3.1 _ 1 hl3).trans (HZ.out 1); have ua2 := (hc3.1 _ 2 hl3).trans (HZ.out 2); have ua3 := (hc3.1 _ 3 hl3).trans (HZ.out 3); have ua4 := (hc3.1 _ 4 hl3).trans (HZ.out 4); have ua5 := (hc3.1 _ 5 hl3).trans (HZ.out 5); have ua6 := (hc3.1 _ 6 hl3).trans (HZ.out 6); have ua7 := (hc3.1 _ 7 hl3).trans (HZ.out 7); have ua8 := (hc3.1 _ 8 hl3).trans (HZ.out 8); have ua9 := (hc3.1 _ 9 hl3).trans (HZ.out 9); have va0 := (hc3.1 _ (k * 10) hl3').trans (HY.out 0 _ rfl); have va1 := (hc3.1 _ (k * 10 + 1) hl3').trans (HY.out 1 _ rfl); have va2 := (hc3.1 _ (k * 10 + 2) hl3').trans (HY.out 2 _ rfl); have va3 := (hc3.1 _ (k * 10 + 3) hl3').trans (HY.out 3 _ rfl); have va4 := (hc3.1 _ (k * 10 + 4) hl3').trans (HY.out 4 _ rfl); have va5 := (hc3.1 _ (k * 10 + 5) hl3').trans (HY.out 5 _ rfl); have va6 := (hc3.1 _ (k * 10 + 6) hl3').trans (HY.out 6 _ rfl); have va7 := (hc3.1 _ (k * 10 + 7) hl3').trans (HY.out 7 _ rfl); have va8 := (hc3.1 _ (k * 10 + 8) hl3').trans (HY.out 8 _ rfl); have va9 := (hc3.1 _ (k * 10 + 9) hl3').trans (HY.out 9 _ rfl); simp only [List.getElem?_toArray, List.getElem?_cons_succ, List.getElem?_cons_zero] at ua0 ua1 ua2 ua3 ua4 ua5 ua6 ua7 ua8 ua9; clear hc3)
            | (go_at_call 11; refine (K11 _ hB3).mono ?_; rintro e w4 ⟨rfl, hB4'⟩; have hB4 := btrans hB3 hB4'; have hc4 := bcell hB4; have ub0 := (hc4.1 _ 0 hl3).trans (HZ.out 0); have ub1 := (hc4.1 _ 1 hl3).trans (HZ.out 1); have ub2 := (hc4.1 _ 2 hl3).trans (HZ.out 2); have ub3 := (hc4.1 _ 3 hl3).trans (HZ.out 3); have ub4 := (hc4.1 _ 4 hl3).trans (HZ.out 4); have ub5 := (hc4.1 _ 5 hl3).trans (HZ.out 5); have ub6 := (hc4.1 _ 6 hl3).trans (HZ.out 6); have ub7 := (hc4.1 _ 7 hl3).trans (HZ.out 7); have ub8 := (hc4.1 _ 8 hl3).trans (HZ.out 8); have ub9 := (hc4.1 _ 9 hl3).trans (HZ.out 9); have vb0 := (hc4.1 _ (k * 10) hl3').trans (HY.out 0 _ rfl); have vb1 := (hc4.1 _ (k * 10 + 1) hl3').trans (HY.out 1 _ rfl); have vb2 := (hc4.1 _ (k * 10 + 2) hl3').trans (HY.out 2 _ rfl); have vb3 := (hc4.1 _ (k * 10 + 3) hl3').trans (HY.out 3 _ rfl); have vb4 := (hc4.1 _ (k * 10 + 4) hl3').trans (HY.out 4 _ rfl); have vb5 := (hc4.1 _ (k * 10 + 5) hl3').trans (HY.out 5 _ rfl); have vb6 := (hc4.1 _ (k * 10 + 6) hl3').trans (HY.out 6 _ rfl); have vb7 := (hc4.1 _ (k * 10 + 7) hl3').trans (HY.out 7 _ rfl); have vb8 := (hc4.1 _ (k * 10 + 8) hl3').trans (HY.out 8 _ rfl); have vb9 := (hc4.1 _ (k * 10 + 9) hl3').trans (HY.out 9 _ rfl); simp only [List.getElem?_toArray, List.getElem?_cons_succ, List.getElem?_cons_zero] at ub0 ub1 ub2 ub3 ub4 ub5 ub6 ub7 ub8 ub9; clear hc4 hB4')
            | (go_at_call 12; refine (K12 _ hB4).mono ?_; rintro e w5 ⟨rfl, hB5'⟩; have hB5 := btrans hB4 hB5'; have hc5 := bcell hB5; have uc0 := (hc5.1 _ 0 hl3).trans (HZ.out 0); have uc1 := (hc5.1 _ 1 hl3).trans (HZ.out 1); have uc2 := (hc5.1 _ 2 hl3).trans (HZ.out 2); have uc3 := (hc5.1 _ 3 hl3).trans (HZ.out 3); have uc4 := (hc5.1 _ 4 hl3).trans (HZ.out 4); have uc5 := (hc5.1 _ 5 hl3).trans (HZ.out 5); have uc6 := (hc5.1 _ 6 hl3).trans (HZ.out 6); have uc7 := (hc5.1 _ 7 hl3).trans (HZ.out 7); have uc8 := (hc5.1 _ 8 hl3).trans (HZ.out 8); have uc9 := (hc5.1 _ 9 hl3).trans (HZ.out 9); have vc0 := (hc5.1 _ (k * 10) hl3').trans (HY.out 0 _ rfl); have vc1 := (hc5.1 _ (k * 10 + 1) hl3').trans (HY.out 1 _ rfl); have vc2 := (hc5.1 _ (k * 10 + 2) hl3').trans (HY.out 2 _ rfl); have vc3 := (hc5.1 _ (k * 10 + 3) hl3').trans (HY.out 3 _ rfl); have vc4 := (hc5.1 _ (k * 10 + 4) hl3').trans (HY.out 4 _ rfl); have vc5 := (hc5.1 _ (k * 10 + 5) hl3').trans (HY.out 5 _ rfl); have vc6 := (hc5.1 _ (k * 10 + 6) hl3').trans (HY.out 6 _ rfl); have vc7 := (hc5.1 _ (k * 10 + 7) hl3').trans (HY.out 7 _ rfl); have vc8 := (hc5.1 _ (k * 10 + 8) hl3').trans (HY.out 8 _ rfl); have vc9 := (hc5.1 _ (k * 10 + 9) hl3').trans (HY.out 9 _ rfl); simp only [List.getElem?_toArray, List.getElem?_cons_succ, List.getElem?_cons_zero] at uc0 uc1 uc2 uc3 uc4 uc5 uc6 uc7 uc8 uc9; clear hc5 hB5'))
        go_wp2
        go_roundw
        case rel => first | exact ⟨k + 1, by go_num, hlt, btrans HB.out (btrans HBA.out hB5)⟩ | ((repeat apply Exists.intro); exact ⟨⟨k + 1, by go_num, hlt, btrans HB.out (btrans HBA.out hB5)⟩, rfl⟩)
        case measure => simp [intOf]; omega
      · have ht : ((a.kind : Int) == 2) = false := by simp; omega
        have ht2 : (a.kind == 2) = false := by simpa using h2
        have ht3 : decide (a.kind = 2) = false := by simpa using h2
        have ht4 : ¬ ((a.kind : Int) = 2) := by omega
        have ht5 : decide ((a.kind : Int) = 2) = false := by simp; omega
        clear hBA hact hact' hpat' hby'
        go_wp2
        refine wp_region_held_drew (S := (fun w' => w'.cell? ⟨wr.heap.size, 0, none⟩ = some (.int .u8 (a.kind : Int)) ∧ w'.cell? ⟨wr.heap.size, 1, none⟩ = some (.int .u32 (a.who : Int)) ∧ w'.cell? ⟨wr.heap.size, 2, none⟩ = some (.int .u32 (a.nn : Int)) ∧ w'.cell? ⟨wr.heap.size, 3, none⟩ = some (.int .u32 (a.kk : Int)) ∧ w'.cell? ⟨wr.heap.size, 4, none⟩ = some (.int .u8 (a.topic : Int)) ∧ w'.cell? ⟨wr.heap.size, 5, none⟩ = some (.slice p5 pl5 pm5) ∧ w'.cell? ⟨wr.heap.size, 6, none⟩ = some (.slice p6 pl6 pm6) ∧ w'.cell? ⟨wr.heap.size, 7, none⟩ = some (.int .u64 pm7) ∧ w'.cell? ⟨wr.heap.size, 8, none⟩ = some (.slice p8 pl8 pm8) ∧ w'.cell? ⟨wr.heap.size, 9, none⟩ = some (.slice p9 pl9 pm9) ∧ w'.cell? ⟨g', k * 10, none⟩ = some (.int .u8 (a.kind : Int)) ∧ w'.cell? ⟨g', k * 10 + 1, none⟩ = some (.int .u32 (a.who : Int)) ∧ w'.cell? ⟨g', k * 10 + 2, none⟩ = some (.int .u32 (a.nn : Int)) ∧ w'.cell? ⟨g', k * 10 + 3, none⟩ = some (.int .u32 (a.kk : Int)) ∧ w'.cell? ⟨g', k * 10 + 4, none⟩ = some (.int .u8 (a.topic : Int)) ∧ w'.cell? ⟨g', k * 10 + 5, none⟩ = some (.slice q5 ql5 qm5) ∧ w'.cell? ⟨g', k * 10 + 6, none⟩ = some (.slice q6 ql6 qm6) ∧ w'.cell? ⟨g', k * 10 + 7, none⟩ = some (.int .u64 qm7) ∧ w'.cell? ⟨g', k * 10 + 8, none⟩ = some (.slice q8 ql8 qm8) ∧ w'.cell? ⟨g', k * 10 + 9, none⟩ = some (.slice q9 ql9 qm9))) (by kernel_rfl) ?_ (fun hHeld => ?_)
        · (try dsimp only)
          go_keep
        refine wpAnyH_take (i := 0) (oi := { dst := some 27, op := Op.load 36 (Operand.tmp 6), type := 36, pos := "law.go:39", after := #[], guard := none }) (v := ?_) rfl (by kernel_rfl) (by kernel_rfl) (by kernel_rfl) (fun _ _ _ h => h) (Or.inl ⟨by rfl, ?_⟩) hHeld ?_
        rotate_left
        · intro w' hSw
          (try dsimp only at hSw)
          go_simp
          all_goals with_reducible rfl
        try simp only [Act.put, List.setIfInBounds_toArray, List.set_cons_zero, List.set_cons_succ]
        refine wpAnyH_take (i := 1) (oi := { dst := some 28, op := Op.move (Operand.tmp 4), type := 24, pos := "law.go:39", after := #[], guard := none }) (v := ?_) rfl (by kernel_rfl) (by kernel_rfl) (by kernel_rfl) (fun _ _ _ h => h) (Or.inl ⟨by rfl, ?_⟩) hHeld ?_
        rotate_left
        · intro w' hSw
          (try dsimp only at hSw)
          go_simp
          all_goals with_reducible rfl
        try simp only [Act.put, List.setIfInBounds_toArray, List.set_cons_zero, List.set_cons_succ]
        refine wpAnyH_take (i := 2) (oi := { dst := some 29, op := Op.move (Operand.tmp 5), type := 3, pos := "law.go:39", after := #[], guard := none }) (v := ?_) rfl (by kernel_rfl) (by kernel_rfl) (by kernel_rfl) (fun _ _ _ h => h) (Or.inl ⟨by rfl, ?_⟩) hHeld ?_
        rotate_left
        · intro w' hSw
          (try dsimp only at hSw)
          go_simp
          all_goals with_reducible rfl
        try simp only [Act.put, List.setIfInBounds_toArray, List.set_cons_zero, List.set_cons_succ]
        refine wpAnyH_take (i := 3) (oi := { dst := some 30, op := Op.indexAddr 24 (Operand.tmp 28) (Operand.tmp 29), type := 0, pos := "law.go:39", after := #[{ on := 1, ground := Ground.data }, { on := 2, ground := Ground.data }], guard := none }) (v := ?_) rfl (by kernel_rfl) (by kernel_rfl) (by kernel_rfl) (fun _ _ _ h => h) (Or.inl ⟨by rfl, ?_⟩) hHeld ?_
        rotate_left
        · intro w' hSw
          (try dsimp only at hSw)
          go_simp
          all_goals with_reducible rfl
        try simp only [Act.put, List.setIfInBounds_toArray, List.set_cons_zero, List.set_cons_succ]
        refine wpAnyH_take (i := 4) (oi := { dst := some 31, op := Op.load 36 (Operand.tmp 30), type := 36, pos := "law.go:39", after := #[{ on := 3, ground := Ground.data }], guard := none }) (v := ?_) rfl (by kernel_rfl) (by kernel_rfl) (by kernel_rfl) (fun _ _ _ h => h) (Or.inl ⟨by rfl, ?_⟩) hHeld ?_
        rotate_left
        · intro w' hSw
          (try dsimp only at hSw)
          go_simp
          all_goals with_reducible rfl
        try simp only [Act.put, List.setIfInBounds_toArray, List.set_cons_zero, List.set_cons_succ]
        refine wpAnyH_ready (rs := [5]) (by kernel_rfl) (by simp) ?_
        refine AllReadyH.cons (o := { dst := some 32, op := Op.call { callee := Callee.value (Operand.func 10), args := #[Operand.tmp 27, Operand.tmp 31], argTypes := #[36, 36] }, type := 4, pos := "law.go:39", after := #[{ on := 0, ground := Ground.data }, { on := 4, ground := Ground.data }], guard := none }) rfl (fun K hK => ?_) AllReadyH.nil
        go_simp
        go_at_call 10; refine K10.mono ?_; rintro e w3 ⟨rfl, hB3⟩; have hc3 := bcell hB3; have ua0 := (hc3.1 _ 0 hl3).trans (HZ.out 0); have ua1 := (hc3.1 _ 1 hl3).trans (HZ.out 1); have ua2 := (hc3.1 _ 2 hl3).trans (HZ.out 2); have ua3 := (hc3.1 _ 3 hl3).trans (HZ.out 3); have ua4 := (hc3.1 _ 4 hl3).trans (HZ.out 4); have ua5 := (hc3.1 _ 5 hl3).trans (HZ.out 5); have ua6 := (hc3.1 _ 6 hl3).trans (HZ.out 6); have ua7 := (hc3.1 _ 7 hl3).trans (HZ.out 7); have ua8 := (hc3.1 _ 8 hl3).trans (HZ.out 8); have ua9 := (hc3.1 _ 9 hl3).trans (HZ.out 9); have va0 := (hc3.1 _ (k * 10) hl3').trans (HY.out 0 _ rfl); have va1 := (hc3.1 _ (k * 10 + 1) hl3').trans (HY.out 1 _ rfl); have va2 := (hc3.1 _ (k * 10 + 2) hl3').trans (HY.out 2 _ rfl); have va3 := (hc3.1 _ (k * 10 + 3) hl3').trans (HY.out 3 _ rfl); have va4 := (hc3.1 _ (k * 10 + 4) hl3').trans (HY.out 4 _ rfl); have va5 := (hc3.1 _ (k * 10 + 5) hl3').trans (HY.out 5 _ rfl); have va6 := (hc3.1 _ (k * 10 + 6) hl3').trans (HY.out 6 _ rfl); have va7 := (hc3.1 _ (k * 10 + 7) hl3').trans (HY.out 7 _ rfl); have va8 := (hc3.1 _ (k * 10 + 8) hl3').trans (HY.out 8 _ rfl); have va9 := (hc3.1 _ (k * 10 + 9) hl3').trans (HY.out 9 _ rfl); simp only [List.getElem?_toArray, List.getElem?_cons_succ, List.getElem?_cons_zero] at ua0 ua1 ua2 ua3 ua4 ua5 ua6 ua7 ua8 ua9; clear hc3
        go_wp2_with fail
        refine hK.out _ _ ?_ (fun hHeld2 => ?_)
        · (try dsimp only)
          go_keep
        clear hK K hHeld
        have hHeld := hHeld2
        clear hHeld2
        try simp only [Act.put, List.setIfInBounds_toArray, List.set_cons_zero, List.set_cons_succ]
        refine wpAnyH_take (i := 6) (oi := { dst := some 33, op := Op.unOp UnOp.not 4 (Operand.tmp 32), type := 4, pos := "law.go:39", after := #[{ on := 5, ground := Ground.data }], guard := none }) (v := ?_) rfl (by kernel_rfl) (by kernel_rfl) (by kernel_rfl) (fun _ _ _ h => h) (Or.inl ⟨by rfl, ?_⟩) hHeld ?_
        rotate_left
        · intro w' hSw
          (try dsimp only at hSw)
          go_simp
          all_goals with_reducible rfl
        try simp only [Act.put, List.setIfInBounds_toArray, List.set_cons_zero, List.set_cons_succ]
        refine wpAnyH_take (i := 7) (oi := { dst := some 34, op := Op.move (Operand.tmp 33), type := 4, pos := "law.go:39", after := #[{ on := 6, ground := Ground.data }, { on := 5, ground := Ground.chain }], guard := none }) (v := ?_) rfl (by kernel_rfl) (by kernel_rfl) (by kernel_rfl) (fun _ _ _ h => h) (Or.inl ⟨by rfl, ?_⟩) hHeld ?_
        rotate_left
        · intro w' hSw
          (try dsimp only at hSw)
          go_simp
          all_goals with_reducible rfl
        try simp only [Act.put, List.setIfInBounds_toArray, List.set_cons_zero, List.set_cons_succ]
        refine wpAnyH_take (i := 8) (oi := { dst := some 35, op := Op.fieldAddr 36 (Operand.tmp 6) 4, type := 0, pos := "law.go:39", after := #[{ on := 7, ground := Ground.guard }], guard := some (7, false) }) (v := ?_) rfl (by kernel_rfl) (by kernel_rfl) (by kernel_rfl) (fun _ _ _ h => h) (Or.inl ⟨by rfl, ?_⟩) hHeld ?_
        rotate_left
        · intro w' hSw
          (try dsimp only at hSw)
          go_simp
          all_goals with_reducible rfl
        try simp only [Act.put, List.setIfInBounds_toArray, List.set_cons_zero, List.set_cons_succ]
        refine wpAnyH_take (i := 9) (oi := { dst := some 36, op := Op.load 29 (Operand.tmp 35), type := 29, pos := "law.go:39", after := #[{ on := 8, ground := Ground.data }, { on := 7, ground := Ground.guard }], guard := some (7, false) }) (v := ?_) rfl (by kernel_rfl) (by kernel_rfl) (by kernel_rfl) (fun _ _ _ h => h) (Or.inl ⟨by rfl, ?_⟩) hHeld ?_
        rotate_left
        · intro w' hSw
          (try dsimp only at hSw)
          go_simp
          all_goals with_reducible rfl
        try simp only [Act.put, List.setIfInBounds_toArray, List.set_cons_zero, List.set_cons_succ]
        refine wpAnyH_ready (rs := [10]) (by kernel_rfl) (by simp) ?_
        refine AllReadyH.cons (o := { dst := some 37, op := Op.call { callee := Callee.value (Operand.func 11), args := #[Operand.tmp 36], argTypes := #[29] }, type := 4, pos := "law.go:39", after := #[{ on := 9, ground := Ground.data }, { on := 7, ground := Ground.chain }, { on := 7, ground := Ground.guard }], guard := some (7, false) }) rfl (fun K hK => ?_) AllReadyH.nil
        go_simp
        go_at_call 11; refine (K11 _ hB3).mono ?_; rintro e w4 ⟨rfl, hB4'⟩; have hB4 := btrans hB3 hB4'; have hc4 := bcell hB4; have ub0 := (hc4.1 _ 0 hl3).trans (HZ.out 0); have ub1 := (hc4.1 _ 1 hl3).trans (HZ.out 1); have ub2 := (hc4.1 _ 2 hl3).trans (HZ.out 2); have ub3 := (hc4.1 _ 3 hl3).trans (HZ.out 3); have ub4 := (hc4.1 _ 4 hl3).trans (HZ.out 4); have ub5 := (hc4.1 _ 5 hl3).trans (HZ.out 5); have ub6 := (hc4.1 _ 6 hl3).trans (HZ.out 6); have ub7 := (hc4.1 _ 7 hl3).trans (HZ.out 7); have ub8 := (hc4.1 _ 8 hl3).trans (HZ.out 8); have ub9 := (hc4.1 _ 9 hl3).trans (HZ.out 9); have vb0 := (hc4.1 _ (k * 10) hl3').trans (HY.out 0 _ rfl); have vb1 := (hc4.1 _ (k * 10 + 1) hl3').trans (HY.out 1 _ rfl); have vb2 := (hc4.1 _ (k * 10 + 2) hl3').trans (HY.out 2 _ rfl); have vb3 := (hc4.1 _ (k * 10 + 3) hl3').trans (HY.out 3 _ rfl); have vb4 := (hc4.1 _ (k * 10 + 4) hl3').trans (HY.out 4 _ rfl); have vb5 := (hc4.1 _ (k * 10 + 5) hl3').trans (HY.out 5 _ rfl); have vb6 := (hc4.1 _ (k * 10 + 6) hl3').trans (HY.out 6 _ rfl); have vb7 := (hc4.1 _ (k * 10 + 7) hl3').trans (HY.out 7 _ rfl); have vb8 := (hc4.1 _ (k * 10 + 8) hl3').trans (HY.out 8 _ rfl); have vb9 := (hc4.1 _ (k * 10 + 9) hl3').trans (HY.out 9 _ rfl); simp only [List.getElem?_toArray, List.getElem?_cons_succ, List.getElem?_cons_zero] at ub0 ub1 ub2 ub3 ub4 ub5 ub6 ub7 ub8 ub9; clear hc4 hB4'
        go_wp2_with fail
        refine hK.out _ _ ?_ (fun hHeld2 => ?_)
        · (try dsimp only)
          go_keep
        clear hK K hHeld
        have hHeld := hHeld2
        clear hHeld2
        try simp only [Act.put, List.setIfInBounds_toArray, List.set_cons_zero, List.set_cons_succ]
        refine wpAnyH_take (i := 11) (oi := { dst := some 38, op := Op.unOp UnOp.not 4 (Operand.tmp 37), type := 4, pos := "law.go:39", after := #[{ on := 10, ground := Ground.data }, { on := 7, ground := Ground.guard }], guard := some (7, false) }) (v := ?_) rfl (by kernel_rfl) (by kernel_rfl) (by kernel_rfl) (fun _ _ _ h => h) (Or.inl ⟨by rfl, ?_⟩) hHeld ?_
        rotate_left
        · intro w' hSw
          (try dsimp only at hSw)
          go_simp
          all_goals with_reducible rfl
        try simp only [Act.put, List.setIfInBounds_toArray, List.set_cons_zero, List.set_cons_succ]
        refine wpAnyH_take (i := 12) (oi := { dst := some 39, op := Op.pick (Operand.tmp 34) (Operand.const (Value.bool true)) (Operand.tmp 38), type := 4, pos := "law.go:39", after := #[{ on := 7, ground := Ground.data }, { on := 11, ground := Ground.data }], guard := none }) (v := ?_) rfl (by kernel_rfl) (by kernel_rfl) (by kernel_rfl) (fun _ _ _ h => h) (Or.inl ⟨by rfl, ?_⟩) hHeld ?_
        rotate_left
        · intro w' hSw
          (try dsimp only at hSw)
          go_simp
          all_goals with_reducible rfl
        try simp only [Act.put, List.setIfInBounds_toArray, List.set_cons_zero, List.set_cons_succ]
        refine wpAnyH_take (i := 13) (oi := { dst := some 40, op := Op.move (Operand.tmp 39), type := 4, pos := "law.go:39", after := #[{ on := 12, ground := Ground.data }, { on := 10, ground := Ground.chain }], guard := none }) (v := ?_) rfl (by kernel_rfl) (by kernel_rfl) (by kernel_rfl) (fun _ _ _ h => h) (Or.inl ⟨by rfl, ?_⟩) hHeld ?_
        rotate_left
        · intro w' hSw
          (try dsimp only at hSw)
          go_simp
          all_goals with_reducible rfl
        try simp only [Act.put, List.setIfInBounds_toArray, List.set_cons_zero, List.set_cons_succ]
        refine wpAnyH_take (i := 14) (oi := { dst := some 41, op := Op.fieldAddr 36 (Operand.tmp 6) 0, type := 0, pos := "law.go:39", after := #[{ on := 13, ground := Ground.guard }], guard := some (13, false) }) (v := ?_) rfl (by kernel_rfl) (by kernel_rfl) (by kernel_rfl) (fun _ _ _ h => h) (Or.inl ⟨by rfl, ?_⟩) hHeld ?_
        rotate_left
        · intro w' hSw
          (try dsimp only at hSw)
          go_simp
          all_goals with_reducible rfl
        try simp only [Act.put, List.setIfInBounds_toArray, List.set_cons_zero, List.set_cons_succ]
        refine wpAnyH_take (i := 15) (oi := { dst := some 42, op := Op.load 5 (Operand.tmp 41), type := 5, pos := "law.go:39", after := #[{ on := 14, ground := Ground.data }, { on := 13, ground := Ground.guard }], guard := some (13, false) }) (v := ?_) rfl (by kernel_rfl) (by kernel_rfl) (by kernel_rfl) (fun _ _ _ h => h) (Or.inl ⟨by rfl, ?_⟩) hHeld ?_
        rotate_left
        · intro w' hSw
          (try dsimp only at hSw)
          go_simp
          all_goals with_reducible rfl
        try simp only [Act.put, List.setIfInBounds_toArray, List.set_cons_zero, List.set_cons_succ]
        refine wpAnyH_take (i := 16) (oi := { dst := some 43, op := Op.binOp BinOp.eql 5 (Operand.tmp 42) (Operand.const (Value.int IntKind.u8 2)) 5, type := 4, pos := "law.go:39", after := #[{ on := 15, ground := Ground.data }, { on := 13, ground := Ground.guard }], guard := some (13, false) }) (v := ?_) rfl (by kernel_rfl) (by kernel_rfl) (by kernel_rfl) (fun _ _ _ h => h) (Or.inl ⟨by rfl, ?_⟩) hHeld ?_
        rotate_left
        · intro w' hSw
          (try dsimp only at hSw)
          go_simp
          all_goals with_reducible rfl
        try simp only [Act.put, List.setIfInBounds_toArray, List.set_cons_zero, List.set_cons_succ]
        refine wpAnyH_take (i := 17) (oi := { dst := some 44, op := Op.move (Operand.tmp 43), type := 4, pos := "law.go:39", after := #[{ on := 16, ground := Ground.data }, { on := 13, ground := Ground.chain }, { on := 13, ground := Ground.guard }], guard := some (13, false) }) (v := ?_) rfl (by kernel_rfl) (by kernel_rfl) (by kernel_rfl) (fun _ _ _ h => h) (Or.inl ⟨by rfl, ?_⟩) hHeld ?_
        rotate_left
        · intro w' hSw
          (try dsimp only at hSw)
          go_simp
          all_goals with_reducible rfl
        try simp only [Act.put, List.setIfInBounds_toArray, List.set_cons_zero, List.set_cons_succ]
        refine wpAnyH_take (i := 18) (oi := { dst := some 45, op := Op.fieldAddr 36 (Operand.tmp 6) 5, type := 0, pos := "law.go:39", after := #[{ on := 17, ground := Ground.guard }], guard := some (17, true) }) (v := undef) rfl (by kernel_rfl) (by kernel_rfl) (by kernel_rfl) (fun _ _ _ h => h) (Or.inr ⟨by rfl, rfl⟩) hHeld ?_
        try simp only [Act.put, List.setIfInBounds_toArray, List.set_cons_zero, List.set_cons_succ]
        refine wpAnyH_take (i := 19) (oi := { dst := some 46, op := Op.load 33 (Operand.tmp 45), type := 33, pos := "law.go:39", after := #[{ on := 18, ground := Ground.data }, { on := 17, ground := Ground.guard }], guard := some (17, true) }) (v := undef) rfl (by kernel_rfl) (by kernel_rfl) (by kernel_rfl) (fun _ _ _ h => h) (Or.inr ⟨by rfl, rfl⟩) hHeld ?_
        try simp only [Act.put, List.setIfInBounds_toArray, List.set_cons_zero, List.set_cons_succ]
        refine wpAnyH_take (i := 20) (oi := { dst := some 47, op := Op.call { callee := Callee.value (Operand.func 12), args := #[Operand.tmp 46], argTypes := #[33] }, type := 3, pos := "law.go:39", after := #[{ on := 19, ground := Ground.data }, { on := 17, ground := Ground.chain }, { on := 17, ground := Ground.guard }], guard := some (17, true) }) (v := undef) rfl (by kernel_rfl) (by kernel_rfl) (by kernel_rfl) (fun _ _ _ h => h) (Or.inr ⟨by rfl, rfl⟩) hHeld ?_
        try simp only [Act.put, List.setIfInBounds_toArray, List.set_cons_zero, List.set_cons_succ]
        refine wpAnyH_take (i := 21) (oi := { dst := some 48, op := Op.binOp BinOp.neq 3 (Operand.tmp 47) (Operand.const (Value.int IntKind.i64 0)) 3, type := 4, pos := "law.go:39", after := #[{ on := 20, ground := Ground.data }, { on := 17, ground := Ground.guard }], guard := some (17, true) }) (v := undef) rfl (by kernel_rfl) (by kernel_rfl) (by kernel_rfl) (fun _ _ _ h => h) (Or.inr ⟨by rfl, rfl⟩) hHeld ?_
        try simp only [Act.put, List.setIfInBounds_toArray, List.set_cons_zero, List.set_cons_succ]
        refine wpAnyH_take (i := 22) (oi := { dst := some 49, op := Op.pick (Operand.tmp 44) (Operand.tmp 48) (Operand.const (Value.bool false)), type := 4, pos := "law.go:39", after := #[{ on := 17, ground := Ground.data }, { on := 21, ground := Ground.data }, { on := 13, ground := Ground.guard }], guard := some (13, false) }) (v := ?_) rfl (by kernel_rfl) (by kernel_rfl) (by kernel_rfl) (fun _ _ _ h => h) (Or.inl ⟨by rfl, ?_⟩) hHeld ?_
        rotate_left
        · intro w' hSw
          (try dsimp only at hSw)
          go_simp
          all_goals with_reducible rfl
        try simp only [Act.put, List.setIfInBounds_toArray, List.set_cons_zero, List.set_cons_succ]
        refine wpAnyH_take (i := 23) (oi := { dst := some 50, op := Op.pick (Operand.tmp 40) (Operand.const (Value.bool true)) (Operand.tmp 49), type := 4, pos := "law.go:39", after := #[{ on := 13, ground := Ground.data }, { on := 22, ground := Ground.data }], guard := none }) (v := ?_) rfl (by kernel_rfl) (by kernel_rfl) (by kernel_rfl) (fun _ _ _ h => h) (Or.inl ⟨by rfl, ?_⟩) hHeld ?_
        rotate_left
        · intro w' hSw
          (try dsimp only at hSw)
          go_simp
          all_goals with_reducible rfl
        try simp only [Act.put, List.setIfInBounds_toArray, List.set_cons_zero, List.set_cons_succ]
        refine wpAnyH_done (by kernel_rfl) ?_ _
        all_goals go_wp2
        all_goals go_roundw
        all_goals first
          | (simp [intOf]; omega)
          | exact ⟨k + 1, by go_num, hlt, btrans HB.out (btrans HBA.out hB4)⟩
          | ((repeat apply Exists.intro); exact ⟨⟨k + 1, by go_num, hlt, btrans HB.out (btrans HBA.out hB4)⟩, rfl⟩)
    · have K7 := hfix _ hBw
      have HW := Lib.hid hBw
      clear hBw hB
      go_wp2_with (go_at_call 7; refine K7.mono ?_; rintro e w3 ⟨rfl, hB3⟩)
      go_ret
      exact ⟨rfl, btrans HW.out hB3⟩
end Go.Proofs.SA
