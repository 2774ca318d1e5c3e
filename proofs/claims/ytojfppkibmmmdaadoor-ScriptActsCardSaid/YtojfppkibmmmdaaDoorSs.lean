/- Proved: what the calls of Pattern, Same and May come to in any world, the patterns kept as pictures. Conditions: the numbers' bounds. -/
import Derived.Test.YtojfppkibmmmdaaDoorSq0
import Derived.Test.YtojfppkibmmmdaaDoorSr0
import Derived.Test.YtojfppkibmmmdaaDoorSq1
import Derived.Test.YtojfppkibmmmdaaDoorSr1
import Derived.Test.YtojfppkibmmmdaaDoorSq2
import Derived.Test.YtojfppkibmmmdaaDoorSr2
import Derived.Test.YtojfppkibmmmdaaDoorSq3
import Derived.Test.YtojfppkibmmmdaaDoorSr3
import Derived.Test.YtojfppkibmmmdaaDoorProg
import Derived.WalkKit
import Derived.KernelRfl
set_option linter.unusedVariables false
set_option linter.unusedSimpArgs false
namespace Go.Proofs.SA
open Go.Ai Go.RowKit
theorem one13_100 (n : Nat) (h : n < 256) : pic 13 n 100 = pic 13 (n % 32) 100 := by
  by_cases h0 : n < 32
  · exact e13_100_part0 n (by omega) h0
  by_cases h1 : n < 64
  · exact e13_100_part1 n (by omega) h1
  by_cases h2 : n < 96
  · exact e13_100_part2 n (by omega) h2
  by_cases h3 : n < 128
  · exact e13_100_part3 n (by omega) h3
  by_cases h4 : n < 160
  · exact e13_100_part4 n (by omega) h4
  by_cases h5 : n < 192
  · exact e13_100_part5 n (by omega) h5
  by_cases h6 : n < 224
  · exact e13_100_part6 n (by omega) h6
  exact e13_100_part7 n (by omega) (by omega)
theorem fine13_100 (n : Nat) (h : n < 32) : fine 13 n 100 = true := by
  by_cases h0 : n < 8
  · exact fine13_100_part0 n (by omega) h0
  by_cases h1 : n < 16
  · exact fine13_100_part1 n (by omega) h1
  by_cases h2 : n < 24
  · exact fine13_100_part2 n (by omega) h2
  exact fine13_100_part3 n (by omega) (by omega)
theorem one13_160 (n : Nat) (h : n < 256) : pic 13 n 160 = pic 13 (n % 32) 160 := by
  by_cases h0 : n < 32
  · exact e13_160_part0 n (by omega) h0
  by_cases h1 : n < 64
  · exact e13_160_part1 n (by omega) h1
  by_cases h2 : n < 96
  · exact e13_160_part2 n (by omega) h2
  by_cases h3 : n < 128
  · exact e13_160_part3 n (by omega) h3
  by_cases h4 : n < 160
  · exact e13_160_part4 n (by omega) h4
  by_cases h5 : n < 192
  · exact e13_160_part5 n (by omega) h5
  by_cases h6 : n < 224
  · exact e13_160_part6 n (by omega) h6
  exact e13_160_part7 n (by omega) (by omega)
theorem fine13_160 (n : Nat) (h : n < 32) : fine 13 n 160 = true := by
  by_cases h0 : n < 8
  · exact fine13_160_part0 n (by omega) h0
  by_cases h1 : n < 16
  · exact fine13_160_part1 n (by omega) h1
  by_cases h2 : n < 24
  · exact fine13_160_part2 n (by omega) h2
  exact fine13_160_part3 n (by omega) (by omega)
theorem one15_160 (n : Nat) (h : n < 256) : pic 15 n 160 = pic 15 (n % 32) 160 := by
  by_cases h0 : n < 32
  · exact e15_160_part0 n (by omega) h0
  by_cases h1 : n < 64
  · exact e15_160_part1 n (by omega) h1
  by_cases h2 : n < 96
  · exact e15_160_part2 n (by omega) h2
  by_cases h3 : n < 128
  · exact e15_160_part3 n (by omega) h3
  by_cases h4 : n < 160
  · exact e15_160_part4 n (by omega) h4
  by_cases h5 : n < 192
  · exact e15_160_part5 n (by omega) h5
  by_cases h6 : n < 224
  · exact e15_160_part6 n (by omega) h6
  exact e15_160_part7 n (by omega) (by omega)
theorem fine15_160 (n : Nat) (h : n < 32) : fine 15 n 160 = true := by
  by_cases h0 : n < 8
  · exact fine15_160_part0 n (by omega) h0
  by_cases h1 : n < 16
  · exact fine15_160_part1 n (by omega) h1
  by_cases h2 : n < 24
  · exact fine15_160_part2 n (by omega) h2
  exact fine15_160_part3 n (by omega) (by omega)
theorem mays (n : Nat) (h : n < 32) : answers (mayRun n) isNone = true := by
  by_cases h0 : n < 8
  · exact may_part0 n (by omega) h0
  by_cases h1 : n < 16
  · exact may_part1 n (by omega) h1
  by_cases h2 : n < 24
  · exact may_part2 n (by omega) h2
  exact may_part3 n (by omega) (by omega)
theorem same13 (n : Nat) (h : n < 32) : answers (sameRun 13 n) isTrue = true := by
  by_cases h0 : n < 8
  · exact same13_part0 n (by omega) h0
  by_cases h1 : n < 16
  · exact same13_part1 n (by omega) h1
  by_cases h2 : n < 24
  · exact same13_part2 n (by omega) h2
  exact same13_part3 n (by omega) (by omega)
theorem same15 (n : Nat) (h : n < 32) : answers (sameRun 15 n) isTrue = true := by
  by_cases h0 : n < 8
  · exact same15_part0 n (by omega) h0
  by_cases h1 : n < 16
  · exact same15_part1 n (by omega) h1
  by_cases h2 : n < 24
  · exact same15_part2 n (by omega) h2
  exact same15_part3 n (by omega) (by omega)
theorem globs : Tryd.prog.globals.size ≤ 100 := Nat.le_of_ble_eq_true (by kernel_rfl)
theorem progOk' : Go.Ai.progOk Tryd.prog = true := by kernel_rfl
/-- A pattern's two cells; the pattern of the number j. -/
def PI (f lo : Nat) (ok : Nat → Prop) (j : Nat) (W : World) (v6 v7 : Value) : Prop := j < 32 ∧ Holds Tryd.prog ok (picT (pic f j lo)) lo (lo + 60) (picV (pic f j lo)) W (.agg #[v6, v7])
theorem PI.mono {f lo j : Nat} {ok : Nat → Prop} {W W' : World} {v6 v7 : Value} (h : PI f lo ok j W v6 v7) (hB : Keeps ok W W') : PI f lo ok j W' v6 v7 := ⟨h.1, h.2.mono hB⟩
theorem PI.weaken {f lo j : Nat} {ok ok' : Nat → Prop} {W : World} {v6 v7 : Value} (h : PI f lo ok j W v6 v7) (hl : ∀ b, b < W.heap.size → ok b → ok' b) : PI f lo ok' j W v6 v7 := ⟨h.1, h.2.weaken hl⟩
def PatOut (f lo j : Nat) (w : World) (e : Ending) (w' : World) : Prop := ∃ a l c m, e = .returned (.agg #[.slice a l c, .int .u64 m]) ∧ PI f lo (w.heap.size ≤ ·) j w' (.slice a l c) (.int .u64 m) ∧ Below w.heap.size w w'
theorem form_of {v v' : Value} {ι : Inj} (h : VRel ι v v') (hf : form2 v = true) : ∃ a l c m, v' = .agg #[.slice a l c, .int .u64 m] := by
  unfold form2 at hf
  split at hf
  · rename_i cs
    split at hf
    · rename_i a l c m e
      cases h with
      | agg _ c' hc rc =>
        obtain ⟨cs⟩ := cs
        obtain ⟨c'⟩ := c'
        simp only at e
        subst e
        match c', hc with
        | [x, y], _ =>
          have h0 := rc 0 _ _ rfl rfl
          have h1 := rc 1 _ _ rfl rfl
          cases h0
          cases h1
          exact ⟨_, _, _, _, rfl⟩
    · cases hf
  · cases hf
theorem pat_calls (f n lo : Nat) (hlo : 100 ≤ lo) (one : pic f n lo = pic f (n % 32) lo) (hf : fine f (n % 32) lo = true) (mixed : Tryd.prog.follows .mixedOrders = true) (w : World) :
    Calls Tryd.prog f #[.int (if f = 13 then .u8 else .i64) (n : Int)] w (PatOut f lo (n % 32) w) := by
  unfold fine at hf
  simp only [Bool.and_eq_true] at hf
  have hx : ∀ x, pic f n lo = some x → aCall Tryd.prog noSums (run Tryd.prog noSums 1000 200) f [.int (if f = 13 then .u8 else .i64) (Int.ofNat n)] (blankAt lo) = some x := fun x e => aCallT_imp (runT_sim Tryd.prog noSums 1000 200) e
  have hs : ∃ x, pic f (n % 32) lo = some x := by
    have h := hf.1
    unfold picOk at h
    split at h
    · exact ⟨_, by assumption⟩
    · exact ⟨_, by assumption⟩
    · cases h
  obtain ⟨x, hx0⟩ := hs
  have hx1 := hx x (one.trans hx0)
  refine (pic_calls progOk' mixed 1000 200 f [.int (if f = 13 then .u8 else .i64) (Int.ofNat n)] lo (lo + 60) (some x) (Nat.le_trans globs hlo) (by omega) (by rfl) hx1 (by rw [← hx0]; exact hf.1) w).mono ?_
  rintro e w' ⟨v', rfl, hh, hB⟩
  rw [← hx0] at hh
  have hh' := hh
  obtain ⟨ι, _, _, hv⟩ := hh'
  obtain ⟨a, l, c, m, rfl⟩ := form_of hv hf.2
  exact ⟨a, l, c, m, rfl, ⟨Nat.mod_lt _ (by omega), hh⟩, hB⟩
theorem mixed' : Tryd.prog.follows .mixedOrders = true := by kernel_rfl
theorem c13 (lo : Nat) (hlo : lo = 100 ∨ lo = 160) (n : Nat) (hn : n < 256) (w : World) : Calls Tryd.prog 13 #[.int .u8 n] w (PatOut 13 lo (n % 32) w) := by
  have hm : n % 32 < 32 := Nat.mod_lt _ (by omega)
  rcases hlo with rfl | rfl
  · exact pat_calls 13 n 100 (by omega) (one13_100 n hn) (fine13_100 _ hm) mixed' w
  · exact pat_calls 13 n 160 (by omega) (one13_160 n hn) (fine13_160 _ hm) mixed' w
theorem c15 (n : Nat) (hn : n < 256) (w : World) : Calls Tryd.prog 15 #[.int .i64 n] w (PatOut 15 160 (n % 32) w) :=
  pat_calls 15 n 160 (by omega) (one15_160 n hn) (fine15_160 _ (Nat.mod_lt _ (by omega))) mixed' w
def Says (v : Value) (w : World) (e : Ending) (w' : World) : Prop := e = .returned v ∧ Below w.heap.size w w'
theorem c12 (j : Nat) (W : World) (v6 v7 : Value) {ok : Nat → Prop} (h : PI 13 100 ok j W v6 v7) : Calls Tryd.prog 12 #[.agg #[v6, v7]] W (Says (.int .i64 0) W) := by
  have hm := mays j h.1
  unfold answers at hm
  split at hm
  · rename_i r e
    unfold isNone at hm
    split at hm
    · rename_i n
      have h0 : n = 0 := of_decide_eq_true hm
      subst h0
      exact pic_one progOk' mixed' 1000 200 12 globs (by omega) h.2 (aCallT_imp (runT_sim Tryd.prog noSums 1000 200) e) rfl
    · cases hm
  · cases hm
theorem c14 (f : Nat) (hf : f = 13 ∨ f = 15) (j : Nat) (W : World) (v6 v7 u6 u7 : Value) {ok ok' : Nat → Prop} (h : PI 13 100 ok j W v6 v7) (k : PI f 160 ok' j W u6 u7) : Calls Tryd.prog 14 #[.agg #[v6, v7], .agg #[u6, u7]] W (Says (.bool true) W) := by
  have hm : answers (sameRun f j) isTrue = true := by
    rcases hf with rfl | rfl
    · exact same13 j h.1
    · exact same15 j h.1
  exact pic_two progOk' mixed' 1000 200 14 globs (by omega) (by omega) (by omega) h.2 k.2 (aCallT_imp (runT_sim Tryd.prog noSums 1000 200) (answers_true hm)) rfl
/-- No pattern. -/
noncomputable def nonePat : Value := .agg #[.slice none 0 0, .int .u64 0]
theorem c14n (W : World) : Calls Tryd.prog 14 #[.agg #[.slice none 0 0, .int .u64 0], .agg #[.slice none 0 0, .int .u64 0]] W (Says (.bool true) W) :=
  ai_closed progOk' mixed' 1000 200 14 [nonePat, nonePat] (.bool true) rfl (aCallT_imp (runT_sim Tryd.prog noSums 1000 200) (answers_true (by kernel_rfl))) rfl W
end Go.Proofs.SA
