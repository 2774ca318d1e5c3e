/- Proved: contracts of the script's small functions (kind, emitted) and lemmas that they need; each theorem says its own conditions. -/
import Derived.Test.YtojfppkibmmmdaaDoorAf
import Derived.Test.YtojfppkibmmmdaaDoorProg
import Derived.WalkKit
import Derived.WalkMore
import Derived.WalkLawsBesides
import Derived.OwnWalk
import Derived.IntWalk
import Derived.Lib.Hide
set_option linter.unusedVariables false
set_option linter.unusedSimpArgs false
namespace Go.Proofs.SA
open Go.RowKit
theorem bcell {W w1 : World} (hb : Below W.heap.size W w1) : (∀ b o, b < W.heap.size → w1.cell? ⟨b, o, none⟩ = W.cell? ⟨b, o, none⟩) ∧ (∀ b o, b < W.heap.size → w1.frozen? ⟨b, o, none⟩ = W.frozen? ⟨b, o, none⟩) :=
  ⟨fun b o h => hb.cell (p := ⟨b, o, none⟩) h, fun b o h => hb.frozen (p := ⟨b, o, none⟩) h⟩
theorem btrans {w w1 w2 : World} (h1 : Below w.heap.size w w1) (h2 : Below w1.heap.size w1 w2) : Below w.heap.size w w2 := h1.trans (h2.mono h1.size)
theorem blt {w w' : World} {n : Nat} (hn : n < w.heap.size) (hB : Below w.heap.size w w') : n < w'.heap.size := Nat.lt_of_lt_of_le hn hB.size
/-- The table of kinds lies there. -/
def Tab (w : World) : Prop := ∀ (i : Nat) (v : Value), ([1,1,1,1,3,13,4,4,4,2,5,6,7,9,12,11].map fun n => Value.int .u8 n)[i]? = some v → w.cell? ⟨0, i, none⟩ = some v
def kinds (k : Nat) : Nat := [1,1,1,1,3,13,4,4,4,2,5,6,7,9,12,11].getD (k % 16) 0
def kindN (k : Nat) : Nat := if 128 ≤ k ∧ kinds k = 9 then 8 else if 128 ≤ k ∧ kinds k = 12 then 10 else kinds k
set_option maxRecDepth 100000 in
set_option maxHeartbeats 1000000 in
theorem c36a (k q : Nat) (w : World) (hk : k < 256) (hq : q < 256) (h : w.cell? ⟨0, k % 16, none⟩ = some (.int .u8 q)) :
    Calls Tryd.prog 36 #[.int .u8 k] w fun e w' => e = .returned (.int .u8 (if 128 ≤ k ∧ q = 9 then 8 else if 128 ≤ k ∧ q = 12 then 10 else q : Nat)) ∧ w = w' := by
  by_cases h1 : 128 ≤ k
  · by_cases h2 : q = 9
    · subst h2
      rw [if_pos ⟨h1, rfl⟩]
      go_enter Tryd.func36, Tryd.ntmps36
      go_wp2
      go_ret
      exact ⟨rfl, rfl⟩
    · by_cases h3 : q = 12
      · subst h3
        rw [if_neg (by omega), if_pos ⟨h1, rfl⟩]
        go_enter Tryd.func36, Tryd.ntmps36
        go_wp2
        go_ret
        exact ⟨rfl, rfl⟩
      · rw [if_neg (by omega), if_neg (by omega)]
        go_enter Tryd.func36, Tryd.ntmps36
        go_wp2
        go_ret
        exact ⟨rfl, rfl⟩
  · rw [if_neg (by omega), if_neg (by omega)]
    go_enter Tryd.func36, Tryd.ntmps36
    go_wp2
    go_ret
    exact ⟨rfl, rfl⟩
theorem kinds_at (k : Nat) : (([1,1,1,1,3,13,4,4,4,2,5,6,7,9,12,11].map fun n => Value.int .u8 n) : List Value)[k % 16]? = some (.int .u8 (kinds k : Nat)) := by
  have h : k % 16 < 16 := Nat.mod_lt _ (by omega)
  unfold kinds
  generalize k % 16 = j at *
  rcases (by omega : j = 0 ∨ j = 1 ∨ j = 2 ∨ j = 3 ∨ j = 4 ∨ j = 5 ∨ j = 6 ∨ j = 7 ∨ j = 8 ∨ j = 9 ∨ j = 10 ∨ j = 11 ∨ j = 12 ∨ j = 13 ∨ j = 14 ∨ j = 15) with rfl | rfl | rfl | rfl | rfl | rfl | rfl | rfl | rfl | rfl | rfl | rfl | rfl | rfl | rfl | rfl <;> rfl
theorem kinds_lt (k : Nat) : kinds k < 14 := by
  have h : k % 16 < 16 := Nat.mod_lt _ (by omega)
  unfold kinds
  generalize k % 16 = j at *
  rcases (by omega : j = 0 ∨ j = 1 ∨ j = 2 ∨ j = 3 ∨ j = 4 ∨ j = 5 ∨ j = 6 ∨ j = 7 ∨ j = 8 ∨ j = 9 ∨ j = 10 ∨ j = 11 ∨ j = 12 ∨ j = 13 ∨ j = 14 ∨ j = 15) with rfl | rfl | rfl | rfl | rfl | rfl | rfl | rfl | rfl | rfl | rfl | rfl | rfl | rfl | rfl | rfl <;> decide
theorem c36 (k : Nat) (w : World) (hk : k < 256) (h : Tab w) : Calls Tryd.prog 36 #[.int .u8 k] w fun e w' => e = .returned (.int .u8 (kindN k : Nat)) ∧ w = w' :=
  c36a k (kinds k) w hk (by have := kinds_lt k; omega) (h _ _ (kinds_at k))
set_option maxRecDepth 100000 in
set_option maxHeartbeats 1000000 in
theorem c22 (k : Nat) (w : World) (hk : k < 256) : Calls Tryd.prog 22 #[.int .i64 k] w fun e w' => e = .returned (.int .u8 (kindN k : Nat)) ∧ w = w' := by
  have h : k % 16 < 16 := Nat.mod_lt _ (by omega)
  have hK : kindN k = if 128 ≤ k ∧ [1,1,1,1,3,13,4,4,4,2,5,6,7,9,12,11].getD (k % 16) 0 = 9 then 8 else if 128 ≤ k ∧ [1,1,1,1,3,13,4,4,4,2,5,6,7,9,12,11].getD (k % 16) 0 = 12 then 10 else [1,1,1,1,3,13,4,4,4,2,5,6,7,9,12,11].getD (k % 16) 0 := rfl
  rw [hK]
  clear hK
  have he : (k : Int) % 16 = ((k % 16 : Nat) : Int) := by omega
  generalize k % 16 = j at *
  have HE := Lib.hid he
  clear he
  by_cases h1 : 128 ≤ k
  all_goals rcases (by omega : j = 0 ∨ j = 1 ∨ j = 2 ∨ j = 3 ∨ j = 4 ∨ j = 5 ∨ j = 6 ∨ j = 7 ∨ j = 8 ∨ j = 9 ∨ j = 10 ∨ j = 11 ∨ j = 12 ∨ j = 13 ∨ j = 14 ∨ j = 15) with rfl | rfl | rfl | rfl | rfl | rfl | rfl | rfl | rfl | rfl | rfl | rfl | rfl | rfl | rfl | rfl
  all_goals
    have he := HE.out
    clear HE
    simp [h1]
    go_enter Tryd.func22, Tryd.ntmps22
    go_wp2
    go_ret
    exact ⟨rfl, rfl⟩
end Go.Proofs.SA
