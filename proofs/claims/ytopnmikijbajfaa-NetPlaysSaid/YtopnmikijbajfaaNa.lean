/- Proved: rows of records in memory, kept by their footprint: laws on appending, dropping, joining. Conditions: none but what each theorem names. -/
import Derived.Test.YtopnmikijbajfaaAf
import Derived.WalkKit
import Derived.WalkMore
import Derived.OwnWalk
import Derived.Lib.Hide
import Derived.Laws.AppendOwn
set_option linter.unusedVariables false
set_option linter.unusedSimpArgs false
namespace Go.Proofs.NT
open Go.RowKit Go.Ai
theorem bcell {W w1 : World} (hb : Below W.heap.size W w1) : (∀ b o, b < W.heap.size → w1.cell? ⟨b, o, none⟩ = W.cell? ⟨b, o, none⟩) ∧ (∀ b o, b < W.heap.size → w1.frozen? ⟨b, o, none⟩ = W.frozen? ⟨b, o, none⟩) :=
  ⟨fun b o h => hb.cell (p := ⟨b, o, none⟩) h, fun b o h => hb.frozen (p := ⟨b, o, none⟩) h⟩
theorem btrans {w w1 w2 : World} (h1 : Below w.heap.size w w1) (h2 : Below w1.heap.size w1 w2) : Below w.heap.size w w2 := h1.trans (h2.mono h1.size)
theorem cell_of_heap {w : World} {b : Nat} {c : Array Value} {t : TypeId} {fz : Nat × Nat} (h : w.heap[b]? = some (.cells c t fz)) (j : Nat) : w.cell? ⟨b, j, none⟩ = c[j]? := by
  unfold World.cell?
  rw [h]
  rfl
/-- A kind of record: how many cells, and when cells are one, its memory in blocks that 'ok' names. -/
structure Elem (α : Type) where
  k : Nat
  Is : (Nat → Prop) → World → List Value → α → Prop
  len : ∀ {ok W cs a}, Is ok W cs a → cs.length = k
  mono : ∀ {ok W W' cs a}, Is ok W cs a → Keeps ok W W' → Is ok W' cs a
  weaken : ∀ {ok ok' : Nat → Prop} {W cs a}, Is ok W cs a → (∀ b, b < W.heap.size → ok b → ok' b) → Is ok' W cs a
variable {α : Type} {E : Elem α} {ok ok' : Nat → Prop} {W W' : World} {xs cs : List Value} {l : List α} {a : α}
def Rows (E : Elem α) (ok : Nat → Prop) (W : World) (xs : List Value) (l : List α) : Prop := xs.length = l.length * E.k ∧ ∀ (i : Nat) (a : α), l[i]? = some a → E.Is ok W ((xs.drop (i * E.k)).take E.k) a
theorem Rows.mono (h : Rows E ok W xs l) (hB : Keeps ok W W') : Rows E ok W' xs l := ⟨h.1, fun i a e => E.mono (h.2 i a e) hB⟩
theorem Rows.weaken (h : Rows E ok W xs l) (hl : ∀ b, b < W.heap.size → ok b → ok' b) : Rows E ok' W xs l := ⟨h.1, fun i a e => E.weaken (h.2 i a e) hl⟩
theorem Rows.nil : Rows E ok W [] [] := ⟨by simp, fun i a e => by simp at e⟩
theorem Rows.app {ys : List Value} {m : List α} (h : Rows E ok W xs l) (k : Rows E ok W ys m) : Rows E ok W (xs ++ ys) (l ++ m) := by
  have hx := h.1
  have hy := k.1
  refine ⟨by rw [List.length_append, List.length_append, hx, hy, Nat.add_mul], fun i b e => ?_⟩
  by_cases hi : i < l.length
  · rw [List.getElem?_append_left hi] at e
    have h1 : (i + 1) * E.k ≤ l.length * E.k := Nat.mul_le_mul_right _ hi
    rw [Nat.add_mul, Nat.one_mul] at h1
    rw [List.drop_append_of_le_length (by omega), List.take_append_of_le_length (by rw [List.length_drop]; omega)]
    exact h.2 i b e
  · rw [List.getElem?_append_right (by omega)] at e
    have := k.2 (i - l.length) b e
    have e2 : (xs ++ ys).drop (i * E.k) = ys.drop ((i - l.length) * E.k) := by
      rw [List.drop_append, List.drop_of_length_le (by rw [hx]; exact Nat.mul_le_mul_right _ (by omega)), List.nil_append, hx, Nat.sub_mul]
    rw [e2]
    exact this
theorem Rows.one (h : E.Is ok W cs a) : Rows E ok W cs [a] := by
  have hl := E.len h
  refine ⟨by simp [hl], fun i b e => ?_⟩
  have hi : i = 0 := by have := (List.getElem?_eq_some_iff.1 e).1; simp at this; omega
  subst hi
  simp at e
  subst e
  rw [Nat.zero_mul, List.drop_zero, List.take_of_length_le (by omega)]
  exact h
theorem Rows.snoc (h : Rows E ok W xs l) (k : E.Is ok W cs a) : Rows E ok W (xs ++ cs) (l ++ [a]) := h.app (Rows.one k)
theorem Rows.drop (h : Rows E ok W xs l) (n : Nat) : Rows E ok W (xs.drop (n * E.k)) (l.drop n) := by
  refine ⟨by rw [List.length_drop, List.length_drop, h.1, Nat.sub_mul], fun i b e => ?_⟩
  rw [List.getElem?_drop] at e
  have := h.2 (n + i) b e
  rw [List.drop_drop, ← Nat.add_mul]
  exact this
theorem Rows.take (h : Rows E ok W xs l) (n : Nat) (hn : n ≤ l.length) : Rows E ok W (xs.take (n * E.k)) (l.take n) := by
  have hx := h.1
  have hle : n * E.k ≤ l.length * E.k := Nat.mul_le_mul_right _ hn
  refine ⟨by rw [List.length_take, List.length_take, hx]; rw [Nat.min_eq_left hle, Nat.min_eq_left hn], fun i b e => ?_⟩
  have hi : i < n := by have := (List.getElem?_eq_some_iff.1 e).1; rw [List.length_take] at this; omega
  rw [List.getElem?_take, if_pos hi] at e
  have h1 : (i + 1) * E.k ≤ n * E.k := Nat.mul_le_mul_right _ hi
  rw [Nat.add_mul, Nat.one_mul] at h1
  have := h.2 i b e
  rw [List.drop_take, List.take_take, Nat.min_eq_left (by omega)]
  exact this
/-- One left out. -/
theorem Rows.without (h : Rows E ok W xs l) (n : Nat) (hn : n < l.length) : Rows E ok W (xs.take (n * E.k) ++ xs.drop ((n + 1) * E.k)) (l.take n ++ l.drop (n + 1)) := (h.take n (by omega)).app (h.drop (n + 1))
end Go.Proofs.NT
