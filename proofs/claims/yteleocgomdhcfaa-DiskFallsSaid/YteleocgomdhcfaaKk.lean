/- Proved: what the document's 'with' comes to. Each theorem says its own conditions. -/
import Derived.Test.YteleocgomdhcfaaKj
import Derived.Sort.Walk0
set_option linter.unusedVariables false
set_option linter.unusedSimpArgs false
set_option linter.unusedSectionVars false
namespace Go.Proofs.DK
open Go.RowKit
variable [Okb]
theorem setCell_at {w : World} {b o : Nat} {c : Array Value} {t : TypeId} {f : Nat × Nat} (v : Value) (h : w.heap[b]? = some (.cells c t f)) : (w.setCell ⟨b, o, none⟩ v).heap[b]? = some (.cells (c.setIfInBounds o v) t f) := by
  show (w.heap.modify b _)[b]? = _
  rw [Array.getElem?_modify, if_pos rfl, h]
  rfl
theorem setCell_ne {w : World} {b o k : Nat} (v : Value) (h : k ≠ b) : (w.setCell ⟨b, o, none⟩ v).heap[k]? = w.heap[k]? := Below.heap_setCell w ⟨b, o, none⟩ v k h
theorem less_bs (a b : List UInt8) : Op.bytesLess (bs a).toList (bs b).toList = decide (a < b) := by rw [bytesLess_eq, bs_toList, bs_toList]
theorem ins_take (f : Fl) : ∀ (L : List Fl) (k : Nat), (∀ (j : Nat) (x : Fl), j < k → L[j]? = some x → ¬ f.n < x.n) → insF f L = L.take k ++ insF f (L.drop k)
  | L, 0, _ => by simp
  | [], k + 1, _ => by simp [insF]
  | x :: xs, k + 1, h => by
    have h0 := h 0 x (by omega) (by simp)
    have ih := ins_take f xs k fun j y hj hy => h (j + 1) y (by omega) (by simpa using hy)
    rw [insF, if_neg h0, ih]
    simp
theorem ins_lt {f x : Fl} {L : List Fl} {k : Nat} (hx : L[k]? = some x) (h : f.n < x.n) : insF f (L.drop k) = f :: L.drop k := by
  rw [List.drop_eq_getElem_cons (List.getElem?_eq_some_iff.1 hx).1, (List.getElem?_eq_some_iff.1 hx).2]
  rw [insF, if_pos h]
theorem drop_get {α : Type} {L : List α} {k : Nat} {x : α} (hx : L[k]? = some x) : L.drop k = x :: L.drop (k + 1) := by
  rw [List.drop_eq_getElem_cons (List.getElem?_eq_some_iff.1 hx).1, (List.getElem?_eq_some_iff.1 hx).2]
/-- How far the row is, when a file is put into it. -/
def Ins (f : Fl) (L : List Fl) (k : Nat) (done : Bool) (A : List Fl) : Prop := (done = false ∧ A = L.take k ∧ ∀ (j : Nat) (x : Fl), j < k → L[j]? = some x → ¬ f.n < x.n) ∨ (done = true ∧ A ++ L.drop k = insF f L)
theorem Ins.start (f : Fl) (L : List Fl) : Ins f L 0 false [] := .inl ⟨rfl, by simp, fun j x hj => by omega⟩
theorem Ins.stay {f x : Fl} {L A : List Fl} {k : Nat} {d : Bool} (h : Ins f L k d A) (hx : L[k]? = some x) (hn : d = true ∨ ¬ f.n < x.n) : Ins f L (k + 1) d (A ++ [x]) := by
  rcases h with ⟨rfl, rfl, h⟩ | ⟨rfl, h⟩
  · refine .inl ⟨rfl, (take_succ hx).symm, fun j y hj hy => ?_⟩
    by_cases e : j = k
    · subst e
      rw [hx] at hy; cases hy
      rcases hn with hn | hn
      · cases hn
      · exact hn
    · exact h j y (by omega) hy
  · refine .inr ⟨rfl, ?_⟩
    rw [← h, drop_get hx]
    simp
theorem Ins.go {f x : Fl} {L A : List Fl} {k : Nat} (h : Ins f L k false A) (hx : L[k]? = some x) (hn : f.n < x.n) : Ins f L (k + 1) true (A ++ [f] ++ [x]) := by
  rcases h with ⟨_, rfl, h⟩ | ⟨h, _⟩
  · refine .inr ⟨rfl, ?_⟩
    rw [ins_take f L k h, ins_lt hx hn, drop_get hx]
    simp
  · cases h
theorem Ins.done {f : Fl} {L A : List Fl} (h : Ins f L L.length true A) : A = insF f L := by
  rcases h with ⟨h, _⟩ | ⟨_, h⟩
  · cases h
  · simpa using h
theorem Ins.last {f : Fl} {L A : List Fl} (h : Ins f L L.length false A) : A ++ [f] = insF f L := by
  rcases h with ⟨_, rfl, h⟩ | ⟨h, _⟩
  · rw [ins_take f L L.length h]
    simp [insF]
  · cases h
/-- A file's block. -/
def bf (f : Fl) (v : Value) : Obj := .cells #[.string (bs f.n), v, .int .i64 f.s] 43
structure Three (S : Ds) (v : Value) (f : Fl) (u : Value) (b : Nat) (W : World) : Prop where
  a : W.heap[b]? = some (bx S v)
  f : W.heap[b + 1]? = some (bf f u)
  z : W.heap[b + 2]? = some bz
theorem Three.keep {S : Ds} {v u : Value} {f : Fl} {b : Nat} {W W' : World} (h : Three S v f u b W) (hB : Below (b + 3) W W') : Three S v f u b W' := ⟨(hB.block b (by omega)).trans h.a, (hB.block (b + 1) (by omega)).trans h.f, (hB.block (b + 2) (by omega)).trans h.z⟩
def W3 (S : Ds) (v : Value) (f : Fl) (u : Value) (w : World) : World := ((w.alloc (bx S v)).alloc (bf f u)).alloc bz
theorem Three.at (S : Ds) (v : Value) (f : Fl) (u : Value) (w : World) : Three S v f u w.heap.size (W3 S v f u w) := by
  refine ⟨?_, ?_, ?_⟩
  · have hB : Below (w.heap.size + 1) (w.alloc (bx S v)) (W3 S v f u w) := ((Below.refl _ _).alloc (by simp) _).alloc (by simp) _
    exact (hB.block _ (by omega)).trans (heap_alloc_new w _)
  · have h := heap_one (w.alloc (bx S v)) (bf f u) bz
    simpa [W3] using h
  · have h := heap_two (w.alloc (bx S v)) (bf f u) bz
    simpa [W3] using h
theorem W3.below (S : Ds) (v : Value) (f : Fl) (u : Value) (w : World) : Below w.heap.size w (W3 S v f u w) := (((Below.refl _ w).alloc (Nat.le_refl _) _).alloc (by simp) _).alloc (by simp; omega) _
theorem W3.size (S : Ds) (v : Value) (f : Fl) (u : Value) (w : World) : (W3 S v f u w).heap.size = w.heap.size + 3 := by simp [W3]
/-- The first block is another disk. -/
def put7 (S : Ds) (v : Value) (b : Nat) (w : World) : World := ((((((w.setCell ⟨b, 0, none⟩ (.int .i64 S.room)).setCell ⟨b, 1, none⟩ v).setCell ⟨b, 2, none⟩ (.bool S.down)).setCell ⟨b, 3, none⟩ (.int .i64 S.falls)).setCell ⟨b, 4, none⟩ (.bool S.fused)).setCell ⟨b, 5, none⟩ (.int .i64 S.fuse)).setCell ⟨b, 6, none⟩ (.int .i64 S.part)
theorem put7_at {S S' : Ds} {v v' : Value} {b : Nat} {w : World} (h : w.heap[b]? = some (bx S' v')) : (put7 S v b w).heap[b]? = some (bx S v) := by
  unfold put7
  have h1 := setCell_at (o := 0) (.int .i64 S.room) h
  have h2 := setCell_at (o := 1) (v) h1
  have h3 := setCell_at (o := 2) (.bool S.down) h2
  have h4 := setCell_at (o := 3) (.int .i64 S.falls) h3
  have h5 := setCell_at (o := 4) (.bool S.fused) h4
  have h6 := setCell_at (o := 5) (.int .i64 S.fuse) h5
  have h7 := setCell_at (o := 6) (.int .i64 S.part) h6
  simp only [List.setIfInBounds_toArray, List.set_cons_zero, List.set_cons_succ] at h7
  exact h7
theorem put7_ne {S : Ds} {v : Value} {b k : Nat} {w : World} (h : k ≠ b) : (put7 S v b w).heap[k]? = w.heap[k]? := by
  unfold put7
  rw [setCell_ne _ h, setCell_ne _ h, setCell_ne _ h, setCell_ne _ h, setCell_ne _ h, setCell_ne _ h, setCell_ne _ h]
theorem put7_size (S : Ds) (v : Value) (b : Nat) (w : World) : (put7 S v b w).heap.size = w.heap.size := by simp [put7]
theorem put7_below {N : Nat} {S : Ds} {v : Value} {b : Nat} {w0 w : World} (h : Below N w0 w) (hb : N ≤ b) : Below N w0 (put7 S v b w) := by
  unfold put7
  repeat refine Below.setCell ?_ (by simpa using hb) _
  exact h
theorem put7_own {base e size n : Nat} {S : Ds} {v u : Value} {b : Nat} {xs : List Value} {w : World} (h : w.ownsRow base e size u n xs) (hb : b < base) : (put7 S v b w).ownsRow base e size u n xs := by
  unfold put7
  repeat refine ownsRow_setCell_below ?_ (by simpa using hb) _
  exact h
theorem Three.put {S S' : Ds} {v v' u : Value} {f : Fl} {b : Nat} {W : World} (h : Three S v f u b W) : Three S' v' f u b (put7 S' v' b W) := ⟨put7_at h.a, (put7_ne (by omega)).trans h.f, (put7_ne (by omega)).trans h.z⟩
end Go.Proofs.DK
