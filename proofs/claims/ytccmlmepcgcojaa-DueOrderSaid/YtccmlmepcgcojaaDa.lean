/- Proved: heaps as plain lists: what 'up' and 'down' keep, and what they come to. Conditions: none but what each theorem names. -/
set_option linter.unusedVariables false
set_option linter.unusedSimpArgs false
namespace Go.Proofs.DU
/-- An entry: its block, its key, when it is due. -/
structure En where
  b : Nat
  k : Int
  t : Int
/-- Is one due ahead of another one? -/
def lt (x y : En) : Bool := decide (x.t < y.t) || (decide (x.t = y.t) && decide (x.k < y.k))
theorem lt_iff (x y : En) : lt x y = true ↔ x.t < y.t ∨ (x.t = y.t ∧ x.k < y.k) := by simp [lt]
theorem lt_no (x y : En) : lt x y = false ↔ ¬ (x.t < y.t ∨ (x.t = y.t ∧ x.k < y.k)) := by
  rw [← lt_iff, Bool.not_eq_true]
theorem lt_asymm {x y : En} (h : lt x y = true) : lt y x = false := by
  rw [lt_iff] at h; rw [lt_no]; omega
theorem le_trans {x y z : En} (h : lt y x = false) (k : lt z y = false) : lt z x = false := by
  rw [lt_no] at *; omega
theorem lt_le {x y z : En} (h : lt x y = true) (k : lt z y = false) : lt z x = false := by
  rw [lt_iff] at h; rw [lt_no] at *; omega
theorem le_lt {x y z : En} (h : lt y x = false) (k : lt z x = true) : lt y z = false := by
  rw [lt_iff] at k; rw [lt_no] at *; omega
variable {R : List En} {i j n : Nat} {x y : En}
/-- Two change places. -/
def swp (R : List En) (i j : Nat) : List En := match R[i]?, R[j]? with
  | some x, some y => (R.set i y).set j x
  | _, _ => R
theorem swp_len : (swp R i j).length = R.length := by
  unfold swp; split <;> simp
theorem swp_eq (hi : R[i]? = some x) (hj : R[j]? = some y) : swp R i j = (R.set i y).set j x := by
  unfold swp; rw [hi, hj]
theorem swp_at (hi : R[i]? = some x) (hj : R[j]? = some y) (m : Nat) : (swp R i j)[m]? = if m = j then some x else if m = i then some y else R[m]? := by
  rw [swp_eq hi hj]
  have h1 := (List.getElem?_eq_some_iff.1 hi).1
  have h2 := (List.getElem?_eq_some_iff.1 hj).1
  by_cases hm : m = j
  · subst hm; rw [if_pos rfl, List.getElem?_set_self (by simpa using h2)]
  · rw [if_neg hm, List.getElem?_set_ne (fun e => hm e.symm)]
    by_cases hn : m = i
    · subst hn; rw [if_pos rfl, List.getElem?_set_self h1]
    · rw [if_neg hn, List.getElem?_set_ne (fun e => hn e.symm)]
theorem swp_perm (hi : R[i]? = some x) (hj : R[j]? = some y) : (swp R i j).Perm R := by
  rw [swp_eq hi hj]
  obtain ⟨h1, h1'⟩ := List.getElem?_eq_some_iff.1 hi
  obtain ⟨h2, h2'⟩ := List.getElem?_eq_some_iff.1 hj
  have := Array.swap_perm (xs := R.toArray) (i := i) (j := j) (by simpa using h1) (by simpa using h2)
  have := this.toList
  simpa [Array.swap, h1', h2'] using this
/-- Is what stands at a place not due ahead of its parent? -/
def Ok (R : List En) (m : Nat) : Prop := ∀ x y, R[m]? = some x → R[(m - 1) / 2]? = some y → lt x y = false
/-- A heap, of the first so many. -/
def Heap (R : List En) (n : Nat) : Prop := ∀ m, 0 < m → m < n → Ok R m
/-- A heap, but that the one at a place may be due too late or too early. -/
structure Hole (R : List En) (n i : Nat) : Prop where
  ok : ∀ m, 0 < m → m < n → m ≠ i → (m - 1) / 2 ≠ i → Ok R m
  up : ∀ m, 0 < m → m < n → (m - 1) / 2 = i → 0 < i → ∀ x y, R[m]? = some x → R[(i - 1) / 2]? = some y → lt x y = false
/-- A heap, but that the one at a place may be due ahead of its parent. -/
structure Rise (R : List En) (n i : Nat) : Prop where
  ok : ∀ m, 0 < m → m < n → m ≠ i → Ok R m
  up : ∀ m, 0 < m → m < n → (m - 1) / 2 = i → 0 < i → ∀ x y, R[m]? = some x → R[(i - 1) / 2]? = some y → lt x y = false
theorem Heap.hole (h : Heap R n) (hin : i < n) (hn : n ≤ R.length) : Hole R n i where
  ok := fun m h1 h2 _ _ => h m h1 h2
  up := fun m h1 h2 h3 h4 x y hx hy => by
    have hi : i < R.length := by omega
    have e : R[i]? = some R[i] := List.getElem?_eq_getElem hi
    have a := h m h1 h2 x R[i] hx (by rw [h3]; exact e)
    have b := h i h4 hin R[i] y e hy
    exact le_trans b a
/-- Another one put into the hole. -/
theorem Hole.set (h : Hole R n i) (z : En) : Hole (R.set i z) n i where
  ok := fun m h1 h2 h3 h4 x y hx hy => by
    rw [List.getElem?_set_ne (fun e => h3 e.symm)] at hx
    rw [List.getElem?_set_ne (fun e => h4 e.symm)] at hy
    exact h.ok m h1 h2 h3 h4 x y hx hy
  up := fun m h1 h2 h3 h4 x y hx hy => by
    rw [List.getElem?_set_ne (by omega)] at hx
    rw [List.getElem?_set_ne (by omega)] at hy
    exact h.up m h1 h2 h3 h4 x y hx hy
theorem Heap.less (h : Heap R n) {m : Nat} (hm : m ≤ n) : Heap R m := fun k h1 h2 => h k h1 (by omega)
/-- The last one put into a hole: the first so many others. -/
theorem Hole.swap_last (h : Heap R (n + 1)) (hin : i < n) (hx : R[i]? = some x) (hy : R[n]? = some y) : Hole (swp R i n) n i := by
  have hl := (List.getElem?_eq_some_iff.1 hy).1
  have h2 := ((h.less (Nat.le_succ n)).hole hin (by omega)).set y
  have e : ∀ m, m < n → (swp R i n)[m]? = (R.set i y)[m]? := by
    intro m hm
    rw [swp_eq hx hy, List.getElem?_set_ne (by omega)]
  exact {
    ok := fun m h1 h2' h3 h4 a b ha hb => by
      rw [e m h2'] at ha; rw [e _ (by omega)] at hb
      exact h2.ok m h1 h2' h3 h4 a b ha hb
    up := fun m h1 h2' h3 h4 a b ha hb => by
      rw [e m h2'] at ha; rw [e _ (by omega)] at hb
      exact h2.up m h1 h2' h3 h4 a b ha hb }
/-- One behind the heap. -/
theorem Heap.rise (h : Heap R R.length) (z : En) : Rise (R ++ [z]) (R.length + 1) R.length where
  ok := fun m h1 h2 h3 x y hx hy => by
    rw [List.getElem?_append_left (by omega)] at hx hy
    exact h m h1 (by omega) x y hx hy
  up := fun m h1 h2 h3 h4 => by omega
/-- Where nothing is to be done any more. -/
theorem Rise.done (h : Rise R n i) (hi : i = 0 ∨ Ok R i) : Heap R n := by
  intro m h1 h2
  by_cases e : m = i
  · subst e
    rcases hi with hi | hi
    · omega
    · exact hi
  · exact h.ok m h1 h2 e
/-- A step up. -/
theorem Rise.step (h : Rise R n i) (hin : i < n) (h0 : 0 < i) (hx : R[i]? = some x) (hy : R[(i - 1) / 2]? = some y) (hlt : lt x y = true) : Rise (swp R ((i - 1) / 2) i) n ((i - 1) / 2) := by
  have hs := swp_at hy hx
  refine ⟨fun m h1 h2 h3 a b ha hb => ?_, fun m h1 h2 h3 h4 a b ha hb => ?_⟩
  · rw [hs] at ha hb
    by_cases e : m = i
    · subst e
      rw [if_pos rfl] at ha; cases ha
      rw [if_neg (by omega), if_pos rfl] at hb; cases hb
      exact lt_asymm hlt
    · rw [if_neg e, if_neg h3] at ha
      by_cases e2 : (m - 1) / 2 = i
      · rw [if_pos e2] at hb; cases hb
        exact h.up m h1 h2 e2 h0 a y ha hy
      · rw [if_neg e2] at hb
        by_cases e3 : (m - 1) / 2 = (i - 1) / 2
        · rw [if_pos e3] at hb; cases hb
          have := h.ok m h1 h2 e a y ha (by rw [e3]; exact hy)
          exact lt_le hlt this
        · rw [if_neg e3] at hb
          exact h.ok m h1 h2 e a b ha hb
  · rw [hs] at ha hb
    rw [if_neg (by omega), if_neg (by omega)] at hb
    have hp : lt y b = false := h.ok ((i - 1) / 2) h4 (by omega) (by omega) y b hy hb
    by_cases e : m = i
    · subst e
      rw [if_pos rfl] at ha; cases ha
      exact hp
    · rw [if_neg e, if_neg (by omega)] at ha
      have := h.ok m h1 h2 e a y ha (by rw [h3]; exact hy)
      exact le_trans hp this
/-- The way down: it began at i0 and stands at i. -/
structure Sink (R : List En) (n i0 i : Nat) : Prop where
  hole : Hole R n i
  ok : i0 < i → Ok R i
  le : i0 ≤ i
theorem Hole.sink (h : Hole R n i) : Sink R n i i := ⟨h, fun h => by omega, Nat.le_refl _⟩
/-- The one below that is due first: j, of the two at 2i+1 and 2i+2. -/
def Least (R : List En) (n i j : Nat) : Prop := (j = 2 * i + 1 ∨ j = 2 * i + 2) ∧ j < n ∧ ∀ m, 0 < m → m < n → (m - 1) / 2 = i → ∀ x y, R[m]? = some x → R[j]? = some y → lt x y = false
theorem least_left (h : 2 * i + 1 < n) (hr : ¬ 2 * i + 2 < n ∨ ∀ x y, R[2 * i + 2]? = some x → R[2 * i + 1]? = some y → lt x y = false) : Least R n i (2 * i + 1) := by
  refine ⟨.inl rfl, h, fun m h1 h2 h3 x y hx hy => ?_⟩
  have : m = 2 * i + 1 ∨ m = 2 * i + 2 := by omega
  rcases this with rfl | rfl
  · rw [hx] at hy; cases hy
    rw [lt_no]; omega
  · rcases hr with hr | hr
    · omega
    · exact hr x y hx hy
theorem least_right (h : 2 * i + 2 < n) (hx : R[2 * i + 2]? = some x) (hy : R[2 * i + 1]? = some y) (hr : lt x y = true) : Least R n i (2 * i + 2) := by
  refine ⟨.inr rfl, h, fun m h1 h2 h3 a b ha hb => ?_⟩
  have : m = 2 * i + 1 ∨ m = 2 * i + 2 := by omega
  rcases this with rfl | rfl
  · rw [ha] at hy; cases hy
    rw [hb] at hx; cases hx
    exact lt_asymm hr
  · rw [ha] at hb; cases hb
    rw [lt_no]; omega
theorem Sink.step {i0 : Nat} (h : Sink R n i0 i) (hj : Least R n i j) (hx : R[j]? = some x) (hy : R[i]? = some y) (hlt : lt x y = true) : Sink (swp R i j) n i0 j := by
  have hs := swp_at hy hx
  obtain ⟨hj1, hj2, hj3⟩ := hj
  have hpj : (j - 1) / 2 = i := by omega
  have hij : i < j := by omega
  refine ⟨⟨fun m h1 h2 h3 h4 a b ha hb => ?_, fun m h1 h2 h3 h4 a b ha hb => ?_⟩, fun _ a b ha hb => ?_, by have := h.le; omega⟩
  · rw [hs] at ha hb
    rw [if_neg h3] at ha; rw [if_neg h4] at hb
    by_cases e : m = i
    · subst e
      rw [if_pos rfl] at ha; cases ha
      rw [if_neg (by omega)] at hb
      exact h.hole.up j (by omega) hj2 hpj h1 x b hx hb
    · rw [if_neg e] at ha
      by_cases e2 : (m - 1) / 2 = i
      · rw [if_pos e2] at hb; cases hb
        exact hj3 m h1 h2 e2 a x ha hx
      · rw [if_neg e2] at hb
        exact h.hole.ok m h1 h2 e e2 a b ha hb
  · rw [hs] at ha hb
    rw [if_neg (by omega), if_neg (by omega)] at ha
    rw [hpj, if_neg (by omega), if_pos rfl] at hb; cases hb
    exact h.hole.ok m h1 h2 (by omega) (by omega) a x ha (by rw [h3]; exact hx)
  · rw [hs, if_pos rfl] at ha; cases ha
    rw [hs, hpj, if_neg (by omega), if_pos rfl] at hb; cases hb
    exact lt_asymm hlt
/-- Those below are not due ahead. -/
def Low (R : List En) (n i : Nat) : Prop := ∀ m, 0 < m → m < n → (m - 1) / 2 = i → Ok R m
theorem low_none (h : n ≤ 2 * i + 1) : Low R n i := fun m h1 h2 h3 => by omega
theorem Least.low (hj : Least R n i j) (hx : R[j]? = some x) (hy : R[i]? = some y) (hlt : lt x y = false) : Low R n i := fun m h1 h2 h3 a b ha hb => by
  rw [h3, hy] at hb; cases hb
  exact le_trans hlt (hj.2.2 m h1 h2 h3 a x ha hx)
theorem Sink.done {i0 : Nat} (h : Sink R n i0 i) (hl : Low R n i) (hlt : i0 < i) : Heap R n := by
  intro m h1 h2
  by_cases e : m = i
  · subst e; exact h.ok hlt
  · by_cases e2 : (m - 1) / 2 = i
    · exact hl m h1 h2 e2
    · exact h.hole.ok m h1 h2 e e2
theorem Sink.rise (h : Sink R n i i) (hl : Low R n i) : Rise R n i where
  ok := fun m h1 h2 h3 => by
    by_cases e2 : (m - 1) / 2 = i
    · exact hl m h1 h2 e2
    · exact h.hole.ok m h1 h2 h3 e2
  up := h.hole.up
/-- The first one of a heap is due first. -/
theorem Heap.first (h : Heap R R.length) (h0 : R[0]? = some x) : ∀ (m : Nat) (y : En), R[m]? = some y → lt y x = false := by
  intro m
  induction m using Nat.strongRecOn with
  | _ m ih =>
    intro y hy
    by_cases hm : m = 0
    · subst hm; rw [h0] at hy; cases hy; rw [lt_no]; omega
    · have hl := (List.getElem?_eq_some_iff.1 hy).1
      have e : R[(m - 1) / 2]? = some (R[(m - 1) / 2]'(by omega)) := List.getElem?_eq_getElem (by omega)
      have a := ih ((m - 1) / 2) (by omega) _ e
      have b := h m (by omega) hl y _ hy e
      exact le_trans a b
end Go.Proofs.DU
