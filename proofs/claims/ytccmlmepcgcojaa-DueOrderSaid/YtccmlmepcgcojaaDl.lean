/- Proved: what 'At', 'Next' and 'Len' of a list of dues come to. Each theorem says its own conditions. -/
import Derived.Test.YtccmlmepcgcojaaDk
set_option linter.unusedVariables false
set_option linter.unusedSimpArgs false
namespace Go.Proofs.DU
open Go.RowKit
variable {G : Nat → Prop} {bd : Nat} {L : List (Int × Int)}
theorem c17 (k : Int) (w : World) (h : D G bd L w) : Calls Try.prog 17 #[.pointer (some ⟨bd, 0, none⟩), .int .u64 k] w fun e w' => w = w' ∧ ((∃ t, (k, t) ∈ L ∧ e = .returned (.tuple #[.int .u64 t, .bool true])) ∨ ((∀ x ∈ L, x.1 ≠ k) ∧ e = .returned (.tuple #[.int .u64 0, .bool false]))) := by
  obtain ⟨bm, rv, es, ck, R, h⟩ := h
  obtain ⟨y0, y1, yf⟩ := h.st.head
  rcases h.look k with ⟨i, e, j, x, h1, h2, h3, h4, h5, h6, h7⟩ | ⟨h1, h2, h3⟩
  · have hl := look_in h.map h1
    have e1 := (h.st.cells h5).2.1
    obtain ⟨eb, ek, et⟩ := e
    unfold ptr at hl
    simp only at hl e1 h7
    have H7 := Lib.hid h7
    clear h h1 h2 h3 h4 h5 h6 h7
    go_enter Try.func17, Try.ntmps17
    go_wp2
    go_ret2
    exact ⟨rfl, .inl ⟨et, H7.out, rfl⟩⟩
  · have hl := look_out h.map h1
    have H3 := Lib.hid h3
    clear h h1 h2 h3
    go_enter Try.func17, Try.ntmps17
    go_wp2
    go_ret2
    exact ⟨rfl, .inr ⟨H3.out, rfl⟩⟩
theorem c12 (w : World) (h : D G bd L w) : Calls Try.prog 12 #[.pointer (some ⟨bd, 0, none⟩)] w fun e w' => w = w' ∧ e = .returned (.int .i64 L.length) := by
  obtain ⟨bm, rv, es, ck, R, h⟩ := h
  obtain ⟨y0, y1, yf⟩ := h.st.head
  obtain ⟨p, c, rfl⟩ := h.st.slice
  have hl : R.length = L.length := by have := h.perm.length_eq; simpa using this
  rw [hl] at y0
  clear h hl
  generalize L.length = n at *
  go_enter Try.func12, Try.ntmps12
  go_wp2
  go_ret
  exact ⟨rfl, rfl⟩
/-- The first one of a list. -/
def First (L : List (Int × Int)) (x : Int × Int) : Prop := x ∈ L ∧ ∀ y ∈ L, x.2 < y.2 ∨ (x.2 = y.2 ∧ x.1 ≤ y.1)
theorem Due.first {bm ck : Nat} {rv : Value} {es : Array MapEntry} {R : List En} {w : World} {x : En} (h : Due G bd bm rv es ck R L w) (hx : R[0]? = some x) : First L (kt x) := by
  refine ⟨h.perm.mem_iff.1 (List.mem_map.2 ⟨x, List.mem_of_getElem? hx, rfl⟩), fun y hy => ?_⟩
  obtain ⟨e, he, rfl⟩ := List.mem_map.1 (h.perm.mem_iff.2 hy)
  obtain ⟨j, hj⟩ := List.getElem?_of_mem he
  have := h.heap.first hx j e hj
  rw [lt_no] at this
  unfold kt
  simp only
  omega
theorem c15 (w : World) (h : D G bd L w) : Calls Try.prog 15 #[.pointer (some ⟨bd, 0, none⟩)] w fun e w' => w = w' ∧ ((L = [] ∧ e = .returned (.tuple #[.int .u64 0, .bool false])) ∨ ∃ x, First L x ∧ e = .returned (.tuple #[.int .u64 x.2, .bool true])) := by
  obtain ⟨bm, rv, es, ck, R, h⟩ := h
  obtain ⟨y0, y1, yf⟩ := h.st.head
  have hl : R.length = L.length := by have := h.perm.length_eq; simpa using this
  rcases Nat.eq_zero_or_pos R.length with h0 | hpos
  · obtain ⟨p, c, rfl⟩ := h.st.slice
    have hL : L = [] := List.eq_nil_of_length_eq_zero (by omega)
    rw [h0] at y0
    clear h hl
    go_enter Try.func15, Try.ntmps15
    go_wp2
    go_ret2
    exact ⟨rfl, .inl ⟨hL, rfl⟩⟩
  · obtain ⟨x, hx⟩ : ∃ x, R[0]? = some x := ⟨_, List.getElem?_eq_getElem hpos⟩
    have hf := h.first hx
    obtain ⟨g, cap, cur, rfl, _, hh, _, _, _, hct, _⟩ := h.st.rows hx
    have cx := St.cellR hh hct hx
    have x1 := (h.st.cells hx).2.1
    have HF := Lib.hid hf
    obtain ⟨xb, xk, xt⟩ := x
    simp only at cx x1
    clear h hl hf hct hh hx
    obtain ⟨n, hn⟩ : ∃ n, R.length = n + 1 := ⟨R.length - 1, by omega⟩
    rw [hn] at y0
    clear hpos
    have n0 : ¬ ((n : Int) + 1 = 0) := by omega
    go_enter Try.func15, Try.ntmps15
    go_wp2
    go_ret2
    exact ⟨rfl, .inr ⟨_, HF.out, rfl⟩⟩
end Go.Proofs.DU
