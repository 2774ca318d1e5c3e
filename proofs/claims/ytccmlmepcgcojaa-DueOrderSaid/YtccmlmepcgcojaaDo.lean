/- Proved: what 'New' and 'Take' of a list of dues come to. Each theorem says its own conditions. -/
import Derived.Test.YtccmlmepcgcojaaDn
set_option linter.unusedVariables false
set_option linter.unusedSimpArgs false
namespace Go.Proofs.DU
open Go.RowKit
variable {G : Nat → Prop} {bd : Nat} {L : List (Int × Int)} {w W W' : World}
theorem D.trim (h : D G bd L W) : D (fun b => G b ∧ b < W.heap.size) bd L W := by
  obtain ⟨bm, rv, es, ck, R, h⟩ := h
  refine ⟨bm, rv, es, ck, R, ⟨h.gm, (Array.getElem?_eq_some_iff.1 h.map).1⟩, ⟨h.st.hd, h.st.row, h.st.ent, ⟨⟨h.st.fd.1, (Array.getElem?_eq_some_iff.1 h.st.hd).1⟩, h.st.fd.2⟩, fun g hg => ⟨⟨(h.st.fr g hg).1, (World.ownsRow.lt h.st.row g hg).2⟩, (h.st.fr g hg).2⟩, fun e he => ?_⟩, h.map, h.mp, h.keys, h.heap, h.perm⟩
  obtain ⟨i, hi⟩ := List.getElem?_of_mem he
  exact ⟨⟨(h.st.fe e he).1, (Array.getElem?_eq_some_iff.1 (h.st.ent i e hi)).1⟩, (h.st.fe e he).2⟩
theorem D.below (h : D G bd L W) (hB : Below W.heap.size W W') : D G bd L W' := by
  obtain ⟨bm, rv, es, ck, R, h⟩ := h
  exact ⟨bm, rv, es, ck, R, h.gm, h.st.below hB, (hB.block bm (Array.getElem?_eq_some_iff.1 h.map).1).trans h.map, h.mp, h.keys, h.heap, h.perm⟩
theorem D.nodup (h : D G bd L W) : (L.map (·.1)).Nodup := let ⟨_, _, _, _, _, h⟩ := h; h.keys
/-- A list of its own. -/
theorem c7 (w : World) : Calls Try.prog 7 #[] w fun e w' => ∃ bd, e = .returned (.pointer (some ⟨bd, 0, none⟩)) ∧ D (fun b => w.heap.size ≤ b ∧ b < w'.heap.size) bd [] w' ∧ Below w.heap.size w w' := by
  have hmm := @run_makeMap Try.prog
  go_enter Try.func7, Try.ntmps7
  go_wp2
  go_ret
  have hw : (w.alloc (.map #[] 0)).heap.size = w.heap.size + 1 := by simp
  have hsz : ((w.alloc (.map #[] 0)).alloc (.cells #[.slice none 0 0, .map (some w.heap.size)] 53)).heap.size = w.heap.size + 2 := by simp
  have hh := heap_alloc_new (w.alloc (.map #[] 0)) (.cells #[.slice none 0 0, .map (some w.heap.size)] 53)
  rw [hw] at hh
  have hm : ((w.alloc (.map #[] 0)).alloc (.cells #[.slice none 0 0, .map (some w.heap.size)] 53)).heap[w.heap.size]? = some (.map #[] 0) := by
    rw [Below.heap_alloc _ _ _ (by simp)]
    exact heap_alloc_new w _
  refine ⟨w.heap.size + 1, rfl, ⟨w.heap.size, .slice none 0 0, #[], 0, [], ?_⟩, ((Below.refl _ w).alloc (Nat.le_refl _) _).alloc (by simp) _⟩
  have hst : St (fun b => (w.heap.size ≤ b ∧ b < ((w.alloc (.map #[] 0)).alloc (.cells #[.slice none 0 0, .map (some w.heap.size)] 53)).heap.size) ∧ b ≠ w.heap.size) (w.heap.size + 1) w.heap.size (.slice none 0 0) [] ((w.alloc (.map #[] 0)).alloc (.cells #[.slice none 0 0, .map (some w.heap.size)] 53)) := by
    refine ⟨hh, World.ownsRow_nil _ _ _ _, (fun i e he => by cases he), ⟨⟨by omega, by omega⟩, by omega⟩, (fun g hg => by cases hg), (fun e he => by cases he)⟩
  exact ⟨⟨Nat.le_refl _, by omega⟩, hst, hm, .refl _, by simp, (fun m h1 h2 => by simp at h2), .refl _⟩
end Go.Proofs.DU
