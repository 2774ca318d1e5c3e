/- Proved: the row of entries in memory; its methods through an interface. Each theorem says its own conditions. -/
import Derived.Test.YtccmlmepcgcojaaDc
set_option linter.unusedVariables false
set_option linter.unusedSimpArgs false
namespace Go.Proofs.DU
open Go.RowKit
theorem setCell_at {w : World} {b o : Nat} {c : Array Value} {t : TypeId} {f : Nat × Nat} (v : Value) (h : w.heap[b]? = some (.cells c t f)) : (w.setCell ⟨b, o, none⟩ v).heap[b]? = some (.cells (c.setIfInBounds o v) t f) := by
  show (w.heap.modify b _)[b]? = _
  rw [Array.getElem?_modify, if_pos rfl, h]
  rfl
theorem setCell_ne {w : World} {b o k : Nat} (v : Value) (h : k ≠ b) : (w.setCell ⟨b, o, none⟩ v).heap[k]? = w.heap[k]? := Below.heap_setCell w ⟨b, o, none⟩ v k h
/-- The cells of an entry at a place. -/
def entC (e : En) (i : Nat) : Obj := .cells #[.int .u64 e.k, .int .u64 e.t, .int .i64 (i : Int)] 57 (0, 0)
/-- The row of entries, behind the pointer to the list; blocks of F alone. -/
structure St (F : Nat → Prop) (bd bm : Nat) (rv : Value) (R : List En) (W : World) : Prop where
  hd : W.heap[bd]? = some (.cells #[rv, .map (some bm)] 53 (0, 0))
  row : W.ownsRow 0 54 1 rv R.length (R.map fun e => ptr e.b)
  ent : ∀ (i : Nat) (e : En), R[i]? = some e → W.heap[e.b]? = some (entC e i)
  fd : F bd
  fr : ∀ g, rv.ownBlock = some g → F g
  fe : ∀ e ∈ R, F e.b
variable {F : Nat → Prop} {bd bm : Nat} {rv : Value} {R : List En} {W W' : World}
theorem St.rows (h : St F bd bm rv R W) {i : Nat} {e : En} (he : R[i]? = some e) : ∃ g cap cur, rv = .slice (some ⟨g, 0, none⟩) R.length cap ∧ F g ∧ W.heap[g]? = some (.cells cur 54 (0, 0)) ∧ R.length ≤ cap ∧ cap ≤ maxLen ∧ cur.size = cap ∧ cur.toList.take R.length = R.map (fun e => ptr e.b) ∧ g ≠ bd ∧ ∀ e ∈ R, g ≠ e.b := by
  have hi := (List.getElem?_eq_some_iff.1 he).1
  rcases h.row.2 with ⟨_, h0⟩ | ⟨g, cap, cur, hv, _, hh, h1, h2, h3, h4⟩
  · omega
  · refine ⟨g, cap, cur, hv, h.fr g (by rw [hv]; rfl), hh, h1, h2, by simpa using h3, by simpa using h4, fun e => ?_, fun x hx e => ?_⟩
    · subst e
      have := h.hd
      rw [hh] at this
      simp at this
    · obtain ⟨j, hj⟩ := List.getElem?_of_mem hx
      have := h.ent j x hj
      rw [← e, hh] at this
      simp [entC] at this
theorem St.cellR {g : Nat} {cur : Array Value} (hh : W.heap[g]? = some (.cells cur 54 (0, 0))) (ht : cur.toList.take R.length = R.map (fun e => ptr e.b)) {i : Nat} {e : En} (he : R[i]? = some e) : W.cell? ⟨g, i, none⟩ = some (.pointer (some ⟨e.b, 0, none⟩)) := by
  rw [cell_of_heap hh, ← Array.getElem?_toList]
  have hi := (List.getElem?_eq_some_iff.1 he).1
  have : (cur.toList.take R.length)[i]? = some (ptr e.b) := by rw [ht, List.getElem?_map, he]; rfl
  rw [List.getElem?_take, if_pos hi] at this
  exact this
/-- Two entries at two places lie in two blocks. -/
theorem St.apart (h : St F bd bm rv R W) {i j : Nat} {a b : En} (ha : R[i]? = some a) (hb : R[j]? = some b) (hij : i ≠ j) : a.b ≠ b.b := fun e => by
  have h1 := h.ent i a ha
  have h2 := h.ent j b hb
  rw [e, h2] at h1
  simp [entC] at h1
  omega
theorem St.ne (h : St F bd bm rv R W) {i : Nat} {a : En} (ha : R[i]? = some a) : a.b ≠ bd := fun e => by
  have h1 := h.ent i a ha
  rw [e, h.hd] at h1
  simp [entC] at h1
theorem St.cells (h : St F bd bm rv R W) {i : Nat} {a : En} (ha : R[i]? = some a) : W.cell? ⟨a.b, 0, none⟩ = some (.int .u64 a.k) ∧ W.cell? ⟨a.b, 1, none⟩ = some (.int .u64 a.t) ∧ W.cell? ⟨a.b, 2, none⟩ = some (.int .i64 i) ∧ ∀ o, W.frozen? ⟨a.b, o, none⟩ = false := by
  have h1 := h.ent i a ha
  unfold entC at h1
  exact ⟨by rw [cell_of_heap h1]; rfl, by rw [cell_of_heap h1]; rfl, by rw [cell_of_heap h1]; rfl, fun o => frozen_of_heap h1 o⟩
theorem St.head (h : St F bd bm rv R W) : W.cell? ⟨bd, 0, none⟩ = some rv ∧ W.cell? ⟨bd, 1, none⟩ = some (.map (some bm)) ∧ ∀ o, W.frozen? ⟨bd, o, none⟩ = false :=
  ⟨by rw [cell_of_heap h.hd]; rfl, by rw [cell_of_heap h.hd]; rfl, fun o => frozen_of_heap h.hd o⟩
theorem St.below (h : St F bd bm rv R W) (hB : Below W.heap.size W W') : St F bd bm rv R W' where
  hd := (hB.block bd (Array.getElem?_eq_some_iff.1 h.hd).1).trans h.hd
  row := by
    refine ⟨h.row.1, ?_⟩
    rcases h.row.2 with h' | ⟨g, cap, cur, hv, h1, h2, h3⟩
    · exact .inl h'
    · exact .inr ⟨g, cap, cur, hv, h1, (hB.block g (Array.getElem?_eq_some_iff.1 h2).1).trans h2, h3⟩
  ent := fun i e he => (hB.block e.b (Array.getElem?_eq_some_iff.1 (h.ent i e he)).1).trans (h.ent i e he)
  fd := h.fd
  fr := h.fr
  fe := h.fe
theorem getElem?_set2 {α : Type} {l : List α} {i j : Nat} {x y : α} (hi : i < l.length) (hj : j < l.length) (m : Nat) : ((l.set i x).set j y)[m]? = if m = j then some y else if m = i then some x else l[m]? := by
  by_cases hm : m = j
  · subst hm; rw [if_pos rfl, List.getElem?_set_self (by simpa using hj)]
  · rw [if_neg hm, List.getElem?_set_ne (fun e => hm e.symm)]
    by_cases hn : m = i
    · subst hn; rw [if_pos rfl, List.getElem?_set_self hi]
    · rw [if_neg hn, List.getElem?_set_ne (fun e => hn e.symm)]
/-- Two entries change places. -/
theorem St.swap (h : St F bd bm rv R W) {i j g cap : Nat} {cur : Array Value} {a b : En} (ha : R[i]? = some a) (hb : R[j]? = some b) (hij : i ≠ j) (hv : rv = .slice (some ⟨g, 0, none⟩) R.length cap) (hh : W.heap[g]? = some (.cells cur 54 (0, 0))) (hgd : g ≠ bd) (hge : ∀ e ∈ R, g ≠ e.b)
    (hfin : ((((W.setCell ⟨g, i, none⟩ (.pointer (some ⟨b.b, 0, none⟩))).setCell ⟨g, j, none⟩ (.pointer (some ⟨a.b, 0, none⟩))).drew.setCell ⟨b.b, 2, none⟩ (.int .i64 i)).setCell ⟨a.b, 2, none⟩ (.int .i64 j)).drew = W') :
    St F bd bm rv (swp R i j) W' ∧ Turn F W W' ∧ W'.heap.size = W.heap.size := by
  have hga : g ≠ a.b := hge a (List.mem_of_getElem? ha)
  have hgb : g ≠ b.b := hge b (List.mem_of_getElem? hb)
  have hab := h.apart ha hb hij
  have hi := (List.getElem?_eq_some_iff.1 ha).1
  have hj := (List.getElem?_eq_some_iff.1 hb).1
  have hFg : F g := h.fr g (by rw [hv]; rfl)
  have hFa := h.fe a (List.mem_of_getElem? ha)
  have hFb := h.fe b (List.mem_of_getElem? hb)
  have other : ∀ k, k ≠ g → k ≠ a.b → k ≠ b.b → W'.heap[k]? = W.heap[k]? := fun k h1 h2 h3 => by
    rw [← hfin]
    show (World.setCell _ _ _).heap[k]? = _
    rw [setCell_ne _ h2, setCell_ne _ h3]
    show ((W.setCell _ _).setCell _ _).heap[k]? = _
    rw [setCell_ne _ h1, setCell_ne _ h1]
  have rowc : W'.heap[g]? = some (.cells ((cur.setIfInBounds i (ptr b.b)).setIfInBounds j (ptr a.b)) 54 (0, 0)) := by
    rw [← hfin]
    show (World.setCell _ _ _).heap[g]? = _
    rw [setCell_ne _ hga, setCell_ne _ hgb]
    exact setCell_at _ (setCell_at _ hh)
  have ca : W'.heap[a.b]? = some (entC a j) := by
    rw [← hfin]
    show (World.setCell _ _ _).heap[a.b]? = _
    have h1 : ((((W.setCell ⟨g, i, none⟩ (.pointer (some ⟨b.b, 0, none⟩))).setCell ⟨g, j, none⟩ (.pointer (some ⟨a.b, 0, none⟩))).drew.setCell ⟨b.b, 2, none⟩ (.int .i64 i))).heap[a.b]? = some (entC a i) := by
      rw [setCell_ne _ hab]
      show ((W.setCell _ _).setCell _ _).heap[a.b]? = _
      rw [setCell_ne _ (fun e => hga e.symm), setCell_ne _ (fun e => hga e.symm)]
      exact h.ent i a ha
    exact setCell_at _ h1
  have cb : W'.heap[b.b]? = some (entC b i) := by
    rw [← hfin]
    show (World.setCell _ _ _).heap[b.b]? = _
    rw [setCell_ne _ (fun e => hab e.symm)]
    have h1 : ((W.setCell ⟨g, i, none⟩ (.pointer (some ⟨b.b, 0, none⟩))).setCell ⟨g, j, none⟩ (.pointer (some ⟨a.b, 0, none⟩))).drew.heap[b.b]? = some (entC b j) := by
      show ((W.setCell _ _).setCell _ _).heap[b.b]? = _
      rw [setCell_ne _ (fun e => hgb e.symm), setCell_ne _ (fun e => hgb e.symm)]
      exact h.ent j b hb
    exact setCell_at _ h1
  have hsz : W'.heap.size = W.heap.size := by
    rw [← hfin]
    show (World.setCell _ _ _).heap.size = _
    rw [World.size_setCell, World.size_setCell]
    show ((W.setCell _ _).setCell _ _).heap.size = _
    rw [World.size_setCell, World.size_setCell]
  have hpm := swp_perm ha hb
  refine ⟨⟨?_, ?_, ?_, h.fd, h.fr, fun e he => h.fe e (hpm.mem_iff.1 he)⟩, ⟨?_, ?_, ?_, by omega, fun k hk hn => other k (fun e => hn (e ▸ hFg)) (fun e => hn (e ▸ hFa)) (fun e => hn (e ▸ hFb))⟩, hsz⟩
  · rw [other bd (fun e => hgd e.symm) (fun e => h.ne ha e.symm) (fun e => h.ne hb e.symm)]; exact h.hd
  · rcases h.row.2 with ⟨h0, _⟩ | ⟨g', cap', cur', hv', h0, hh', h1, h2, h3, h4⟩
    · rw [hv] at h0; cases h0
    · have e : g' = g ∧ cap' = cap := by rw [hv] at hv'; cases hv'; exact ⟨rfl, rfl⟩
      obtain ⟨rfl, rfl⟩ := e
      rw [hh] at hh'
      cases hh'
      refine ⟨by simp, .inr ⟨g', cap', _, by rw [swp_len]; exact hv, Nat.zero_le _, rowc, by rw [swp_len]; exact h1, h2, by simpa using h3, ?_⟩⟩
      rw [swp_len]
      have h3' : cur.size = cap' := by simpa using h3
      have h4' : cur.toList.take R.length = R.map (fun e => ptr e.b) := by simpa using h4
      apply List.ext_getElem?
      intro m
      rw [List.getElem?_map, swp_at ha hb, Nat.mul_one, List.getElem?_take]
      simp only [Array.toList_setIfInBounds]
      rw [getElem?_set2 (by simp; omega) (by simp; omega)]
      by_cases hm : m < R.length
      · rw [if_pos hm]
        by_cases e1 : m = j
        · rw [if_pos e1, if_pos e1]; rfl
        · rw [if_neg e1, if_neg e1]
          by_cases e2 : m = i
          · rw [if_pos e2, if_pos e2]; rfl
          · rw [if_neg e2, if_neg e2]
            have := congrArg (fun l => l[m]?) h4'
            simp only [List.getElem?_take, if_pos hm, List.getElem?_map] at this
            exact this
      · rw [if_neg hm, if_neg (by omega), if_neg (by omega), List.getElem?_eq_none (by omega)]; rfl
  · intro m e he
    rw [swp_at ha hb] at he
    by_cases e1 : m = j
    · rw [if_pos e1] at he; cases he; rw [e1]; exact ca
    · rw [if_neg e1] at he
      by_cases e2 : m = i
      · rw [if_pos e2] at he; cases he; rw [e2]; exact cb
      · rw [if_neg e2] at he
        rw [other e.b (fun x => hge e (List.mem_of_getElem? he) x.symm) (h.apart he ha e2) (h.apart he hb e1)]
        exact h.ent m e he
  · rw [← hfin]; rfl
  · rw [← hfin]; rfl
  · rw [← hfin]; rfl
end Go.Proofs.DU
