/- Proved: what becomes of the program's files, when one is turned, goes or comes. Each theorem says its own conditions. -/
import Derived.Test.YteleocgomdhcfaaKx
set_option linter.unusedVariables false
set_option linter.unusedSimpArgs false
namespace Go.Proofs.DK
open Go.RowKit
variable {G : Nat → Prop} {bd bm : Nat} {es es' : Array MapEntry} {ck ck' : Nat} {R R' : List En} {S : Ds} {W W' w : World} {e e' : En}
theorem erase_perm {α : Type} : ∀ {l : List α} {j : Nat} {x : α}, l[j]? = some x → l.Perm (x :: l.eraseIdx j)
  | [], j, x, h => by simp at h
  | a :: l, 0, x, h => by simp at h; subst h; exact .refl _
  | a :: l, j + 1, x, h => by
    have h' : l[j]? = some x := by simpa using h
    exact ((erase_perm h').cons a).trans (.swap x a _)
theorem set_perm {α : Type} : ∀ {l : List α} {j : Nat} {x y : α}, l[j]? = some x → (l.set j y).Perm (y :: l.eraseIdx j)
  | [], j, x, y, h => by simp at h
  | a :: l, 0, x, y, h => by exact .refl _
  | a :: l, j + 1, x, y, h => by
    have h' : l[j]? = some x := by simpa using h
    exact ((set_perm (y := y) h').cons a).trans (.swap y a _)
def kv (e : En) : Value × Value := (.string (bs e.f.n), ptr e.b)
def kx (x : MapEntry) : Value × Value := (x.key, x.val)
/-- What holds of files' blocks. -/
structure Ents (G : Nat → Prop) (R : List En) (W : World) : Prop where
  ent : ∀ e ∈ R, G e.b ∧ W.heap[e.b]? = some (.cells #[e.v, .int .i64 e.f.s] 73 (0, 0)) ∧ BR W e.v e.f.b ∧ ∀ g, rb e.v = some g → G g
  apart : R.Pairwise fun x y => x.b ≠ y.b ∧ ∀ g, rb x.v = some g → rb y.v ≠ some g
theorem Dk.ents (h : Dk G bd bm es ck R S W) : Ents G R W := ⟨h.ent, h.apart⟩
theorem Ents.tail (h : Ents G (e :: R) W) : Ents G R W := ⟨fun x hx => h.ent x (List.mem_cons_of_mem _ hx), (List.pairwise_cons.1 h.apart).2⟩
theorem Ents.more {G' : Nat → Prop} (h : Ents G R W) (hG : ∀ b, G b → G' b) : Ents G' R W := ⟨fun x hx => let ⟨h1, h2, h3, h4⟩ := h.ent x hx; ⟨hG _ h1, h2, h3, fun g hg => hG _ (h4 g hg)⟩, h.apart⟩
/-- Blocks that hold neither a file nor bytes may turn. -/
theorem Ents.keep (h : Ents G R W) (hk : ∀ b, b < W.heap.size → (∀ o, W.heap[b]? = some o → (∃ c, o = .cells c 73 (0, 0)) ∨ ∃ c, o = .cells c 5 (0, 0)) → W'.heap[b]? = W.heap[b]?) : Ents G R W' := by
  refine ⟨fun x hx => ?_, h.apart⟩
  obtain ⟨h1, h2, h3, h4⟩ := h.ent x hx
  refine ⟨h1, (hk _ (Array.getElem?_eq_some_iff.1 h2).1 fun o ho => ?_).trans h2, h3.keep fun g hg hl => hk g hl fun o ho => ?_, h4⟩
  · rw [h2] at ho; cases ho; exact .inl ⟨_, rfl⟩
  · obtain ⟨c, hc⟩ := h3.lt g hg
    rw [hc] at ho; cases ho; exact .inr ⟨_, rfl⟩
theorem Ents.setMap (h : Ents G R W) (hm : W.heap[bm]? = some (.map es ck)) (o : Obj) : Ents G R (setMap W bm o) := h.keep fun b _ hb => setMap_ne _ fun e => by
  subst e
  rcases hb _ hm with ⟨c, h⟩ | ⟨c, h⟩ <;> cases h
/-- The first file is turned. -/
theorem Ents.file (h : Ents G (e :: R) W) (hb : e'.b = e.b) (hz : W.heap.size ≤ W'.heap.size) (hc : W'.heap[e.b]? = some (.cells #[e'.v, .int .i64 e'.f.s] 73 (0, 0))) (hv : BR W' e'.v e'.f.b) (hr : ∀ g, rb e'.v = some g → rb e.v = some g ∨ W.heap.size ≤ g)
    (hk : ∀ b, b < W.heap.size → b ≠ e.b → rb e.v ≠ some b → W'.heap[b]? = W.heap[b]?) : Ents (fun b => G b ∨ W.heap.size ≤ b) (e' :: R) W' := by
  obtain ⟨ha, ht⟩ := List.pairwise_cons.1 h.apart
  obtain ⟨h1, h2, h3, h4⟩ := h.ent e List.mem_cons_self
  have hlt : ∀ x ∈ R, ∀ g, rb x.v = some g → g < W.heap.size := fun x hx g hg => by
    obtain ⟨cur, hcur⟩ := (h.ent x (List.mem_cons_of_mem _ hx)).2.2.1.lt g hg
    exact (Array.getElem?_eq_some_iff.1 hcur).1
  refine ⟨fun x hx => ?_, List.pairwise_cons.2 ⟨fun x hx => ⟨by rw [hb]; exact (ha x hx).1, fun g hg hg2 => ?_⟩, ht⟩⟩
  · rcases List.mem_cons.1 hx with rfl | hx
    · refine ⟨.inl (by rw [hb]; exact h1), by rw [hb]; exact hc, hv, fun g hg => ?_⟩
      rcases hr g hg with h5 | h5
      · exact .inl (h4 g h5)
      · exact .inr h5
    · obtain ⟨k1, k2, k3, k4⟩ := h.ent x (List.mem_cons_of_mem _ hx)
      refine ⟨.inl k1, (hk _ (Array.getElem?_eq_some_iff.1 k2).1 (fun e => (ha x hx).1 e.symm) fun hg => ?_).trans k2, k3.keep fun g hg hl => hk g hl (fun e => ?_) (fun hg2 => (ha x hx).2 g hg2 hg), fun g hg => .inl (k4 g hg)⟩
      · obtain ⟨cur, hcur⟩ := h3.lt _ hg
        rw [k2] at hcur; cases hcur
      · obtain ⟨cur, hcur⟩ := k3.lt g hg
        rw [e, h2] at hcur; cases hcur
  · rcases hr g hg with h5 | h5
    · exact (ha x hx).2 g h5 hg2
    · have := hlt x hx g hg2; omega
theorem Dk.file {f' : Fl} {v' : Value} (h : Dk G bd bm es ck (e :: R) S W) (hn : f'.n = e.f.n) (hz : W.heap.size ≤ W'.heap.size) (hc : W'.heap[e.b]? = some (.cells #[v', .int .i64 f'.s] 73 (0, 0))) (hv : BR W' v' f'.b) (hr : ∀ g, rb v' = some g → rb e.v = some g ∨ W.heap.size ≤ g)
    (hk : ∀ b, b < W.heap.size → b ≠ e.b → rb e.v ≠ some b → W'.heap[b]? = W.heap[b]?) : Dk (fun b => G b ∨ W.heap.size ≤ b) bd bm es ck (⟨f', e.b, v'⟩ :: R) { S with fs := wiF S.fs f' } W' := by
  have hE := h.ents.file (e' := ⟨f', e.b, v'⟩) rfl hz hc hv hr hk
  obtain ⟨h1, h2, h3, h4⟩ := h.ent e List.mem_cons_self
  have hne : ∀ {b : Nat} {o : Obj}, W.heap[b]? = some o → (∀ c, o ≠ .cells c 73 (0, 0)) → (∀ c, o ≠ .cells c 5 (0, 0)) → W'.heap[b]? = some o := fun {b o} hb ho ho2 => (hk b (Array.getElem?_eq_some_iff.1 hb).1 (fun e => by subst e; rw [h2] at hb; cases hb; exact ho _ rfl) (fun hg => by obtain ⟨cur, hcur⟩ := h3.lt _ hg; rw [hcur] at hb; cases hb; exact ho2 _ rfl)).trans hb
  refine ⟨.inl h.gd, .inl h.gm, hne h.hd (fun c e => by cases e) (fun c e => by cases e), hne h.map (fun c e => by cases e) (fun c e => by cases e), ?_, ?_, h.srt.wi f', hE.ent, hE.apart, h.st⟩
  · have := h.mp
    rw [List.map_cons] at this ⊢
    rw [show (bs (⟨f', e.b, v'⟩ : En).f.n) = bs e.f.n by rw [← hn]]
    exact this
  · rw [List.map_cons]
    have := wo_rest h.perm h.srt
    rw [← hn] at this
    exact (this.cons f').trans (wi_perm S.fs f').symm
/-- The first file goes. -/
theorem Dk.del {j : Nat} {x : MapEntry} (h : Dk G bd bm es ck (e :: R) S W) (hj : es.toList[j]? = some x) (hk : x.key = .string (bs e.f.n)) (hv : x.val = ptr e.b) : Dk G bd bm (es.eraseIdxIfInBounds j) ck R { S with fs := woF S.fs e.f.n } (DK.setMap W bm (.map (es.eraseIdxIfInBounds j) ck)) := by
  have hE := (h.ents.tail).setMap h.map (.map (es.eraseIdxIfInBounds j) ck)
  have hne : bd ≠ bm := fun e => by have h1 := h.hd; rw [e, h.map] at h1; cases h1
  refine ⟨h.gd, h.gm, (setMap_ne _ hne).trans h.hd, setMap_at _ (Array.getElem?_eq_some_iff.1 h.map).1, ?_, wo_rest h.perm h.srt, h.srt.wo _, hE.ent, hE.apart, MapKept.stamped_erase h.st j⟩
  have h1 := erase_perm hj
  have h2 := (h1.map fun x => (x.key, x.val)).symm.trans h.mp
  rw [List.map_cons, List.map_cons, hk, hv] at h2
  rw [show (es.eraseIdxIfInBounds j).toList = es.toList.eraseIdx j by simp]
  exact List.Perm.cons_inv h2
end Go.Proofs.DK
