/- Proved: how the files wake one behind the other. Each theorem says its own conditions. -/
import Derived.Test.YteleocgomdhcfaaLh
set_option linter.unusedVariables false
set_option linter.unusedSimpArgs false
namespace Go.Proofs.DK
open Go.RowKit
variable {G : Nat → Prop} {bd bm : Nat} {es : Array MapEntry} {ck : Nat} {R : List En} {S : Ds} {w W W' : World}
/-- The files of which the first k are awake. -/
def mid (keep : List Int) (fs : List Fl) (k : Nat) : List Fl := wakes keep 0 (fs.take k) ++ fs.drop k
theorem mid_zero (keep : List Int) (fs : List Fl) : mid keep fs 0 = fs := by simp [mid, wakes]
theorem mid_all (keep : List Int) (fs : List Fl) : mid keep fs fs.length = wakes keep 0 fs := by simp [mid]
theorem mid_names (keep : List Int) (fs : List Fl) (k : Nat) : (mid keep fs k).map (·.n) = fs.map (·.n) := by
  unfold mid
  rw [List.map_append, wakes_names, ← List.map_append, List.take_append_drop]
theorem mid_srt {keep : List Int} {fs : List Fl} {k : Nat} (h : Srt fs) : Srt (mid keep fs k) := srt_names h (mid_names keep fs k)
theorem mid_at {keep : List Int} {fs : List Fl} {k : Nat} {f : Fl} (hf : fs[k]? = some f) : mid keep fs k = wakes keep 0 (fs.take k) ++ f :: fs.drop (k + 1) := by
  unfold mid
  rw [drop_get hf]
theorem mid_succ {keep : List Int} {fs : List Fl} {k : Nat} {f : Fl} (hs : Srt fs) (hf : fs[k]? = some f) : wiF (mid keep fs k) ⟨f.n, f.b.take (f.s + moreOf keep k f), f.s + moreOf keep k f⟩ = mid keep fs (k + 1) := by
  have hk : k < fs.length := (List.getElem?_eq_some_iff.1 hf).1
  have h1 : mid keep fs (k + 1) = wakes keep 0 (fs.take k) ++ ⟨f.n, f.b.take (f.s + moreOf keep k f), f.s + moreOf keep k f⟩ :: fs.drop (k + 1) := by
    unfold mid
    rw [take_succ hf, wakes_snoc, List.length_take, Nat.min_eq_left (Nat.le_of_lt hk), Nat.zero_add, keep_more, List.append_assoc]
    rfl
  refine ((mid_srt hs).wi _).eq_of_perm (mid_srt hs) ?_
  refine (wi_perm _ _).trans ?_
  rw [h1]
  refine List.Perm.trans (List.Perm.cons _ ?_) List.perm_middle.symm
  have h2 := mid_at (keep := keep) hf
  have h3 : Srt (mid keep fs k) := mid_srt hs
  rw [h2] at h3 ⊢
  unfold Srt at h3
  rw [List.pairwise_append, List.pairwise_cons] at h3
  unfold woF
  rw [List.filter_append, List.filter_cons, if_neg (by simp)]
  refine List.Perm.of_eq ?_
  congr 1
  · rw [List.filter_eq_self]
    intro x hx
    have := h3.2.2 x hx f List.mem_cons_self
    have hne : x.n ≠ f.n := fun e => by rw [e] at this; exact List.lt_irrefl _ this
    simp [hne]
  · rw [List.filter_eq_self]
    intro x hx
    have := h3.2.1.1 x hx
    have hne : x.n ≠ f.n := fun e => by rw [e] at this; exact List.lt_irrefl _ this
    simp [hne]
theorem D.trim (h : D G bd S W) : D (fun b => G b ∧ b < W.heap.size) bd S W := by
  obtain ⟨bm, es, ck, R, h⟩ := h
  have lt : ∀ {b : Nat} {o : Obj}, W.heap[b]? = some o → b < W.heap.size := fun h => (Array.getElem?_eq_some_iff.1 h).1
  refine ⟨bm, es, ck, R, ⟨h.gd, lt h.hd⟩, ⟨h.gm, lt h.map⟩, h.hd, h.map, h.mp, h.perm, h.srt, fun e he => ?_, h.apart, h.st⟩
  obtain ⟨h1, h2, h3, h4⟩ := h.ent e he
  refine ⟨⟨h1, lt h2⟩, h2, h3, fun g hg => ⟨h4 g hg, ?_⟩⟩
  obtain ⟨c, hc⟩ := h3.lt g hg
  exact lt hc
theorem D.more {G' : Nat → Prop} (h : D G bd S W) (hG : ∀ b, G b → G' b) : D G' bd S W := by
  obtain ⟨bm, es, ck, R, h⟩ := h
  exact ⟨bm, es, ck, R, h.more hG⟩
theorem more_max {keep : List Int} {k : Nat} {f : Fl} {x : Int} (hf : f.s ≤ f.b.length) (hx : keep[k]? = some x) : (max x 0).tmod ((f.b.length : Int) - f.s + 1) = moreOf keep k f := by
  unfold moreOf
  have h1 : keep.getD k 0 = x := by simp [List.getD, hx]
  rw [h1, Int.tmod_eq_emod_of_nonneg (by omega), Int.toNat_of_nonneg (Int.emod_nonneg _ (by omega))]
end Go.Proofs.DK
