/- Proved: what 'Cut' and 'Set' of a list of dues come to. Each theorem says its own conditions. -/
import Derived.Test.YtccmlmepcgcojaaDl
set_option linter.unusedVariables false
set_option linter.unusedSimpArgs false
namespace Go.Proofs.DU
open Go.RowKit
def cutL (L : List (Int × Int)) (k : Int) : List (Int × Int) := L.filter fun x => !decide (x.1 = k)
def setL (L : List (Int × Int)) (k t : Int) : List (Int × Int) := cutL L k ++ [(k, t)]
theorem cut_none {L : List (Int × Int)} {k : Int} (h : ∀ x ∈ L, x.1 ≠ k) : cutL L k = L := by
  unfold cutL
  rw [List.filter_eq_self]
  intro x hx
  simp [h x hx]
theorem cut_perm {L M : List (Int × Int)} {k t : Int} (h : (M ++ [(k, t)]).Perm L) (hn : (L.map (·.1)).Nodup) : M.Perm (cutL L k) := by
  have hn2 : ((M ++ [(k, t)]).map (·.1)).Nodup := ((h.map (·.1)).nodup_iff).2 hn
  rw [List.map_append, List.nodup_append] at hn2
  have hM : ∀ x ∈ M, x.1 ≠ k := fun x hx e => hn2.2.2 x.1 (List.mem_map.2 ⟨x, hx, rfl⟩) k (by simp) e
  have h1 := h.filter fun x => !decide (x.1 = k)
  rw [List.filter_append] at h1
  have h2 : M.filter (fun x => !decide (x.1 = k)) = M := cut_none hM
  rw [h2] at h1
  simpa [cutL] using h1
theorem cut_nodup {L : List (Int × Int)} {k : Int} (hn : (L.map (·.1)).Nodup) : ((cutL L k).map (·.1)).Nodup := hn.sublist (List.filter_sublist.map _)
theorem set_nodup {L : List (Int × Int)} {k t : Int} (hn : (L.map (·.1)).Nodup) : ((setL L k t).map (·.1)).Nodup := by
  unfold setL
  rw [List.map_append, List.nodup_append]
  refine ⟨cut_nodup hn, by simp, fun a ha b hb => ?_⟩
  obtain ⟨x, hx, rfl⟩ := List.mem_map.1 ha
  unfold cutL at hx
  have := (List.mem_filter.1 hx).2
  simp at hb this
  rw [hb]; exact this
theorem erase_perm {α : Type} : ∀ {l : List α} {j : Nat} {x : α}, l[j]? = some x → l.Perm (x :: l.eraseIdx j)
  | [], j, x, h => by simp at h
  | a :: l, 0, x, h => by simp at h; subst h; exact .refl _
  | a :: l, j + 1, x, h => by
    have h' : l[j]? = some x := by simpa using h
    exact ((erase_perm h').cons a).trans (.swap x a _)
theorem set_perm {α : Type} : ∀ {l : List α} {j : Nat} {x y : α}, l[j]? = some x → (l.set j y).Perm (y :: l.eraseIdx j)
  | [], j, x, y, h => by simp at h
  | a :: l, 0, x, y, h => by exact .refl _
  | a :: l, j + 1, x, y, h => by
    have h' : l[j]? = some x := by simpa using h
    exact ((set_perm (y := y) h').cons a).trans (.swap y a _)
variable {G : Nat → Prop} {bd : Nat} {L : List (Int × Int)}
theorem Mp.cut {es : List MapEntry} {R R' : List En} {e : En} {j : Nat} {x : MapEntry} (h : Mp es R) (hp : (R' ++ [e]).Perm R) (hj : es[j]? = some x) (hk : x.key = .int .u64 e.k) (hv : x.val = ptr e.b) : Mp (es.eraseIdx j) R' := by
  have h1 := ((erase_perm hj).map fun x : MapEntry => (x.key, x.val)).symm.trans (h.trans (hp.symm.map fun e : En => (Value.int .u64 e.k, ptr e.b)))
  rw [List.map_append, List.map_cons, List.map_cons, List.map_nil, hk, hv] at h1
  have h2 := h1.trans (List.perm_append_comm)
  exact List.Perm.cons_inv h2
set_option maxRecDepth 100000 in
set_option maxHeartbeats 1000000 in
theorem c18 (k : Int) (w : World) (h : D G bd L w) (hn : L.length < 3000) : Calls Try.prog 18 #[.pointer (some ⟨bd, 0, none⟩), .int .u64 k] w fun e w' => e = .returned (.bool (L.any fun x => decide (x.1 = k))) ∧ D G bd (cutL L k) w' ∧ Turn G w w' := by
  obtain ⟨bm, rv, es, ck, R, h⟩ := h
  obtain ⟨y0, y1, yf⟩ := h.st.head
  have hlen : R.length = L.length := by have := h.perm.length_eq; simpa using this
  rcases h.look k with ⟨i, e, j, x, h1, h2, h3, h4, h5, h6, h7⟩ | ⟨h1, h2, h3⟩
  · have hany : (L.any fun x => decide (x.1 = k)) = true := List.any_eq_true.2 ⟨_, h7, by simp⟩
    rw [hany]
    have hl := look_in h.map h1
    have e2 := (h.st.cells h5).2.2.1
    have K24 := c24 (w := w.drew) i (h.st.below (Below.refl _ w).drew) h.heap h5 (by omega)
    unfold ifc at K24
    have lm := (Array.getElem?_eq_some_iff.1 h.map).1
    have H := Lib.hid h; have HK24 := Lib.hid K24; have HF := Lib.hid h1
    have HX := Lib.hid h2; have H3 := Lib.hid h3; have H4 := Lib.hid h4; have H6 := Lib.hid h6
    unfold ptr at hl
    clear h h1 h2 h3 h4 h5 h7 K24 hany
    obtain ⟨eb, ek, et⟩ := e
    simp only at hl e2
    go_enter Try.func18, Try.ntmps18
    go_wp2
    go_region_with (go_at_call 24; ((with_reducible refine HK24.out.mono ?_); rintro e w2 ⟨⟨v, rfl⟩, rv2, R2, hst2, hp2, hh2, ht2⟩; have hw2 := hst2.head.2.1; have HS2 := Lib.hid hst2; have HP2 := Lib.hid hp2; have HH2 := Lib.hid hh2; have HT2 := Lib.hid ht2; clear hst2 hp2 hh2 ht2))
    have hm2 : w2.heap[bm]? = some (.map es ck) := (HT2.out.block bm lm (fun h => h.2 rfl)).trans H.out.map
    have hd : ∀ ty, (Builtin.delete_ #[49, 23] ty #[.map (some bm), .int .u64 k]).run Try.prog w2 = .ok (.tuple #[]) (setMap w2 bm (.map (es.eraseIdxIfInBounds j) ck)) := fun ty => del_in hm2 HF.out
    obtain ⟨W3, hW3⟩ : ∃ W3, W3 = setMap w2 bm (.map (es.eraseIdxIfInBounds j) ck) := ⟨_, rfl⟩
    rw [← hW3] at hd
    have HW3 := Lib.hid hW3; have HM2 := Lib.hid hm2
    clear hW3 hm2
    go_wp2
    go_ret
    refine ⟨rfl, ⟨bm, rv2, es.eraseIdxIfInBounds j, ck, R2, H.out.gm, ?_, ?_, ?_, cut_nodup H.out.keys, HH2.out, ?_⟩, ?_⟩
    · rw [HW3.out]; exact HS2.out.kept HM2.out fun b _ hb => setMap_ne _ hb
    · rw [HW3.out]; exact setMap_at _ (Array.getElem?_eq_some_iff.1 HM2.out).1
    · have := H.out.mp.cut HP2.out HX.out (by rw [H3.out, H6.out]) H4.out
      rw [show (es.eraseIdxIfInBounds j).toList = es.toList.eraseIdx j by simp]
      exact this
    · refine cut_perm (t := et) ?_ H.out.keys
      have := (HP2.out.map kt).trans H.out.perm
      rw [List.map_append] at this
      simpa [kt, H6.out] using this
    · rw [HW3.out]
      exact (Turn.of (F := G) (Below.refl _ w).drew).trans ((HT2.out.more (F' := G) fun b h => h.1).trans (setMap_turn _ H.out.gm) fun _ _ h => h) fun _ _ h => h
  · have hany : (L.any fun x => decide (x.1 = k)) = false := by rw [List.any_eq_false]; intro x hx; simp [h3 x hx]
    rw [hany]
    have hl := look_out h.map h1
    have H := Lib.hid h; have H3 := Lib.hid h3
    clear h h1 h2 h3 hany
    go_enter Try.func18, Try.ntmps18
    go_wp2
    go_ret
    exact ⟨rfl, ⟨_, _, _, _, _, by rw [cut_none H3.out]; exact H.out⟩, Turn.refl _ _⟩
end Go.Proofs.DU
