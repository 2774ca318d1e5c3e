/- Proved: what 'Set' of a list of dues comes to. Each theorem says its own conditions. -/
import Derived.Test.YtccmlmepcgcojaaDm
set_option linter.unusedVariables false
set_option linter.unusedSimpArgs false
namespace Go.Proofs.DU
open Go.RowKit
variable {G : Nat → Prop} {bd : Nat} {L : List (Int × Int)}
/-- An entry's time is turned. -/
theorem St.time {F : Nat → Prop} {bm i : Nat} {rv : Value} {R : List En} {W : World} {e : En} (t : Int) (h : St F bd bm rv R W) (he : R[i]? = some e) : St F bd bm rv (R.set i ⟨e.b, e.k, t⟩) (W.setCell ⟨e.b, 1, none⟩ (.int .u64 t)) := by
  have hent := h.ent i e he
  have hi := (List.getElem?_eq_some_iff.1 he).1
  have hmap : (R.set i ⟨e.b, e.k, t⟩).map (fun e => ptr e.b) = R.map fun e => ptr e.b := by
    apply List.ext_getElem?
    intro m
    rw [List.getElem?_map, List.getElem?_map]
    by_cases hm : m = i
    · subst hm; rw [List.getElem?_set_self hi, he]; rfl
    · rw [List.getElem?_set_ne (fun x => hm x.symm)]
  refine ⟨by rw [setCell_ne _ (fun x => h.ne he x.symm)]; exact h.hd, ?_, fun m x hx => ?_, h.fd, h.fr, fun x hx => ?_⟩
  · rw [List.length_set, hmap]
    exact setCell_own h.row _ (own_ne h.row hent (by decide))
  · by_cases hm : m = i
    · subst hm
      rw [List.getElem?_set_self hi] at hx
      cases hx
      exact setCell_at _ hent
    · rw [List.getElem?_set_ne (fun x => hm x.symm)] at hx
      rw [setCell_ne _ (h.apart hx he hm)]
      exact h.ent m x hx
  · rcases List.mem_or_eq_of_mem_set hx with hx | hx
    · exact h.fe x hx
    · rw [hx]; exact h.fe e (List.mem_of_getElem? he)
def SetOut (G : Nat → Prop) (bd : Nat) (L : List (Int × Int)) (w : World) (e : Ending) (w' : World) : Prop := e = .returned (.tuple #[]) ∧ ∃ G' : Nat → Prop, (∀ b, G' b → G b ∨ w.heap.size ≤ b) ∧ D G' bd L w' ∧ Turn G w w'
set_option maxRecDepth 100000 in
set_option maxHeartbeats 1000000 in
theorem c9 (k t : Int) (w : World) (h : D G bd L w) (hn : L.length < 2000) : Calls Try.prog 9 #[.pointer (some ⟨bd, 0, none⟩), .int .u64 k, .int .u64 t] w (SetOut G bd (setL L k t) w) := by
  obtain ⟨bm, rv, es, ck, R, h⟩ := h
  obtain ⟨y0, y1, yf⟩ := h.st.head
  have hlen : R.length = L.length := by have := h.perm.length_eq; simpa using this
  have lm := (Array.getElem?_eq_some_iff.1 h.map).1
  rcases h.look k with ⟨i, e, j, x, h1, h2, h3, h4, h5, h6, h7⟩ | ⟨h1, h2, h3⟩
  · have hl := look_in h.map h1
    obtain ⟨e0, e1, e2, ef⟩ := h.st.cells h5
    have ef1 := ef 1
    have st1 := h.st.time t h5
    have hi := (List.getElem?_eq_some_iff.1 h5).1
    have K19 := c19 (w := (w.setCell ⟨e.b, 1, none⟩ (.int .u64 t)).drew) i (st1.below ((Below.refl _ _).drew)) (by rw [List.length_set]; exact (h.heap.hole hi (Nat.le_refl _)).set _) (by rw [List.length_set]; exact hi) (by rw [List.length_set]; omega)
    unfold ifc at K19
    have e22 : (w.setCell ⟨e.b, 1, none⟩ (.int .u64 t)).cell? ⟨e.b, 2, none⟩ = some (.int .i64 i) := by
      rw [World.cell?_setCell_other (h := fun e => by cases e)]; exact e2
    have H := Lib.hid h; have HK := Lib.hid K19
    have HF := Lib.hid h5; have H6 := Lib.hid h6
    unfold ptr at hl
    clear h h1 h2 h3 h4 h5 h7 K19 ef st1 h6
    obtain ⟨eb, ek, et⟩ := e
    simp only at hl e1 e2 e22 ef1
    go_enter Try.func9, Try.ntmps9
    go_wp2
    go_region_with (go_at_call 19; ((with_reducible refine HK.out.mono ?_); rintro e w2 ⟨rfl, R2, hst2, hp2, hh2, ht2⟩; have HS2 := Lib.hid hst2; have HP2 := Lib.hid hp2; have HH2 := Lib.hid hh2; have HT2 := Lib.hid ht2; clear hst2 hp2 hh2 ht2))
    go_wp2
    refine bodyPost_ret (results_none rfl _ _ _) rfl ?_
    have hb : bm ≠ eb := fun e => by
      have h1 := H.out.st.ent i _ HF.out
      have h2 := H.out.map
      rw [e] at h2
      rw [show (⟨eb, ek, et⟩ : En).b = eb from rfl, h2] at h1
      cases h1
    have hg : (R.set i ⟨eb, ek, t⟩).map (fun e => (Value.int .u64 e.k, ptr e.b)) = R.map fun e => (Value.int .u64 e.k, ptr e.b) := by
      apply List.ext_getElem?
      intro m
      rw [List.getElem?_map, List.getElem?_map]
      by_cases hm : m = i
      · subst hm; rw [List.getElem?_set_self hi, HF.out]; rfl
      · rw [List.getElem?_set_ne (fun x => hm x.symm)]
    refine ⟨rfl, G, fun b h => .inl h, ⟨bm, rv, es, ck, R2, H.out.gm, HS2.out, ?_, ?_, set_nodup H.out.keys, HH2.out, ?_⟩, ?_⟩
    · have h1 := HT2.out.block bm (by show bm < (w.setCell _ _).heap.size; rw [World.size_setCell]; exact lm) (fun h => h.2 rfl)
      rw [h1]
      show (w.setCell _ _).heap[bm]? = _
      rw [setCell_ne _ hb]
      exact H.out.map
    · have := H.out.mp
      unfold Mp at this ⊢
      rw [← hg] at this
      exact this.trans ((HP2.out.map _).symm)
    · have h1 := (HP2.out.map kt).trans ((set_perm (y := (⟨eb, ek, t⟩ : En)) HF.out).map kt)
      have h2 := ((erase_perm HF.out).map kt).symm.trans H.out.perm
      rw [List.map_cons] at h1 h2
      have h3 : ((R.eraseIdx i).map kt ++ [(k, et)]).Perm L := by
        have : kt (⟨eb, ek, et⟩ : En) = (k, et) := by unfold kt; simp only; rw [H6.out]
        rw [this] at h2
        exact (List.perm_append_comm (l₂ := [(k, et)])).trans h2
      have h4 := cut_perm h3 H.out.keys
      have : kt (⟨eb, ek, t⟩ : En) = (k, t) := by unfold kt; simp only; rw [H6.out]
      rw [this] at h1
      exact (h1.trans (List.perm_append_comm (l₁ := [(k, t)]))).trans (h4.append_right _)
    · have t1 : Turn G w (w.setCell ⟨eb, 1, none⟩ (.int .u64 t)).drew := (Turn.set w ⟨eb, 1, none⟩ _ (H.out.st.fe _ (List.mem_of_getElem? HF.out)).1).drew
      exact t1.trans (HT2.out.more (F' := G) fun b h => h.1) fun _ _ h => h
  · have hl := look_out h.map h1
    have hB : Below w.heap.size w (w.alloc (.cells #[.int .u64 k, .int .u64 t, .int .i64 0] 57)) := (Below.refl _ w).alloc (Nat.le_refl _) _
    have hm1 : (w.alloc (.cells #[.int .u64 k, .int .u64 t, .int .i64 0] 57)).heap[bm]? = some (.map es ck) := (hB.block bm lm).trans h.map
    have hu := put_new (v := .pointer (some ⟨w.heap.size, 0, none⟩)) hm1 h1
    obtain ⟨W2, hW2⟩ : ∃ W2, W2 = setMap (w.alloc (.cells #[.int .u64 k, .int .u64 t, .int .i64 0] 57)) bm (.map (es.push { key := .int .u64 k, val := .pointer (some ⟨w.heap.size, 0, none⟩), born := ck }) (ck + 1)) := ⟨_, rfl⟩
    rw [← hW2] at hu
    have hst2 : St (fun b => G b ∧ b ≠ bm) bd bm rv R W2 := by
      rw [hW2]
      exact (h.st.below hB).kept hm1 fun b _ hb => setMap_ne _ hb
    have hx : W2.heap[w.heap.size]? = some (entC ⟨w.heap.size, k, t⟩ 0) := by
      rw [hW2, setMap_ne _ (by omega)]
      exact heap_alloc_new w _
    have hsz : W2.heap.size = w.heap.size + 1 := by rw [hW2, setMap_size, World.size_alloc]
    have hm2 : W2.heap[bm]? = some (.map (es.push { key := .int .u64 k, val := .pointer (some ⟨w.heap.size, 0, none⟩), born := ck }) (ck + 1)) := by
      rw [hW2]
      exact setMap_at _ (by rw [World.size_alloc]; omega)
    have hnx : ∀ e ∈ R, e.b ≠ w.heap.size := fun e he => by
      obtain ⟨m, hm⟩ := List.getElem?_of_mem he
      have := (Array.getElem?_eq_some_iff.1 (h.st.ent m e hm)).1
      omega
    have K20 := c20 (w := W2) (x := ⟨w.heap.size, k, t⟩) (F := fun b => (G b ∧ b ≠ bm) ∨ w.heap.size ≤ b) (hst2.more fun b h => .inl h) h.heap hx (.inr (Nat.le_refl _)) hnx (by omega)
    unfold ifc at K20
    have hT : Turn (fun b => G b) w W2 := by
      rw [hW2]
      exact (Turn.of hB).trans (setMap_turn _ h.gm) fun _ _ h => h
    have z1 := hst2.head.2.1
    have ld := (Array.getElem?_eq_some_iff.1 h.st.hd).1
    have y11 := (hB.cell (p := ⟨bd, 1, none⟩) ld).trans y1
    have H := Lib.hid h; have H3 := Lib.hid h3; have HK := Lib.hid K20
    have HM2 := Lib.hid hm2; have HT := Lib.hid hT
    clear h h1 h2 h3 K20 hm1 hW2 hst2 hx hm2 hnx hT hB
    go_enter Try.func9, Try.ntmps9
    go_wp2_with (go_at_call 20; ((with_reducible refine HK.out.mono ?_); rintro e w3 ⟨rfl, rv3, R3, hst3, hp3, hh3, ht3⟩; have HS3 := Lib.hid hst3; have HP3 := Lib.hid hp3; have HH3 := Lib.hid hh3; have HT3 := Lib.hid ht3; clear hst3 hp3 hh3 ht3))
    go_end0
    refine ⟨rfl, fun b => G b ∨ w.heap.size ≤ b, fun b h => h, ⟨bm, rv3, es.push { key := .int .u64 k, val := .pointer (some ⟨w.heap.size, 0, none⟩), born := ck }, ck + 1, R3, .inl H.out.gm, HS3.out.more fun b h => ?_, ?_, ?_, set_nodup H.out.keys, HH3.out, ?_⟩, ?_⟩
    · rcases h with (h | h) | h
      · exact ⟨.inl h.1, h.2⟩
      · exact ⟨.inr h, by omega⟩
      · exact ⟨.inr (by omega), by omega⟩
    · have := HT3.out.block bm (by omega) (fun h => by rcases h with h | h; exact h.2 rfl; omega)
      rw [this]; exact HM2.out
    · have h1 := H.out.mp
      unfold Mp at h1 ⊢
      rw [Array.toList_push, List.map_append]
      have h2 := (HP3.out.map fun e : En => (Value.int .u64 e.k, ptr e.b)).symm
      rw [List.map_append] at h2
      exact (h1.append_right _).trans h2
    · have h1 := HP3.out.map kt
      rw [List.map_append] at h1
      unfold setL
      rw [cut_none H3.out]
      exact h1.trans (H.out.perm.append_right _)
    · exact HT.out.trans HT3.out fun b hb h => by
        rcases h with h | h
        · exact h.1
        · omega
end Go.Proofs.DU
