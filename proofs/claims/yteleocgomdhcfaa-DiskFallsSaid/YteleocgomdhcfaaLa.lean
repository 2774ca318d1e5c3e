/- Proved: what the program's 'Delete', 'Truncate' and 'Rename' come to. Each theorem says its own conditions. -/
import Derived.Test.YteleocgomdhcfaaKz
set_option linter.unusedVariables false
set_option linter.unusedSimpArgs false
namespace Go.Proofs.DK
open Go.RowKit
variable {G G' G'' : Nat → Prop} {bd bm : Nat} {es : Array MapEntry} {ck : Nat} {R R' : List En} {S S' : Ds} {w w2 w3 W W' : World} {e : En}
theorem Dk.at (h : Dk G bd bm es ck (e :: R) S W) : ∃ j x, Instr.findNow .string (.string (bs e.f.n)) es.toList 0 = some (some (j, ptr e.b)) ∧ es.toList[j]? = some x ∧ x.key = .string (bs e.f.n) ∧ x.val = ptr e.b := by
  rcases h.look e.f.n with ⟨e2, j, x, h1, h2, h3, h4, h5, h6, _⟩ | ⟨_, h2, _⟩
  · have he : e2 = e := by
      rcases List.mem_cons.1 h5 with h7 | h7
      · exact h7
      · exact absurd h6 (names_ne h.perm h.srt e2 h7)
    rw [he] at h1 h4
    exact ⟨j, x, h1, h2, h3, h4⟩
  · exact absurd rfl (h2 e List.mem_cons_self)
theorem begin_with {fs : List Fl} (hb : S.begin.fs = S.fs) : ({ S.begin with fs := fs } : Ds) = { S.begin with fs := fs } := rfl
theorem c20 (n : List UInt8) (w : World) (h : D G bd S w) (hF : Fine S) : Calls Try.prog 20 #[ptr bd, .string (bs n)] w (Did G bd (.int .i64 (S.deleteE n)) (S.delete n) w) := by
  have K38 := Lib.hid (c38 n w h hF)
  have hb := begin_fs S
  unfold Ds.deleteE Ds.delete
  by_cases hh : S.how = 0
  · simp only [hh, ne_eq, not_true_eq_false, if_false]
    cases hlk : lookF S.fs n with
    | none =>
      rw [if_pos rfl, wo_none (look_none hlk)]
      have e : ({ S.begin with fs := S.fs } : Ds) = S.begin := by rw [← hb]
      rw [e]
      have HH := Lib.hid hh; have HL := Lib.hid hlk
      clear h hF hh hlk e
      unfold ptr at K38 ⊢
      go_enter Try.func20, Try.ntmps20
      go_wp2_with (go_at_call 38; (refine K38.out.mono ?_); rintro e w2 ⟨v, E, rfl, G2, hG, ht, bm, es, ck, R, hk, hcs⟩; obtain ⟨rfl, rfl⟩ := act_none hcs HH.out HL.out; have HG := Lib.hid hG; have HT := Lib.hid ht; have HK := Lib.hid hk; clear hG ht hk hcs)
      go_ret
      exact Did.then HG.out HT.out ⟨bm, es, ck, R, HK.out⟩ (fun b h => .inl h) (Turn.refl _ _)
    | some f =>
      rw [if_neg (by simp)]
      have HH := Lib.hid hh; have HL := Lib.hid hlk; have HB := Lib.hid hb
      clear h hF hh hlk hb
      unfold ptr at K38 ⊢
      go_enter Try.func20, Try.ntmps20
      go_wp2_with (go_at_call 38; (refine K38.out.mono ?_); rintro e w2 ⟨v, E, rfl, G2, hG, ht, bm, es, ck, R, hk, hcs⟩; obtain ⟨b, sv, hm, hfn, rfl, rfl⟩ := act_some hcs HH.out HL.out; obtain ⟨R', hk⟩ := hk.front hm; obtain ⟨y0, y1, y2, y3, y4, y5, y6, yf⟩ := hk.cells; obtain ⟨j, x, hf1, hf2, hf3, hf4⟩ := hk.at; have hdl : ∀ ty, (Builtin.delete_ #[54, 9] ty #[.map (some bm), .string (bs n)]).run Try.prog w2 = .ok (.tuple #[]) (setMap w2 bm (.map (es.eraseIdxIfInBounds j) ck)) := (fun ty => del_in hk.map (by rw [← hfn]; exact hf1)); obtain ⟨W3, hW3⟩ : ∃ W3, W3 = setMap w2 bm (.map (es.eraseIdxIfInBounds j) ck) := ⟨_, rfl⟩; rw [← hW3] at hdl; have HW3 := Lib.hid hW3; have HFN := Lib.hid hfn; have HG := Lib.hid hG; have HT := Lib.hid ht; have HK := Lib.hid hk; have HF2 := Lib.hid hf2; have HF3 := Lib.hid hf3; have HF4 := Lib.hid hf4; unfold ptr; clear hG ht hk hcs hm hfn hf1 hf2 hf3 hf4 hW3)
      go_ret
      have hfin := HK.out.del HF2.out HF3.out HF4.out
      rw [← HW3.out, HB.out, show (⟨f, b, sv⟩ : En).f.n = n from HFN.out] at hfin
      refine Did.then HG.out HT.out ⟨bm, _, ck, _, hfin⟩ (fun b h => .inl h) ?_
      rw [HW3.out]
      exact setMap_turn _ HK.out.gm
  · simp only [hh, ne_eq, not_false_eq_true, if_true]
    have HH := Lib.hid hh
    clear h hF hh
    unfold ptr at K38 ⊢
    go_enter Try.func20, Try.ntmps20
    go_wp2_with (go_at_call 38; (refine K38.out.mono ?_); rintro e w2 ⟨v, E, rfl, G2, hG, ht, bm, es, ck, R, hk, hcs⟩; obtain ⟨rfl, rfl⟩ := act_no hcs HH.out; have HG := Lib.hid hG; have HT := Lib.hid ht; have HK := Lib.hid hk; clear hG ht hk hcs)
    go_ret
    exact Did.then HG.out HT.out ⟨bm, es, ck, R, HK.out⟩ (fun b h => .inl h) (Turn.refl _ _)
theorem c19 (n : List UInt8) (k : Int) (w : World) (h : D G bd S w) (hF : Fine S) (hU : used S.fs ≤ 1000000) : Calls Try.prog 19 #[ptr bd, .string (bs n), .int .i64 k] w (Did G bd (.int .i64 (S.truncateE n k)) (S.truncate n k) w) := by
  have K38 := Lib.hid (c38 n w h hF)
  have hb := begin_fs S
  unfold Ds.truncateE Ds.truncate
  by_cases hh : S.how = 0
  · simp only [hh, ne_eq, not_true_eq_false, if_false]
    cases hlk : lookF S.fs n with
    | none =>
      simp only
      have HH := Lib.hid hh; have HL := Lib.hid hlk
      clear h hF hh hlk
      unfold ptr at K38 ⊢
      go_enter Try.func19, Try.ntmps19
      go_wp2_with (go_at_call 38; (refine K38.out.mono ?_); rintro e w2 ⟨v, E, rfl, G2, hG, ht, bm, es, ck, R, hk, hcs⟩; obtain ⟨rfl, rfl⟩ := act_none hcs HH.out HL.out; have HG := Lib.hid hG; have HT := Lib.hid ht; have HK := Lib.hid hk; clear hG ht hk hcs)
      go_ret
      exact Did.then HG.out HT.out ⟨bm, es, ck, R, HK.out⟩ (fun b h => .inl h) (Turn.refl _ _)
    | some f =>
      simp only
      have hfu := Nat.le_trans (used_mem (look_some hlk).1) hU
      have HH := Lib.hid hh; have HL := Lib.hid hlk; have HB := Lib.hid hb
      clear h hF hh hlk hb hU
      unfold ptr at K38 ⊢
      by_cases hk : k < 0 ∨ k > f.b.length
      · rw [if_pos hk, if_pos hk]
        rcases Int.lt_or_le k 0 with hk0 | hk0
        · clear hk
          go_enter Try.func19, Try.ntmps19
          go_wp2_with (go_at_call 38; (refine K38.out.mono ?_); rintro e w2 ⟨v, E, rfl, G2, hG, ht, bm, es, ck, R, hk, hcs⟩; obtain ⟨b, sv, hm, hfn, rfl, rfl⟩ := act_some hcs HH.out HL.out; obtain ⟨R', hk⟩ := hk.front hm; obtain ⟨z0, z1, zf, hge, pv, cv, hsv, hle⟩ := ent_cells hk.ents; simp only at z0 z1 zf hge hsv hle; subst hsv; have HG := Lib.hid hG; have HT := Lib.hid ht; have HK := Lib.hid hk; have HGE := Lib.hid hge; unfold ptr; clear hG ht hk hcs hm hfn hge)
          go_ret
          exact Did.then HG.out HT.out ⟨bm, es, ck, _, HK.out⟩ (fun b h => .inl h) (Turn.refl _ _)
        · have hk1 : k > f.b.length := by omega
          clear hk
          go_enter Try.func19, Try.ntmps19
          go_wp2_with (go_at_call 38; (refine K38.out.mono ?_); rintro e w2 ⟨v, E, rfl, G2, hG, ht, bm, es, ck, R, hk, hcs⟩; obtain ⟨b, sv, hm, hfn, rfl, rfl⟩ := act_some hcs HH.out HL.out; obtain ⟨R', hk⟩ := hk.front hm; obtain ⟨z0, z1, zf, hge, pv, cv, hsv, hle⟩ := ent_cells hk.ents; simp only at z0 z1 zf hge hsv hle; subst hsv; have HG := Lib.hid hG; have HT := Lib.hid ht; have HK := Lib.hid hk; have HGE := Lib.hid hge; unfold ptr; clear hG ht hk hcs hm hfn hge)
          go_ret
          exact Did.then HG.out HT.out ⟨bm, es, ck, _, HK.out⟩ (fun b h => .inl h) (Turn.refl _ _)
      · rw [if_neg hk, if_neg hk]
        obtain ⟨kn, rfl⟩ : ∃ kn : Nat, k = kn := ⟨k.toNat, by omega⟩
        have hkn : kn ≤ f.b.length := by omega
        rw [Int.toNat_natCast]
        clear hk
        go_enter Try.func19, Try.ntmps19
        go_wp2_with (first
          | (go_at_call 37; (refine HK37.out.mono ?_); rintro e w3 ⟨v3, rfl, hb3, hn3, hB3, p3, c3, rfl⟩; have hsz3 := hB3.size; have z0 := (hB3.cell (p := ⟨b, 0, none⟩) hbl).trans Z0.out; have z1 := (hB3.cell (p := ⟨b, 1, none⟩) hbl).trans Z1.out; have zf := (fun o => (hB3.frozen (p := ⟨b, o, none⟩) hbl).trans (ZF.out o)); have HB3 := Lib.hid hb3; have HN3 := Lib.hid hn3; have HBB := Lib.hid hB3; clear hb3 hn3 hB3)
          | (go_at_call 38; (refine K38.out.mono ?_); rintro e w2 ⟨v, E, rfl, G2, hG, ht, bm, es, ck, R, hk, hcs⟩; obtain ⟨b, sv, hm, hfn, rfl, rfl⟩ := act_some hcs HH.out HL.out; obtain ⟨R', hk⟩ := hk.front hm; obtain ⟨z0, z1, zf, hge, pv, cv, hsv, hle⟩ := ent_cells hk.ents; simp only at z0 z1 zf hge hsv hle; subst hsv; have hbr := (hk.ents.ent _ List.mem_cons_self).2.2.1; have hbl : b < w2.heap.size := (Array.getElem?_eq_some_iff.1 (hk.ents.ent _ List.mem_cons_self).2.1).1; have HK37 := Lib.hid (c37 (f.b.take kn) pv kn cv w2 (hbr.rd.take hkn) (by rw [List.length_take]; omega)); have Z0 := Lib.hid z0; have Z1 := Lib.hid z1; have ZF := Lib.hid zf; have HG := Lib.hid hG; have HT := Lib.hid ht; have HK := Lib.hid hk; have HGE := Lib.hid hge; unfold ptr; clear hG ht hk hcs hm hfn hge hbr))
        go_ret
        have hE := HK.out.ents.ent _ List.mem_cons_self
        have hlen : (f.b.take kn).length = kn := by rw [List.length_take]; omega
        have hb3 := HB3.out
        have hn3 := HN3.out
        rw [hlen] at hb3 hn3
        have hb' := (HBB.out.block b hbl).trans hE.2.1
        have hbn : ∀ g, rb (.slice p3 kn c3) = some g → g ≠ b := fun g hg e => by
          have := hn3 g hg
          omega
        have hfin := HK.out.file (f' := ⟨f.n, f.b.take kn, min f.s kn⟩) (v' := .slice p3 kn c3) (W' := (w3.setCell ⟨b, 0, none⟩ (.slice p3 kn c3)).setCell ⟨b, 1, none⟩ (.int .i64 (min (f.s : Int) (kn : Int)))) rfl (by simp; exact hsz3) (by
          have := setCell_at (o := 1) (.int .i64 (min (f.s : Int) (kn : Int))) (setCell_at (o := 0) (.slice p3 kn c3) hb')
          rw [min_cast]
          simpa using this) (hb3.keep fun g hg hl => by rw [setCell_ne _ (hbn g hg), setCell_ne _ (hbn g hg)]) (fun g hg => .inr (hn3 g hg)) fun b' hl hne _ => by
            rw [setCell_ne _ hne, setCell_ne _ hne]
            exact HBB.out.block b' hl
        rw [HB.out] at hfin
        refine Did.then HG.out HT.out ⟨bm, es, ck, _, hfin⟩ (fun b h => h) ?_
        exact Turn.put (Turn.put (Turn.of HBB.out) HGE.out) HGE.out
  · simp only [hh, ne_eq, not_false_eq_true, if_true]
    have HH := Lib.hid hh
    clear h hF hh
    unfold ptr at K38 ⊢
    go_enter Try.func19, Try.ntmps19
    go_wp2_with (go_at_call 38; (refine K38.out.mono ?_); rintro e w2 ⟨v, E, rfl, G2, hG, ht, bm, es, ck, R, hk, hcs⟩; obtain ⟨rfl, rfl⟩ := act_no hcs HH.out; have HG := Lib.hid hG; have HT := Lib.hid ht; have HK := Lib.hid hk; clear hG ht hk hcs)
    go_ret
    exact Did.then HG.out HT.out ⟨bm, es, ck, R, HK.out⟩ (fun b h => .inl h) (Turn.refl _ _)
theorem key_stays (s : ByteArray) (w : World) : (Instr.keyThatStays (.string s) (.string s)).run Try.prog w = .ok (.string s) w := by
  unfold Instr.keyThatStays
  rw [if_pos (by simp [Instr.sameBits, ba_beq])]
  rfl
theorem put_old {w : World} {bm : Nat} {es : Array MapEntry} {ck i : Nat} {v u : Value} {x : MapEntry} {s : ByteArray} (h : w.heap[bm]? = some (.map es ck)) (hf : Instr.findNow .string (.string s) es.toList 0 = some (some (i, u))) (hx : es.toList[i]? = some x) (hk : x.key = .string s) : (Instr.mapUpdate 54 (.map (some bm)) (.string s) v).run Try.prog w = .ok () (setMap w bm (.map (es.modify i fun e => { e with key := .string s, val := v }) ck)) := by
  have hx' : es[i]? = some x := by rw [← hx]; simp
  simp only [Instr.mapUpdate, Sem.run_bind, run_underlying Try.underlying54, Result.andThen_ok, run_getObj_map h, run_check _ 9999, run_findKey hf, hx', Option.map_some, Option.getD_some, hk, key_stays, run_setObj_map h]
/-- A file's name is another one. -/
theorem Ents.name {f' : Fl} (h : Ents G (e :: R) W) (hb : f'.b = e.f.b) (hs : f'.s = e.f.s) : Ents G (⟨f', e.b, e.v⟩ :: R) W := by
  obtain ⟨ha, ht⟩ := List.pairwise_cons.1 h.apart
  refine ⟨fun x hx => ?_, List.pairwise_cons.2 ⟨ha, ht⟩⟩
  rcases List.mem_cons.1 hx with rfl | hx
  · obtain ⟨h1, h2, h3, h4⟩ := h.ent e List.mem_cons_self
    exact ⟨h1, by rw [hs]; exact h2, by rw [hb]; exact h3, h4⟩
  · exact h.ent x (List.mem_cons_of_mem _ hx)
/-- A file comes whose name is new. -/
theorem Dk.come {e' : En} (h : Dk G bd bm es ck R S W) (hE : Ents G (e' :: R) W) (hno : lookF S.fs e'.f.n = none) : Dk G bd bm (es.push { key := .string (bs e'.f.n), val := ptr e'.b, born := ck }) (ck + 1) (e' :: R) { S with fs := wiF S.fs e'.f } (DK.setMap W bm (.map (es.push { key := .string (bs e'.f.n), val := ptr e'.b, born := ck }) (ck + 1))) := by
  have hE2 := hE.setMap h.map (.map (es.push { key := .string (bs e'.f.n), val := ptr e'.b, born := ck }) (ck + 1))
  have hne : bd ≠ bm := fun e => by have h1 := h.hd; rw [e, h.map] at h1; cases h1
  refine ⟨h.gd, h.gm, (setMap_ne _ hne).trans h.hd, setMap_at _ (Array.getElem?_eq_some_iff.1 h.map).1, ?_, ?_, h.srt.wi _, hE2.ent, hE2.apart, MapKept.stamped_push h.st fun x hx hxk => ?_⟩
  · rw [Array.toList_push, List.map_append, List.map_cons (f := fun e : En => (Value.string (bs e.f.n), ptr e.b))]
    exact (List.perm_append_comm).trans (h.mp.cons _)
  · have h1 := wi_perm S.fs e'.f
    rw [wo_none (look_none hno)] at h1
    exact (h.perm.cons e'.f).trans h1.symm
  · obtain ⟨y, hy, h1, _⟩ := h.keys x hx
    rw [h1] at hxk
    exact look_none hno y.f (h.perm.mem_iff.1 (List.mem_map.2 ⟨y, hy, rfl⟩)) (bs_inj (Value.string.inj hxk))
/-- A file comes in the place of another one of its name. -/
theorem Dk.over {e' e2 : En} {j : Nat} {x : MapEntry} (h : Dk G bd bm es ck (e2 :: R) S W) (hE : Ents G (e' :: R) W) (hn : e'.f.n = e2.f.n) (hj : es.toList[j]? = some x) (hk : x.key = .string (bs e2.f.n)) (hv : x.val = ptr e2.b) : Dk G bd bm (es.modify j fun e => { e with key := .string (bs e'.f.n), val := ptr e'.b }) ck (e' :: R) { S with fs := wiF S.fs e'.f } (DK.setMap W bm (.map (es.modify j fun e => { e with key := .string (bs e'.f.n), val := ptr e'.b }) ck)) := by
  have hE2 := hE.setMap h.map (.map (es.modify j fun e => { e with key := .string (bs e'.f.n), val := ptr e'.b }) ck)
  have hne : bd ≠ bm := fun e => by have h1 := h.hd; rw [e, h.map] at h1; cases h1
  refine ⟨h.gd, h.gm, (setMap_ne _ hne).trans h.hd, setMap_at _ (Array.getElem?_eq_some_iff.1 h.map).1, ?_, ?_, h.srt.wi _, hE2.ent, hE2.apart, MapKept.stamped_modify h.st j _ (fun _ _ => rfl) fun y _ hy => ?_⟩
  · have h1 := (erase_perm hj).map fun x : MapEntry => (x.key, x.val)
    have h2 := h1.symm.trans h.mp
    rw [List.map_cons, List.map_cons, hk, hv] at h2
    have h3 := List.Perm.cons_inv h2
    have h4 : (es.modify j fun e => { e with key := .string (bs e'.f.n), val := ptr e'.b }).toList = es.toList.set j { x with key := .string (bs e'.f.n), val := ptr e'.b } := by
      rw [Array.toList_modify]
      apply List.ext_getElem?
      intro m
      rw [List.getElem?_modify, List.getElem?_set]
      by_cases hm : j = m
      · subst hm
        have hjl : j < es.size := by have := (List.getElem?_eq_some_iff.1 hj).1; simpa using this
        have hx := (List.getElem?_eq_some_iff.1 hj).2
        simp at hx
        simp [hj, hjl, hx]
      · simp [hm]
    rw [h4, List.map_cons]
    exact ((set_perm hj).map fun x : MapEntry => (x.key, x.val)).trans (h3.cons _)
  · have h1 := wo_rest h.perm h.srt
    rw [← hn] at h1
    exact (h1.cons e'.f).trans (wi_perm S.fs e'.f).symm
  · have h1 : es[j]? = some x := by rw [← hj]; simp
    rw [h1] at hy
    cases hy
    rw [hk, hn]
end Go.Proofs.DK
