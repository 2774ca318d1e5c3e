/- Proved: what the program's 'Rename' comes to. Each theorem says its own conditions. -/
import Derived.Test.YteleocgomdhcfaaLa
set_option linter.unusedVariables false
set_option linter.unusedSimpArgs false
namespace Go.Proofs.DK
open Go.RowKit
variable {G G' G'' : Nat → Prop} {bd bm : Nat} {es : Array MapEntry} {ck : Nat} {R R' : List En} {S S' : Ds} {w w2 w3 W W' : World} {e : En}
/-- A file gets another name: first it goes, then it comes. -/
theorem Dk.moved {n t : List UInt8} {f : Fl} {b : Nat} {sv : Value} {j : Nat} {x : MapEntry} (h : Dk G bd bm es ck (⟨f, b, sv⟩ :: R) S w2) (hfn : f.n = n) (h2 : es.toList[j]? = some x) (h3 : x.key = .string (bs f.n)) (h4 : x.val = ptr b) :
    ∃ W4, (Instr.mapUpdate 54 (.map (some bm)) (.string (bs t)) (ptr b)).run Try.prog (DK.setMap w2 bm (.map (es.eraseIdxIfInBounds j) ck)) = .ok () W4 ∧ D G bd { S with fs := wiF (woF S.fs n) ⟨t, f.b, f.s⟩ } W4 ∧ Turn G w2 W4 := by
  have h5 := h.del h2 h3 h4
  have hT := setMap_turn (F := G) (w := w2) (.map (es.eraseIdxIfInBounds j) ck) h.gm
  have hE0 := (h.ents.setMap h.map (.map (es.eraseIdxIfInBounds j) ck)).name (f' := ⟨t, f.b, f.s⟩) rfl rfl
  rw [show (⟨f, b, sv⟩ : En).f.n = n from hfn] at h5
  generalize DK.setMap w2 bm (.map (es.eraseIdxIfInBounds j) ck) = W3 at *
  rcases h5.look t with ⟨e2, j2, x2, k1, k2, k3, k4, k5, k6, _⟩ | ⟨k1, _, k3⟩
  · obtain ⟨R2, h6⟩ : ∃ R2, R.Perm (e2 :: R2) := by
      obtain ⟨A, C, rfl⟩ := List.append_of_mem k5
      exact ⟨A ++ C, List.perm_middle⟩
    have h7 := h5.reorder h6
    have hE : Ents G (⟨⟨t, f.b, f.s⟩, b, sv⟩ :: R2) W3 := by
      refine ⟨fun y hy => ?_, ?_⟩
      · rcases List.mem_cons.1 hy with rfl | hy
        · exact hE0.ent _ List.mem_cons_self
        · exact hE0.ent y (List.mem_cons_of_mem _ (h6.mem_iff.2 (List.mem_cons_of_mem _ hy)))
      · obtain ⟨ha, _⟩ := List.pairwise_cons.1 hE0.apart
        exact List.pairwise_cons.2 ⟨fun y hy => ha y (h6.mem_iff.2 (List.mem_cons_of_mem _ hy)), (List.pairwise_cons.1 h7.apart).2⟩
    have h8 := h7.over (e' := ⟨⟨t, f.b, f.s⟩, b, sv⟩) hE k6.symm k2 (by rw [k3, k6]) k4
    have hu := put_old (v := ptr b) h5.map k1 k2 k3
    exact ⟨_, hu, ⟨bm, _, _, _, h8⟩, hT.trans (setMap_turn _ h.gm) fun _ _ h => h⟩
  · have h8 := h5.come (e' := ⟨⟨t, f.b, f.s⟩, b, sv⟩) hE0 k3
    have hu := put_new (v := ptr b) h5.map k1
    exact ⟨_, hu, ⟨bm, _, _, _, h8⟩, hT.trans (setMap_turn _ h.gm) fun _ _ h => h⟩
theorem c18 (n t : List UInt8) (w : World) (h : D G bd S w) (hF : Fine S) (ht : t.length ≤ 1000000) : Calls Try.prog 18 #[ptr bd, .string (bs n), .string (bs t)] w (Did G bd (.int .i64 (S.renameE n t)) (S.rename n t) w) := by
  have K38 := Lib.hid (c38 n w h hF)
  have hb := begin_fs S
  have hts : (bs t).size = t.length := by simp [bs, ByteArray.size]
  have K35 := Lib.hid (fun w' => c35 (bs t) w' (by omega))
  rw [hts] at K35
  unfold Ds.renameE Ds.rename
  by_cases hh : S.how = 0
  · simp only [hh, ne_eq, not_true_eq_false, if_false]
    by_cases hnt : named t
    · have ht1 : decide (1 ≤ t.length ∧ t.length ≤ 32) = true := decide_eq_true hnt
      rw [ht1] at K35
      simp only [hnt, not_true_eq_false, if_false]
      cases hlk : lookF S.fs n with
      | none =>
        rw [if_pos rfl]
        have HH := Lib.hid hh; have HL := Lib.hid hlk
        clear h hF hh hlk
        unfold ptr at K38 ⊢
        go_enter Try.func18, Try.ntmps18
        go_wp2_with (first
          | (go_at_call 35; (with_reducible refine (K35.out _).mono ?_); rintro e w9 ⟨rfl, rfl⟩)
          | (go_at_call 38; (refine K38.out.mono ?_); rintro e w2 ⟨v, E, rfl, G2, hG, ht, bm, es, ck, R, hk, hcs⟩; obtain ⟨rfl, rfl⟩ := act_none hcs HH.out HL.out; have HG := Lib.hid hG; have HT := Lib.hid ht; have HK := Lib.hid hk; clear hG ht hk hcs))
        go_ret
        exact Did.then HG.out HT.out ⟨bm, es, ck, R, HK.out⟩ (fun b h => .inl h) (Turn.refl _ _)
      | some f =>
        rw [if_neg (by simp)]
        have HH := Lib.hid hh; have HL := Lib.hid hlk; have HB := Lib.hid hb
        clear h hF hh hlk hb
        unfold ptr at K38 ⊢
        go_enter Try.func18, Try.ntmps18
        go_wp2_with (first
          | (go_at_call 35; (with_reducible refine (K35.out _).mono ?_); rintro e w9 ⟨rfl, rfl⟩)
          | (go_at_call 38; (refine K38.out.mono ?_); rintro e w2 ⟨v, E, rfl, G2, hG, ht, bm, es, ck, R, hk, hcs⟩; obtain ⟨b, sv, hm, hfn, rfl, rfl⟩ := act_some hcs HH.out HL.out; obtain ⟨R', hk⟩ := hk.front hm; obtain ⟨y0, y1, y2, y3, y4, y5, y6, yf⟩ := hk.cells; obtain ⟨j, x, hf1, hf2, hf3, hf4⟩ := hk.at; have hdl : ∀ ty, (Builtin.delete_ #[54, 9] ty #[.map (some bm), .string (bs n)]).run Try.prog w2 = .ok (.tuple #[]) (setMap w2 bm (.map (es.eraseIdxIfInBounds j) ck)) := (fun ty => del_in hk.map (by rw [← hfn]; exact hf1)); obtain ⟨W4, hup, hd4, ht4⟩ := hk.moved (t := t) hfn hf2 hf3 hf4; have hhd : (setMap w2 bm (.map (es.eraseIdxIfInBounds j) ck)).heap[bd]? = w2.heap[bd]? := setMap_ne _ (fun e => by have h1 := hk.hd; rw [e, hk.map] at h1; cases h1); have u1 : (setMap w2 bm (.map (es.eraseIdxIfInBounds j) ck)).cell? ⟨bd, 1, none⟩ = some (.map (some bm)) := (World.cell?_of_block (a := ⟨bd, 1, none⟩) hhd).trans y1; obtain ⟨W3, hW3⟩ : ∃ W3, W3 = setMap w2 bm (.map (es.eraseIdxIfInBounds j) ck) := ⟨_, rfl⟩; rw [← hW3] at hdl hup u1; unfold ptr at hup; have HD4 := Lib.hid hd4; have HT4 := Lib.hid ht4; have HG := Lib.hid hG; have HT := Lib.hid ht; unfold ptr; clear hG ht hk hcs hm hfn hf1 hf2 hf3 hf4 hW3 hhd hd4 ht4))
        go_ret
        have hd4 := HD4.out
        rw [HB.out] at hd4
        exact Did.then HG.out HT.out hd4 (fun b h => .inl h) HT4.out
    · have ht1 : decide (1 ≤ t.length ∧ t.length ≤ 32) = false := decide_eq_false hnt
      rw [ht1] at K35
      simp only [hnt, not_false_eq_true, if_true]
      have HH := Lib.hid hh
      clear h hF hh
      cases hlk : lookF S.fs n with
      | none =>
        have HL := Lib.hid hlk
        clear hlk
        unfold ptr at K38 ⊢
        go_enter Try.func18, Try.ntmps18
        go_wp2_with (first
          | (go_at_call 35; (with_reducible refine (K35.out _).mono ?_); rintro e w9 ⟨rfl, rfl⟩)
          | (go_at_call 38; (refine K38.out.mono ?_); rintro e w2 ⟨v, E, rfl, G2, hG, ht, bm, es, ck, R, hk, hcs⟩; obtain ⟨rfl, rfl⟩ := act_none hcs HH.out HL.out; have HG := Lib.hid hG; have HT := Lib.hid ht; have HK := Lib.hid hk; clear hG ht hk hcs))
        go_ret
        exact Did.then HG.out HT.out ⟨bm, es, ck, R, HK.out⟩ (fun b h => .inl h) (Turn.refl _ _)
      | some f =>
        have HL := Lib.hid hlk
        clear hlk
        unfold ptr at K38 ⊢
        go_enter Try.func18, Try.ntmps18
        go_wp2_with (first
          | (go_at_call 35; (with_reducible refine (K35.out _).mono ?_); rintro e w9 ⟨rfl, rfl⟩)
          | (go_at_call 38; (refine K38.out.mono ?_); rintro e w2 ⟨v, E, rfl, G2, hG, ht, bm, es, ck, R, hk, hcs⟩; obtain ⟨b, sv, hm, hfn, rfl, rfl⟩ := act_some hcs HH.out HL.out; have HG := Lib.hid hG; have HT := Lib.hid ht; have HK := Lib.hid hk; unfold ptr; clear hG ht hk hcs hm hfn))
        go_ret
        exact Did.then HG.out HT.out ⟨bm, es, ck, R, HK.out⟩ (fun b h => .inl h) (Turn.refl _ _)
  · simp only [hh, ne_eq, not_false_eq_true, if_true]
    have HH := Lib.hid hh
    clear h hF hh
    unfold ptr at K38 ⊢
    go_enter Try.func18, Try.ntmps18
    go_wp2_with (go_at_call 38; (refine K38.out.mono ?_); rintro e w2 ⟨v, E, rfl, G2, hG, ht, bm, es, ck, R, hk, hcs⟩; obtain ⟨rfl, rfl⟩ := act_no hcs HH.out; have HG := Lib.hid hG; have HT := Lib.hid ht; have HK := Lib.hid hk; clear hG ht hk hcs)
    go_ret
    exact Did.then HG.out HT.out ⟨bm, es, ck, R, HK.out⟩ (fun b h => .inl h) (Turn.refl _ _)
end Go.Proofs.DK
