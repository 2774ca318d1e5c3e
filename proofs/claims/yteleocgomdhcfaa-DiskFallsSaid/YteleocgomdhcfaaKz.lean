/- Proved: what the program's 'Sync', 'Delete' and 'Truncate' come to. Each theorem says its own conditions. -/
import Derived.Test.YteleocgomdhcfaaKy
set_option linter.unusedVariables false
set_option linter.unusedSimpArgs false
namespace Go.Proofs.DK
open Go.RowKit
variable {G G' G'' : Nat → Prop} {bd bm : Nat} {es : Array MapEntry} {ck : Nat} {R : List En} {S S' : Ds} {w w2 w3 : World}
theorem Did.then {v : Value} (hG : ∀ b, G' b → G b ∨ w.heap.size ≤ b) (ht : Turn G w w2) (hd : D G'' bd S' w3) (hG2 : ∀ b, G'' b → G' b ∨ w2.heap.size ≤ b) (ht2 : Turn G' w2 w3) : Did G bd v S' w (.returned v) w3 := by
  refine ⟨rfl, G'', fun b h => ?_, hd, ht.trans ht2 fun b hb h => ?_⟩
  · rcases hG2 b h with h | h
    · exact hG b h
    · exact .inr (Nat.le_trans ht.size h)
  · rcases hG b h with h | h
    · exact h
    · omega
theorem act_no {v : Value} {E : Int} {n : List UInt8} (h : (S.how ≠ 0 ∧ v = .pointer none ∧ E = 9) ∨ (S.how = 0 ∧ lookF S.fs n = none ∧ v = .pointer none ∧ E = 8) ∨ (S.how = 0 ∧ ∃ en, en ∈ R ∧ en.f.n = n ∧ lookF S.fs n = some en.f ∧ v = ptr en.b ∧ E = 0)) (hh : S.how ≠ 0) : v = .pointer none ∧ E = 9 := by
  rcases h with ⟨_, h1, h2⟩ | ⟨h, _⟩ | ⟨h, _⟩
  · exact ⟨h1, h2⟩
  · exact absurd h hh
  · exact absurd h hh
theorem act_none {v : Value} {E : Int} {n : List UInt8} (h : (S.how ≠ 0 ∧ v = .pointer none ∧ E = 9) ∨ (S.how = 0 ∧ lookF S.fs n = none ∧ v = .pointer none ∧ E = 8) ∨ (S.how = 0 ∧ ∃ en, en ∈ R ∧ en.f.n = n ∧ lookF S.fs n = some en.f ∧ v = ptr en.b ∧ E = 0)) (hh : S.how = 0) (hl : lookF S.fs n = none) : v = .pointer none ∧ E = 8 := by
  rcases h with ⟨h, _⟩ | ⟨_, _, h1, h2⟩ | ⟨_, en, _, _, h, _⟩
  · exact absurd hh h
  · exact ⟨h1, h2⟩
  · rw [hl] at h; cases h
theorem act_some {v : Value} {E : Int} {n : List UInt8} {f : Fl} (h : (S.how ≠ 0 ∧ v = .pointer none ∧ E = 9) ∨ (S.how = 0 ∧ lookF S.fs n = none ∧ v = .pointer none ∧ E = 8) ∨ (S.how = 0 ∧ ∃ en, en ∈ R ∧ en.f.n = n ∧ lookF S.fs n = some en.f ∧ v = ptr en.b ∧ E = 0)) (hh : S.how = 0) (hl : lookF S.fs n = some f) : ∃ b sv, (⟨f, b, sv⟩ : En) ∈ R ∧ f.n = n ∧ v = ptr b ∧ E = 0 := by
  rcases h with ⟨h, _⟩ | ⟨_, h, _⟩ | ⟨_, en, h1, h2, h3, h4, h5⟩
  · exact absurd hh h
  · rw [hl] at h; cases h
  · rw [hl] at h3
    cases h3
    exact ⟨en.b, en.v, h1, h2, h4, h5⟩
theorem ent_cells {G : Nat → Prop} {R : List En} {W : World} {e : En} (h : Ents G (e :: R) W) : W.cell? ⟨e.b, 0, none⟩ = some e.v ∧ W.cell? ⟨e.b, 1, none⟩ = some (.int .i64 e.f.s) ∧ (∀ o, W.frozen? ⟨e.b, o, none⟩ = false) ∧ G e.b ∧ ∃ p c, e.v = .slice p e.f.b.length c ∧ e.f.b.length ≤ c := by
  obtain ⟨h1, h2, h3, _⟩ := h.ent e List.mem_cons_self
  obtain ⟨p, c, hv, hle⟩ := h3.form
  exact ⟨cellof h2 0, cellof h2 1, fun o => frozenof h2 o, h1, p, c, hv, hle⟩
theorem c17 (n : List UInt8) (w : World) (h : D G bd S w) (hF : Fine S) : Calls Try.prog 17 #[ptr bd, .string (bs n)] w (Did G bd (.int .i64 (S.syncE n)) (S.sync n) w) := by
  have K38 := Lib.hid (c38 n w h hF)
  have hb := begin_fs S
  unfold Ds.syncE Ds.sync
  by_cases hh : S.how = 0
  · simp only [hh, ne_eq, not_true_eq_false, if_false]
    cases hlk : lookF S.fs n with
    | none =>
      rw [if_pos rfl]
      have HH := Lib.hid hh; have HL := Lib.hid hlk
      clear h hF hh hlk
      unfold ptr at K38 ⊢
      go_enter Try.func17, Try.ntmps17
      go_wp2_with (go_at_call 38; (refine K38.out.mono ?_); rintro e w2 ⟨v, E, rfl, G2, hG, ht, bm, es, ck, R, hk, hcs⟩; obtain ⟨rfl, rfl⟩ := act_none hcs HH.out HL.out; have HG := Lib.hid hG; have HT := Lib.hid ht; have HK := Lib.hid hk; clear hG ht hk hcs)
      go_ret
      exact Did.then HG.out HT.out ⟨bm, es, ck, R, HK.out⟩ (fun b h => .inl h) (Turn.refl _ _)
    | some f =>
      rw [if_neg (by simp)]
      have HH := Lib.hid hh; have HL := Lib.hid hlk; have HB := Lib.hid hb
      clear h hF hh hlk hb
      unfold ptr at K38 ⊢
      go_enter Try.func17, Try.ntmps17
      go_wp2_with (go_at_call 38; (refine K38.out.mono ?_); rintro e w2 ⟨v, E, rfl, G2, hG, ht, bm, es, ck, R, hk, hcs⟩; obtain ⟨b, sv, hm, hfn, rfl, rfl⟩ := act_some hcs HH.out HL.out; obtain ⟨R', hk⟩ := hk.front hm; obtain ⟨z0, z1, zf, hge, pv, cv, hsv, hle⟩ := ent_cells hk.ents; simp only at z0 z1 zf hge hsv hle; subst hsv; have HG := Lib.hid hG; have HT := Lib.hid ht; have HK := Lib.hid hk; have HGE := Lib.hid hge; unfold ptr; clear hG ht hk hcs hm hfn hge)
      go_ret
      have hE := HK.out.ents.ent _ List.mem_cons_self
      have hfin := HK.out.file (f' := ⟨f.n, f.b, f.b.length⟩) (v' := .slice pv f.b.length cv) (W' := w2.setCell ⟨b, 1, none⟩ (.int .i64 f.b.length)) rfl (by simp) (by
        have := setCell_at (o := 1) (.int .i64 f.b.length) hE.2.1
        simpa using this) (hE.2.2.1.keep fun g hg hl => setCell_ne _ fun e => by
          obtain ⟨cur, hc⟩ := hE.2.2.1.lt g hg
          have h2 := hE.2.1
          simp only at h2
          rw [e, h2] at hc
          cases hc) (fun g hg => .inl hg) fun b' _ hne _ => setCell_ne _ hne
      rw [HB.out] at hfin
      exact Did.then HG.out HT.out ⟨bm, es, ck, _, hfin⟩ (fun b h => h) (Turn.put (Turn.refl _ _) HGE.out)
  · simp only [hh, ne_eq, not_false_eq_true, if_true]
    have HH := Lib.hid hh
    clear h hF hh
    unfold ptr at K38 ⊢
    go_enter Try.func17, Try.ntmps17
    go_wp2_with (go_at_call 38; (refine K38.out.mono ?_); rintro e w2 ⟨v, E, rfl, G2, hG, ht, bm, es, ck, R, hk, hcs⟩; obtain ⟨rfl, rfl⟩ := act_no hcs HH.out; have HG := Lib.hid hG; have HT := Lib.hid ht; have HK := Lib.hid hk; clear hG ht hk hcs)
    go_ret
    exact Did.then HG.out HT.out ⟨bm, es, ck, R, HK.out⟩ (fun b h => .inl h) (Turn.refl _ _)
end Go.Proofs.DK
