/- Proved: what clones, reads and the beginnings of acts come to. Each theorem says its own conditions. -/
import Derived.Test.YteleocgomdhcfaaKw
import Derived.Lib.SliceRun
set_option linter.unusedVariables false
set_option linter.unusedSimpArgs false
namespace Go.Proofs.DK
open Go.RowKit
variable {G : Nat → Prop} {bd bm : Nat} {es : Array MapEntry} {ck : Nat} {R : List En} {S : Ds} {W W' w : World}
theorem eq33 (w : World) (a : Option Addr) (n c n' c' : Nat) : (binOp .eql 33 (.slice a n c) (.slice none n' c')).run Try.prog w = .ok (.bool a.isNone) w := Lib.run_eql_slice_nil w _ _ a n c n' c' Try.underlying33
/-- A copy of bytes. -/
def Copied (s : List UInt8) (w : World) (v : Value) (w' : World) : Prop := BR w' v s ∧ (∀ g, rb v = some g → w.heap.size ≤ g) ∧ Below w.heap.size w w' ∧ ∃ p c, v = .slice p s.length c
set_option maxHeartbeats 1000000 in
theorem c37 (s : List UInt8) (p : Option Addr) (l c : Nat) (w : World) (h : Rd w (.slice p l c) s) (hs : s.length ≤ 4000000) : Calls Try.prog 37 #[.slice p l c] w fun e w' => ∃ v, e = .returned v ∧ Copied s w v w' := by
  have heq := eq33
  have hl : l = s.length := by obtain ⟨p', c', hv, _⟩ := h; cases hv; rfl
  cases p with
  | none =>
    have e : s = [] := by
      obtain ⟨p', c', hv, _, h⟩ := h
      cases hv
      cases s with
      | nil => rfl
      | cons x xs => obtain ⟨b, o, hp, _⟩ := h 0 x rfl; cases hp
    subst e
    clear h
    go_enter Try.func37, Try.ntmps37
    go_wp2
    go_ret
    exact ⟨.slice none 0 0, rfl, ⟨rfl, .inl ⟨rfl, rfl⟩⟩, fun g hg => by simp [rb, Value.ownBlock] at hg, Below.refl _ _, none, 0, rfl⟩
  | some a =>
    have HR := Lib.hid (h.mono ((Below.refl w.heap.size w).alloc (Nat.le_refl _) (.cells #[] 5)))
    clear h
    go_enter Try.func37, Try.ntmps37
    go_wp2_with (at_builtin; refine wpList_app_rd rfl rfl _ _ rfl s.length (by simp) (by rfl) (by rfl) (own_empty5 w w.heap.size (Nat.le_refl _)) (by simp) (bl := s) HR.out (by simp; omega) ?_; intro g7 c7 w7 ho7 hgr7; have hB7 : Below w.heap.size w w7 := grown_below ((Below.refl w.heap.size w).alloc (Nat.le_refl _) _) (by simp) (Nat.le_refl _) hgr7; have HO7 := Lib.hid ho7; have HB7 := Lib.hid hB7; clear ho7 hgr7 hB7)
    go_ret
    have ho := HO7.out
    simp only [List.nil_append] at ho
    exact ⟨_, rfl, BR.own ho, fun g hg => (own_rd ho fun _ _ => trivial).2.2 g hg, HB7.out, _, _, rfl⟩
/-- A file's bytes, or why there are none. -/
def ReadOut (S : Ds) (n : List UInt8) (w : World) (e : Ending) (w' : World) : Prop := Below w.heap.size w w' ∧ ((S.down = true ∧ e = .returned (.tuple #[.slice none 0 0, .int .i64 9])) ∨ (S.down = false ∧ lookF S.fs n = none ∧ e = .returned (.tuple #[.slice none 0 0, .int .i64 8])) ∨ ∃ f p c, S.down = false ∧ lookF S.fs n = some f ∧ e = .returned (.tuple #[.slice p f.b.length c, .int .i64 0]) ∧ Rd w' (.slice p f.b.length c) f.b)
set_option maxHeartbeats 1000000 in
theorem c14 (n : List UInt8) (w : World) (h : D G bd S w) (hU : ∀ f ∈ S.fs, f.b.length ≤ 1000000) : Calls Try.prog 14 #[ptr bd, .string (bs n)] w (ReadOut S n w) := by
  have K11 := Lib.hid (c11 w h)
  obtain ⟨bm, es, ck, R, h⟩ := h
  obtain ⟨y0, y1, y2, y3, y4, y5, y6, yf⟩ := h.cells
  unfold ptr at K11 ⊢
  cases hd : S.down
  · rw [hd] at y2 K11
    rcases h.look n with ⟨e, j, x, h1, h2, h3, h4, h5, h6, h7⟩ | ⟨h1, h2, h3⟩
    · have hl := look_in h.map h1
      obtain ⟨_, h8, h9, _⟩ := h.ent e h5
      obtain ⟨p, c, hv⟩ := rd_slice _ _ _ h9.rd
      have z0 := cellof h8 0
      simp only [List.getElem?_toArray, List.getElem?_cons_zero, List.getElem?_cons_succ] at z0
      have hr := h9.rd
      rw [hv] at z0 hr
      have K37 := Lib.hid (c37 e.f.b p _ c w hr (Nat.le_trans (hU e.f (h.perm.mem_iff.1 (List.mem_map.2 ⟨e, h5, rfl⟩))) (by decide)))
      have HL := Lib.hid h7; have HD := Lib.hid hd
      unfold ptr at hl
      clear h h1 h2 h3 h4 h5 h6 h7 h8 h9 hr hv hU hd
      go_enter Try.func14, Try.ntmps14
      go_wp2_with (first
        | (go_at_call 37; (refine K37.out.mono ?_); rintro e w2 ⟨v2, rfl, hb2, hn2, hB2, p2, c2, rfl⟩; have HB2 := Lib.hid hB2; have HR2 := Lib.hid hb2.rd; clear hb2 hn2 hB2)
        | (go_at_call 11; (refine K11.out.mono ?_); rintro e w1 ⟨rfl, rfl⟩))
      go_ret2
      exact ⟨HB2.out, .inr (.inr ⟨_, _, _, HD.out, HL.out, rfl, HR2.out⟩)⟩
    · have hl := look_out h.map h1
      have HL := Lib.hid h3; have HD := Lib.hid hd
      clear h h1 h2 h3 hU hd
      go_enter Try.func14, Try.ntmps14
      go_wp2_with (go_at_call 11; (refine K11.out.mono ?_); rintro e w1 ⟨rfl, rfl⟩)
      go_ret2
      exact ⟨Below.refl _ _, .inr (.inl ⟨HD.out, HL.out, rfl⟩)⟩
  · rw [hd] at y2 K11
    have HD := Lib.hid hd
    clear h hU hd
    go_enter Try.func14, Try.ntmps14
    go_wp2_with (go_at_call 11; (refine K11.out.mono ?_); rintro e w1 ⟨rfl, rfl⟩)
    go_ret2
    exact ⟨Below.refl _ _, .inl ⟨HD.out, rfl⟩⟩
/-- How an act on a file begins. -/
def ActOut (G : Nat → Prop) (bd : Nat) (S : Ds) (n : List UInt8) (w : World) (e : Ending) (w' : World) : Prop := ∃ v E, e = .returned (.tuple #[v, .int .i64 E]) ∧ ∃ G' : Nat → Prop, (∀ b, G' b → G b ∨ w.heap.size ≤ b) ∧ Turn G w w' ∧ ∃ bm es ck R, Dk G' bd bm es ck R S.begin w' ∧ ((S.how ≠ 0 ∧ v = .pointer none ∧ E = 9) ∨ (S.how = 0 ∧ lookF S.fs n = none ∧ v = .pointer none ∧ E = 8) ∨ (S.how = 0 ∧ ∃ en, en ∈ R ∧ en.f.n = n ∧ lookF S.fs n = some en.f ∧ v = ptr en.b ∧ E = 0))
set_option maxHeartbeats 1000000 in
theorem c38 (n : List UInt8) (w : World) (h : D G bd S w) (hF : Fine S) : Calls Try.prog 38 #[ptr bd, .string (bs n)] w (ActOut G bd S n w) := by
  have K11 := Lib.hid (c11 w h)
  have HD := Lib.hid h
  cases hd : S.down
  · have K34 := Lib.hid (c34 w h hd hF.f0 hF.f1 hF.f2 hF.f3)
    rw [hd] at K11
    by_cases hh : S.how = 1
    · rw [hh] at K34
      have HH1 := Lib.hid hh
      unfold ptr at *
      clear h hF hd hh
      go_enter Try.func38, Try.ntmps38
      go_wp2_with (first
        | (go_at_call 11; (refine K11.out.mono ?_); rintro e w1 ⟨rfl, rfl⟩)
        | (go_at_call 34; (refine K34.out.mono ?_); rintro e w2 ⟨rfl, hr⟩; have HR := Lib.hid hr; clear hr))
      go_ret2
      obtain ⟨G', hG, ⟨bm, es, ck, R, hk⟩, ht⟩ := HR.out
      exact ⟨_, _, rfl, G', hG, ht, bm, es, ck, R, hk, .inl ⟨by have := HH1.out; omega, rfl, rfl⟩⟩
    · have h0 : S.how = 0 := by
        rcases how_cases S with ⟨_, e⟩ | ⟨e, _⟩ | ⟨e, _⟩
        · rw [hd] at e; cases e
        · exact absurd e hh
        · exact e
      rw [h0] at K34
      have HH0 := Lib.hid h0
      have hfs := begin_fs S
      have HFS := Lib.hid hfs
      cases hlk : lookF S.fs n with
      | none =>
        have HLK := Lib.hid hlk
        unfold ptr at *
        clear h hF hd hh h0 hfs hlk
        go_enter Try.func38, Try.ntmps38
        go_wp2_with (first
          | (go_at_call 11; (refine K11.out.mono ?_); rintro e w1 ⟨rfl, rfl⟩)
          | (go_at_call 34; (refine K34.out.mono ?_); rintro e w2 ⟨rfl, G', hG, ⟨bm, es, ck, R, hk⟩, ht⟩; obtain ⟨y0, y1, y2, y3, y4, y5, y6, yf⟩ := hk.cells; have hl : (Instr.lookup 54 (.map (some bm)) (.string (bs n)) true).run Try.prog w2 = .ok (.tuple #[.pointer none, .bool false]) w2 := (look_out hk.map (by rcases hk.look n with ⟨_, _, _, _, _, _, _, _, _, h7⟩ | ⟨h1, _⟩; rw [HFS.out, HLK.out] at h7; cases h7; exact h1)); have HK := Lib.hid hk; have HG := Lib.hid hG; have HT := Lib.hid ht; clear hk hG ht))
        go_ret2
        exact ⟨_, _, rfl, G', HG.out, HT.out, bm, es, ck, R, HK.out, .inr (.inl ⟨HH0.out, HLK.out, rfl, rfl⟩)⟩
      | some f =>
        have HLK := Lib.hid hlk
        unfold ptr at *
        clear h hF hd hh h0 hfs hlk
        go_enter Try.func38, Try.ntmps38
        go_wp2_with (first
          | (go_at_call 11; (refine K11.out.mono ?_); rintro e w1 ⟨rfl, rfl⟩)
          | (go_at_call 34; (refine K34.out.mono ?_); rintro e w2 ⟨rfl, G', hG, ⟨bm, es, ck, R, hk⟩, ht⟩; obtain ⟨y0, y1, y2, y3, y4, y5, y6, yf⟩ := hk.cells; have hlo : ∃ en j, Instr.findNow .string (.string (bs n)) es.toList 0 = some (some (j, ptr en.b)) ∧ en ∈ R ∧ en.f.n = n ∧ f = en.f := (by rcases hk.look n with ⟨en, j, _, h1, _, _, _, h5, h6, h7⟩ | ⟨_, _, h7⟩; rw [HFS.out, HLK.out] at h7; exact ⟨en, j, h1, h5, h6, Option.some.inj h7⟩; rw [HFS.out, HLK.out] at h7; cases h7); obtain ⟨en, j, hf1, hf2, hf3, hf4⟩ := hlo; have hl := look_in hk.map hf1; unfold ptr at hl; have HF2 := Lib.hid hf2; have HF3 := Lib.hid hf3; have HF4 := Lib.hid hf4; have HK := Lib.hid hk; have HG := Lib.hid hG; have HT := Lib.hid ht; clear hk hG ht hf1 hf2 hf3 hf4))
        go_ret2
        exact ⟨_, _, rfl, G', HG.out, HT.out, bm, es, ck, R, HK.out, .inr (.inr ⟨HH0.out, en, HF2.out, HF3.out, by rw [HLK.out, HF4.out], rfl, rfl⟩)⟩
  · rw [hd] at K11
    have h2 : S.how = 2 := by unfold Ds.how; rw [if_pos hd]
    have eb : S.begin = S := begin_down h2
    have HB := Lib.hid eb; have HH2 := Lib.hid h2
    unfold ptr at *
    clear h hF hd h2 eb
    go_enter Try.func38, Try.ntmps38
    go_wp2_with (go_at_call 11; (refine K11.out.mono ?_); rintro e w1 ⟨rfl, rfl⟩)
    go_ret2
    obtain ⟨bm, es, ck, R, hk⟩ := HD.out
    exact ⟨_, _, rfl, G, fun b h => .inl h, Turn.refl _ _, bm, es, ck, R, by rw [HB.out]; exact hk, .inl ⟨by have := HH2.out; omega, rfl, rfl⟩⟩
end Go.Proofs.DK
