/- Proved: what the program's 'put' comes to. Each theorem says its own conditions. -/
import Derived.Test.YteleocgomdhcfaaLb
import Derived.Maps.AppendAt
set_option linter.unusedVariables false
set_option linter.unusedSimpArgs false
namespace Go.Proofs.DK
open Go.RowKit
variable {G G' G'' : Nat → Prop} {bd bm : Nat} {es : Array MapEntry} {ck : Nat} {R R' : List En} {S S' : Ds} {w w2 w3 W W' : World} {e : En}
/-- An append onto a row of one's own. -/
theorem run_app_br {v u : Value} {s bl : List UInt8} (h : BR W v s) (hu : Rd W u bl) (hsz : s.length + bl.length ≤ 4000000) :
    ∃ p c W', (Builtin.append_ #[33, 33] 33 #[v, u]).run Try.prog W = .ok (.slice p (s.length + bl.length) c) W' ∧ BR W' (.slice p (s.length + bl.length) c) (s ++ bl) ∧ W.grownBy W' (rb v) ∧ (rb (.slice p (s.length + bl.length) c) = rb v ∨ rb (.slice p (s.length + bl.length) c) = some W.heap.size) := by
  obtain ⟨i0, hi0, hz0, hz1, hz2⟩ := info_parts info5
  obtain ⟨pu, cu, rfl, hle, hr⟩ := hu
  cases pu with
  | some a =>
    obtain ⟨v', W', hrun, h2, h3, _, h5⟩ := run_append_own_at (P := Try.prog) W 0 33 33 5 i0 _ 1 1 Try.underlying33 hi0 hz0 hz1 hz2 rfl (by omega) v s.length (B s) h a bl.length cu (B bl) (by rw [B_len]; omega) (fun j u hj => by
      unfold B at hj
      rw [List.getElem?_map] at hj
      obtain ⟨x, hx, rfl⟩ := Option.map_eq_some_iff.1 hj
      obtain ⟨b', o', hp', _, hc⟩ := hr j x hx
      cases hp'
      rw [Addr.add_lit]
      exact hc.1) (by simp [B, Value.oneCell']) (by unfold maxLen; omega) (by omega) (Nat.zero_le _)
    obtain ⟨p, c, rfl⟩ := own_slice h2
    refine ⟨p, c, W', hrun, ?_, h3, h5⟩
    unfold BR
    rw [List.length_append, B_app]
    exact h2
  | none =>
    have e : bl = [] := by
      cases bl with
      | nil => rfl
      | cons x xs => obtain ⟨b, o, hp, _⟩ := hr 0 x rfl; cases hp
    subst e
    obtain ⟨p, c, rfl, hle2⟩ := h.form
    refine ⟨p, c, W, run_append_nothing W 33 33 33 5 i0 Try.underlying33 hi0 _ s.length c hle2 _ (Src.ofNil W Try.underlying33 cu), ?_, ⟨rfl, rfl, rfl, Nat.le_refl _, fun _ _ _ => rfl⟩, .inl rfl⟩
    rw [List.append_nil]
    exact h
theorem wpList_app_br {ops : Array Oper} {rest : List Oper} {o : Oper} {a : Act} {W : World} {Q : Exit → Act → World → Prop} (hgd : o.guard = none) (hty : o.type = 33) (s x : Operand)
    (ho : o.op = .call { callee := .builtin .append, args := #[s, x], argTypes := #[33, 33] }) {v u : Value} {sl bl : List UInt8} (hs : a.eval s = v) (hx : a.eval x = u)
    (hown : BR W v sl) (hu : Rd W u bl) (hsz : sl.length + bl.length ≤ 4000000)
    (h : ∀ p c W', BR W' (.slice p (sl.length + bl.length) c) (sl ++ bl) → W.grownBy W' (rb v) → (rb (.slice p (sl.length + bl.length) c) = rb v ∨ rb (.slice p (sl.length + bl.length) c) = some W.heap.size) → wpList Try.prog ops Q rest (a.put o.dst (.slice p (sl.length + bl.length) c)) W') : wpList Try.prog ops Q (o :: rest) a W :=
  wpList_plain hgd fun _ hK => by
    obtain ⟨p, c, W', hrun, h2, h3, h4⟩ := run_app_br hown hu hsz
    unfold Oper.wp execOp
    simp only [ho, hty, resolve, invoke, builtin, Sem.run_bind, Sem.run_pure, Result.andThen_ok, List.map_toArray, List.map_cons, List.map_nil, hs, hx, hrun]
    exact hK _ _ (h p c W' h2 h3 h4)
theorem wi_wi {fs : List Fl} {f f' : Fl} (hs : Srt fs) (hn : f'.n = f.n) : wiF (wiF fs f) f' = wiF fs f' := by
  have h1 : woF (wiF fs f) f'.n = woF fs f'.n := by
    refine ((hs.wi f).wo _).eq_of_perm (hs.wo _) ?_
    have := wo_perm (wi_perm fs f) f'.n
    refine this.trans ?_
    unfold woF
    rw [List.filter_cons, if_neg (by simp [hn]), List.filter_filter, hn]
    simp
  unfold wiF at *
  rw [h1]
/-- The first file's bytes have grown. -/
theorem Dk.grows {f : Fl} {b : Nat} {v : Value} {bl : List UInt8} {p : Option Addr} {l c : Nat} (h : Dk G bd bm es ck (⟨f, b, v⟩ :: R) S W) (hb : BR W' (.slice p l c) (f.b ++ bl)) (hg : W.grownBy W' (rb v)) (hr : rb (.slice p l c) = rb v ∨ rb (.slice p l c) = some W.heap.size) :
    Dk (fun b => G b ∨ W.heap.size ≤ b) bd bm es ck (⟨⟨f.n, f.b ++ bl, f.s⟩, b, .slice p l c⟩ :: R) { S with fs := wiF S.fs ⟨f.n, f.b ++ bl, f.s⟩ } (W'.setCell ⟨b, 0, none⟩ (.slice p l c)) ∧ Turn G W (W'.setCell ⟨b, 0, none⟩ (.slice p l c)) := by
  obtain ⟨h1, h2, h3, h4⟩ := h.ents.ent _ List.mem_cons_self
  simp only at h1 h2 h3 h4
  have hlt := (Array.getElem?_eq_some_iff.1 h2).1
  have hbv : some b ≠ rb v := fun e => by
    obtain ⟨cur, hc⟩ := h3.lt b e.symm
    rw [h2] at hc; cases hc
  have hbn : ∀ g, rb (.slice p l c) = some g → g ≠ b := fun g hg2 e => by
    rcases hr with h5 | h5
    · rw [h5] at hg2; exact hbv (by rw [hg2, e])
    · rw [h5] at hg2; cases hg2; omega
  refine ⟨h.file (f' := ⟨f.n, f.b ++ bl, f.s⟩) (v' := .slice p l c) rfl (by rw [World.size_setCell]; exact hg.size) ?_ (hb.keep fun g hg2 _ => setCell_ne _ (hbn g hg2)) (fun g hg2 => ?_) (fun b' hl hne hn => ?_), Turn.put ?_ h1⟩
  · have := setCell_at (o := 0) (.slice p l c) ((hg.block b hlt hbv).trans h2)
    simpa using this
  · rcases hr with h5 | h5
    · exact .inl (by rw [← h5]; exact hg2)
    · rw [h5] at hg2; cases hg2; exact .inr (Nat.le_refl _)
  · rw [setCell_ne _ hne]
    exact hg.block b' hl (fun e => hn e.symm)
  · exact Turn.grown hg fun g hg2 => h4 g hg2
set_option maxRecDepth 100000 in
set_option maxHeartbeats 1000000 in
theorem c36 (n b : List UInt8) (pb : Option Addr) (cb : Nat) (w : World) (h : D G bd S w) (hbb : Rd w (.slice pb b.length cb) b) (hU : used S.fs ≤ 1000000) (hbl : b.length ≤ 1000000) : Calls Try.prog 36 #[ptr bd, .string (bs n), .slice pb b.length cb] w (Did G bd (.tuple #[]) { S with fs := wiF S.fs ⟨(fileOf S n).n, (fileOf S n).b ++ b, (fileOf S n).s⟩ } w) := by
  obtain ⟨bm, es, ck, R, h⟩ := h
  obtain ⟨y0, y1, y2, y3, y4, y5, y6, yf⟩ := h.cells
  rcases h.look n with ⟨en, j, x, h1, h2, h3, h4, h5, h6, h7⟩ | ⟨h1, h2, h3⟩
  · have hfo : fileOf S n = en.f := by unfold fileOf; rw [h7]; rfl
    rw [hfo]
    have hfu := Nat.le_trans (used_mem (look_some h7).1) hU
    have hl := look_in0 h.map h1
    obtain ⟨R', hk⟩ := h.front h5
    obtain ⟨f, b1, v⟩ := en
    obtain ⟨z0, z1, zf, hge, pv, cv, hsv, hle⟩ := ent_cells hk.ents
    simp only at z0 z1 zf hge hsv hle hfu ⊢
    subst hsv
    have hbr : BR w (.slice pv f.b.length cv) f.b := (hk.ents.ent _ List.mem_cons_self).2.2.1
    have hbn : ∀ (g : Nat), rb (.slice pv f.b.length cv) = some g → g ≠ b1 := fun g hg e => by
      obtain ⟨cur, hc⟩ := hbr.lt g hg
      have h2 := (hk.ents.ent _ List.mem_cons_self).2.1
      simp only at h2
      rw [e, h2] at hc; cases hc
    have hbl1 : b1 < w.heap.size := (Array.getElem?_eq_some_iff.1 (hk.ents.ent _ List.mem_cons_self).2.1).1
    have HK := Lib.hid hk; have HBR := Lib.hid hbr; have HBB := Lib.hid hbb; have HBN := Lib.hid hbn
    have Z0 := Lib.hid z0; have ZF := Lib.hid zf
    unfold ptr at hl ⊢
    clear h h1 h2 h3 h4 h5 h6 h7 hk hbr hbb hU hbn hfo
    go_enter Try.func36, Try.ntmps36
    go_wp2_with (at_builtin; refine wpList_app_br rfl rfl _ _ rfl (by rfl) (by rfl) HBR.out HBB.out (by omega) ?_; intro p3 c3 w3 hb3 hg3 hr3; have z0 := (World.cell?_of_block (a := ⟨b1, 0, none⟩) (hg3.block b1 hbl1 (fun e => HBN.out b1 e.symm rfl))).trans Z0.out; have zf := (fun o => (World.frozen?_of_block (a := ⟨b1, o, none⟩) (hg3.block b1 hbl1 (fun e => HBN.out b1 e.symm rfl))).trans (ZF.out o)); have HB3 := Lib.hid hb3; have HG3 := Lib.hid hg3; have HR3 := Lib.hid hr3; clear hb3 hg3 hr3)
    go_end0
    obtain ⟨r1, r2⟩ := HK.out.grows HB3.out HG3.out HR3.out
    exact ⟨rfl, _, fun b h => h, ⟨bm, es, ck, _, r1⟩, r2⟩
  · have hfo : fileOf S n = ⟨n, [], 0⟩ := by unfold fileOf; rw [h3]; rfl
    rw [hfo]
    have hl := look_out0 h.map h1
    have hB1 : Below w.heap.size w (w.alloc (.cells #[.slice none 0 0, .int .i64 0] 73)) := (Below.refl _ w).alloc (Nat.le_refl _) _
    have h0 := h.keep (W' := w.alloc (.cells #[.slice none 0 0, .int .i64 0] 73)) fun b hb _ => hB1.block b hb
    have hk1 := h0.more (G' := fun b => G b ∨ w.heap.size ≤ b) fun b h => .inl h
    have hnew : (w.alloc (.cells #[.slice none 0 0, .int .i64 0] 73)).heap[w.heap.size]? = some (.cells #[.slice none 0 0, .int .i64 0] 73) := heap_alloc_new w _
    have hE : Ents (fun b => G b ∨ w.heap.size ≤ b) (⟨⟨n, [], 0⟩, w.heap.size, .slice none 0 0⟩ :: R) (w.alloc (.cells #[.slice none 0 0, .int .i64 0] 73)) := by
      refine ⟨fun y hy => ?_, List.pairwise_cons.2 ⟨fun y hy => ⟨fun e => ?_, fun g hg => by cases hg⟩, h0.apart⟩⟩
      · rcases List.mem_cons.1 hy with rfl | hy
        · exact ⟨.inr (Nat.le_refl _), hnew, ⟨rfl, .inl ⟨rfl, rfl⟩⟩, fun g hg => by cases hg⟩
        · exact hk1.ent y hy
      · have := (Array.getElem?_eq_some_iff.1 (h.ent y hy).2.1).1
        simp only at e
        omega
    have hk2 := hk1.come (e' := ⟨⟨n, [], 0⟩, w.heap.size, .slice none 0 0⟩) hE h3
    have hu := put_new (v := ptr w.heap.size) h0.map h1
    have hT2 : Turn G w (setMap (w.alloc (.cells #[.slice none 0 0, .int .i64 0] 73)) bm (.map (es.push { key := .string (bs n), val := ptr w.heap.size, born := ck }) (ck + 1))) := (Turn.of hB1).trans (setMap_turn _ h.gm) fun _ _ h => h
    have hsz2 : (setMap (w.alloc (.cells #[.slice none 0 0, .int .i64 0] 73)) bm (.map (es.push { key := .string (bs n), val := ptr w.heap.size, born := ck }) (ck + 1))).heap.size = w.heap.size + 1 := by rw [setMap_size, World.size_alloc]
    have hrd : Rd (setMap (w.alloc (.cells #[.slice none 0 0, .int .i64 0] 73)) bm (.map (es.push { key := .string (bs n), val := ptr w.heap.size, born := ck }) (ck + 1))) (.slice pb b.length cb) b := by
      obtain ⟨p, c, hv, hle, hr⟩ := hbb
      refine ⟨p, c, hv, hle, fun j x hx => ?_⟩
      obtain ⟨bb, o, hp, hb, hc⟩ := hr j x hx
      refine ⟨bb, o, hp, by omega, ?_⟩
      have hne : bb ≠ bm := fun e => by
        subst e
        have hc := hc.1
        unfold World.cell? at hc
        rw [h.map] at hc
        cases hc
      refine ⟨?_, trivial⟩
      rw [World.cell?_of_block (a := ⟨bb, o + j, none⟩) (setMap_ne _ hne)]
      exact (hB1.cell (p := ⟨bb, o + j, none⟩) hb).trans hc.1
    have hyb : bd < w.heap.size := (Array.getElem?_eq_some_iff.1 h.hd).1
    have y11 := (hB1.cell (p := ⟨bd, 1, none⟩) hyb).trans y1
    simp only at hk2
    unfold ptr at hu hk2 hT2 hsz2 hrd
    obtain ⟨W2, hW2⟩ : ∃ W2, W2 = setMap (w.alloc (.cells #[.slice none 0 0, .int .i64 0] 73)) bm (.map (es.push { key := .string (bs n), val := .pointer (some ⟨w.heap.size, 0, none⟩), born := ck }) (ck + 1)) := ⟨_, rfl⟩
    rw [← hW2] at hu hk2 hT2 hsz2 hrd
    obtain ⟨z0, z1, zf, hge, _⟩ := ent_cells hk2.ents
    simp only at z0 z1 zf hge
    have hbr := (hk2.ents.ent _ List.mem_cons_self).2.2.1
    simp only at hbr
    have hbl1 : w.heap.size < W2.heap.size := by omega
    have HK := Lib.hid hk2; have HBR := Lib.hid hbr; have HBB := Lib.hid hrd; have HT2 := Lib.hid hT2
    have Z0 := Lib.hid z0; have ZF := Lib.hid zf; have HSR := Lib.hid h.srt
    unfold ptr
    clear h h0 h1 h2 h3 hk1 hE hk2 hbr hbb hrd hU hW2 hnew hB1 hT2 hfo
    go_enter Try.func36, Try.ntmps36
    go_wp2_with (at_builtin; refine wpList_app_br rfl rfl _ _ rfl (by rfl) (by rfl) HBR.out HBB.out (by simp; omega) ?_; intro p3 c3 w3 hb3 hg3 hr3; have z0 := (World.cell?_of_block (a := ⟨w.heap.size, 0, none⟩) (hg3.block w.heap.size hbl1 (fun e => by cases e))).trans Z0.out; have zf := (fun o => (World.frozen?_of_block (a := ⟨w.heap.size, o, none⟩) (hg3.block w.heap.size hbl1 (fun e => by cases e))).trans (ZF.out o)); have HB3 := Lib.hid hb3; have HG3 := Lib.hid hg3; have HR3 := Lib.hid hr3; clear hb3 hg3 hr3)
    go_end0
    obtain ⟨r1, r2⟩ := HK.out.grows HB3.out HG3.out HR3.out
    simp only [List.length_nil, Nat.zero_add] at r1 r2
    rw [wi_wi (f := ⟨n, [], 0⟩) (f' := ⟨n, [] ++ b, 0⟩) HSR.out rfl] at r1
    refine ⟨rfl, _, fun b h => ?_, ⟨bm, _, _, _, r1⟩, HT2.out.trans r2 fun b hb h => ?_⟩
    · rcases h with (h | h) | h
      · exact .inl h
      · exact .inr h
      · exact .inr (by omega)
    · rcases h with h | h
      · exact h
      · omega
end Go.Proofs.DK
