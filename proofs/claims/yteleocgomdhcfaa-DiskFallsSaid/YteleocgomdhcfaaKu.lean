/- Proved: what the document's 'Wake' comes to. Each theorem says its own conditions. -/
import Derived.Test.YteleocgomdhcfaaKt
set_option linter.unusedVariables false
set_option linter.unusedSimpArgs false
set_option linter.unusedSectionVars false
namespace Go.Proofs.DK
open Go.RowKit
variable [Okb]
/-- Numbers that can be read. -/
def RdI (W : World) (v : Value) (l : List Int) : Prop := ∃ p c, v = .slice p l.length c ∧ ∀ (j : Nat) (x : Int), l[j]? = some x → ∃ b o, p = some ⟨b, o, none⟩ ∧ b < W.heap.size ∧ W.cell? ⟨b, o + j, none⟩ = some (.int .i64 x)
theorem RdI.mono {W W' : World} {v : Value} {l : List Int} (h : RdI W v l) (hB : Below W.heap.size W W') : RdI W' v l := by
  obtain ⟨p, c, rfl, h⟩ := h
  refine ⟨p, c, rfl, fun j x hx => ?_⟩
  obtain ⟨b, o, hp, hb, hc⟩ := h j x hx
  exact ⟨b, o, hp, Nat.lt_of_lt_of_le hb hB.size, (hB.cell (p := ⟨b, o + j, none⟩) hb).trans hc⟩
theorem wakes_snoc (keep : List Int) : ∀ (i : Nat) (fs : List Fl) (f : Fl), wakes keep i (fs ++ [f]) = wakes keep i fs ++ [{ f with b := f.b.take (keepOf keep (i + fs.length) f), s := keepOf keep (i + fs.length) f }]
  | i, [], f => by simp [wakes]
  | i, g :: fs, f => by
    have e : i + 1 + fs.length = i + (fs.length + 1) := by omega
    simp [wakes, wakes_snoc keep (i + 1) fs f, e]
/-- How many bytes more than the safe ones are kept. -/
def moreOf (keep : List Int) (k : Nat) (f : Fl) : Nat := (max (keep.getD k 0) 0 % ((f.b.length : Int) - f.s + 1)).toNat
theorem keep_more (keep : List Int) (k : Nat) (f : Fl) : keepOf keep k f = f.s + moreOf keep k f := rfl
theorem more_mod {keep : List Int} {k : Nat} {f : Fl} {x : Int} (hf : f.s ≤ f.b.length) (hx : keep[k]? = some x) (h0 : 0 < x) : x.tmod ((f.b.length : Int) - f.s + 1) = moreOf keep k f := by
  unfold moreOf
  have h1 : keep.getD k 0 = x := by simp [List.getD, hx]
  have h2 : max x 0 = x := by omega
  rw [h1, h2, Int.tmod_eq_emod_of_nonneg (by omega), Int.toNat_of_nonneg (Int.emod_nonneg _ (by omega))]
theorem more_none {keep : List Int} {k : Nat} {f : Fl} (hf : f.s ≤ f.b.length) (h : ∀ x, keep[k]? = some x → x ≤ 0) : moreOf keep k f = 0 := by
  unfold moreOf
  have h1 : max (keep.getD k 0) 0 = 0 := by
    cases e : keep[k]? with
    | none => simp [List.getD, e]
    | some x => have := h x e; simp [List.getD, e]; omega
  rw [h1]
  simp
def WkOut (S' : Ds) (w : World) (e : Ending) (w' : World) : Prop := ∃ p c, e = .returned (MV S' (.slice p S'.fs.length c)) ∧ FsAt w' p S'.fs ∧ Below w.heap.size w w'
set_option maxRecDepth 100000 in
set_option maxHeartbeats 4000000 in
theorem c30 (S : Ds) (p : Option Addr) (c : Nat) (keep : List Int) (pk : Option Addr) (ck : Nat) (w : World) (h : FsAt w p S.fs) (hL : S.fs.length ≤ 1000) (hU : used S.fs ≤ 1000000) (hsf : ∀ f ∈ S.fs, f.s ≤ f.b.length) (hk : RdI w (.slice pk keep.length ck) keep) (hkl : keep.length ≤ 1000) : Calls Try.prog 30 #[MV S (.slice p S.fs.length c), .slice pk keep.length ck] w (WkOut (S.wake keep) w) := by
  unfold WkOut Ds.wake
  have HH := Lib.hid h
  obtain ⟨i0, hi0, hz0, hz1, hz2⟩ := info_parts info43
  obtain ⟨room, fs, down, falls, fused, fuse, part⟩ := S
  simp only at h hL hU hsf HH ⊢
  cases down
  · simp only [MV, Bool.false_eq_true, if_false]
    clear h
    go_enter Try.func30, Try.ntmps30
    go_wp2
    refine bodyPost_ret (v := .agg #[.int .i64 room, .slice p fs.length c, .bool false, .int .i64 falls, .bool fused, .int .i64 fuse, .int .i64 part]) (by simp [results, Try.results30, go_sem]) rfl ⟨p, c, rfl, HH.out.mono ?_, ?_⟩
    all_goals exact ((Below.refl _ w).alloc (Nat.le_refl _) _).alloc (by simp) _
  · simp only [if_true]
    have hwl : (wakes keep 0 fs).length = fs.length := wakes_len keep 0 fs
    rw [hwl]
    have HWL := Lib.hid hwl
    clear hwl h
    have HSF := Lib.hid hsf; have HK := Lib.hid hk; have HU := Lib.hid hU
    clear hsf hk hU
    have HA := Lib.hid (W2.below ⟨room, fs, false, falls, fused, fuse, part⟩ (.slice p fs.length c) w)
    have HT := Lib.hid (Two.at ⟨room, fs, false, falls, fused, fuse, part⟩ (.slice p fs.length c) w)
    have hs2 := W2.size ⟨room, fs, false, falls, fused, fuse, part⟩ (.slice p fs.length c) w
    obtain ⟨wb, hwb⟩ : ∃ wb, wb = W2 ⟨room, fs, false, falls, fused, fuse, part⟩ (.slice p fs.length c) w := ⟨_, rfl⟩
    generalize hN : fs.length = k0 at *
    have HN := Lib.hid hN
    clear hN
    simp only [MV]
    go_enter Try.func30, Try.ntmps30
    go_wp2
    go_loopw [5, 18] (fun o i wr => ∃ (k : Nat) (X : List (Fl × Value)), i = .int .i64 k ∧ k ≤ k0 ∧ XAt (w.heap.size + 2) wr o X ∧ (∀ x ∈ X, Rd w x.2 x.1.b) ∧ X.map (·.1) = wakes keep 0 (fs.take k) ∧ Below (w.heap.size + 2) wb wr) (fun _ i _ => k0 - (intOf i).toNat)
    case atStart =>
      refine ⟨0, [], rfl, Nat.zero_le _, ?_, by simp, by simp [wakes], ?_⟩
      · have := own_empty wb (w.heap.size + 2) (by rw [hwb, hs2]; exact Nat.le_refl _)
        rw [hwb, hs2] at this
        exact this
      · rw [hwb]
        exact (Below.refl _ _).alloc (by rw [hs2]; exact Nat.le_refl _) _
    case round =>
      obtain ⟨k, X, rfl, hk, hr, hrd, hX, hB⟩ := hrel
      obtain ⟨po, co, rfl⟩ := own_slice hr
      rw [← hwb] at HA HT hs2
      have hT := HT.out.keep hB
      have hsz := hB.size
      rw [hs2] at hsz
      have hB2 : Below w.heap.size w wr := HA.out.trans (hB.mono (by omega))
      have z0 := cellof hT.a 0; have z1 := cellof hT.a 1; have z2 := cellof hT.a 2; have z3 := cellof hT.a 3; have z4 := cellof hT.a 4; have z5 := cellof hT.a 5; have z6 := cellof hT.a 6
      have u0 := cellof hT.z 0; have u1 := cellof hT.z 1; have u2 := cellof hT.z 2; have u3 := cellof hT.z 3; have u4 := cellof hT.z 4; have u5 := cellof hT.z 5; have u6 := cellof hT.z 6
      have fa := fun o => frozenof hT.a o
      have fz := fun o => frozenof hT.z o
      simp only [List.getElem?_toArray, List.getElem?_cons_zero, List.getElem?_cons_succ] at z0 z1 z2 z3 z4 z5 z6 u0 u1 u2 u3 u4 u5 u6
      have hXl : X.length = k := by
        have h1 := congrArg List.length hX
        rw [List.length_map, wakes_len, List.length_take, HN.out] at h1
        omega
      have hl0 : w.heap.size < wr.heap.size := by omega
      have hn0 : w.heap.size ≠ wr.heap.size := by omega
      by_cases hlt : k < k0
      · obtain ⟨f, hf⟩ : ∃ f, fs[k]? = some f := ⟨_, List.getElem?_eq_getElem (by rw [HN.out]; exact hlt)⟩
        obtain ⟨b, rfl, hb, y0, ⟨v, y1, hv⟩, y2, _⟩ := HH.out k f hf
        have HV := Lib.hid hv
        obtain ⟨pv, cv, rfl, hcap, _⟩ := hv
        have y0 := (hB2.cell (p := ⟨b, _, none⟩) hb).trans y0
        have y1 := (hB2.cell (p := ⟨b, _, none⟩) hb).trans y1
        have y2 := (hB2.cell (p := ⟨b, _, none⟩) hb).trans y2
        have hfs := HSF.out f (List.mem_of_getElem? hf)
        have hfu := Nat.le_trans (used_mem (List.mem_of_getElem? hf)) HU.out
        have hq := (keep_le keep k hfs).2
        rw [keep_more] at hq
        have hws := wakes_snoc keep 0 (fs.take k) f
        rw [← take_succ hf, List.length_take, HN.out, Nat.min_eq_left hk, Nat.zero_add, keep_more] at hws
        have hmm := fun (x : Int) (hx : keep[k]? = some x) (h0 : 0 < x) => more_mod hfs hx h0
        have hm0 : (∀ x, keep[k]? = some x → x ≤ 0) → moreOf keep k f = 0 := fun h => more_none hfs h
        generalize moreOf keep k f = q at *
        have hall : ∀ x ∈ X ++ [({ f with b := f.b.take (f.s + q), s := f.s + q }, .slice pv (f.s + q) cv)], Rd w x.2 x.1.b := fun x hx => by
          rcases List.mem_append.1 hx with hx | hx
          · exact hrd x hx
          · rw [List.mem_singleton.1 hx]; exact HV.out.take hq
        have hws2 : (X ++ [(({ f with b := f.b.take (f.s + q), s := f.s + q } : Fl), Value.slice pv (f.s + q) cv)]).map (·.1) = wakes keep 0 (fs.take (k + 1)) := by
          rw [hws, List.map_append, hX]; rfl
        have HALL := Lib.hid hall; have HWS := Lib.hid hws2
        have HR := Lib.hid hr; have HB := Lib.hid hB; have HMM := Lib.hid hmm; have HM0 := Lib.hid hm0; have HXL := Lib.hid hXl
        have hown := hr
        unfold XAt at hown
        rw [hXl] at hown ⊢
        have hwr1 : IntKind.i64.wrap ((f.b.length : Int) - (f.s : Int)) = (f.b.length : Int) - (f.s : Int) := IntWalk.i64_in _ (by omega)
        have hwr2 : IntKind.i64.wrap ((f.b.length : Int) - (f.s : Int) + 1) = (f.b.length : Int) - (f.s : Int) + 1 := IntWalk.i64_in _ (by omega)
        have hnz : ¬ ((f.b.length : Int) - (f.s : Int) + 1 = 0) := by omega
        have hrow : (Value.slice po k co).ownBlock ≠ some wr.heap.size := fun e => by have := (World.ownsRow.lt hown _ e).2; omega
        clear hr hB hws hrd hX hf hT hB2 hall hws2 hmm hm0 hXl
        rcases Nat.lt_or_ge k keep.length with hkk | hkk
        · obtain ⟨x, hx⟩ : ∃ x, keep[k]? = some x := ⟨_, List.getElem?_eq_getElem hkk⟩
          obtain ⟨pk', ck', hpk, hrk⟩ := HK.out
          cases hpk
          obtain ⟨bk, ok, rfl, hbk, yk⟩ := hrk k x hx
          have hbl : bk < wr.heap.size := by omega
          have hbn : bk ≠ wr.heap.size := by omega
          have yk := ((HA.out.trans (HB.out.mono (by omega))).cell (p := ⟨bk, _, none⟩) hbk).trans yk
          rcases Int.lt_or_le 0 x with h0 | h0
          · have hmd := HMM.out x hx h0
            clear hx hrk
            have v1 : (wr.alloc (.cells #[.string (bs f.n), .slice pv f.b.length cv, .int .i64 f.s] 43)).cell? ⟨wr.heap.size, 1, none⟩ = some (.slice pv f.b.length cv) := cellof (heap_alloc_new _ _) 1
            have v2 : (wr.alloc (.cells #[.string (bs f.n), .slice pv f.b.length cv, .int .i64 f.s] 43)).cell? ⟨wr.heap.size, 2, none⟩ = some (.int .i64 f.s) := cellof (heap_alloc_new _ _) 2
            go_wp2
            go_region_held (fun w' => w'.cell? ⟨bk, ok + k, none⟩ = some (.int .i64 x) ∧ w'.cell? ⟨wr.heap.size, 1, none⟩ = some (.slice pv f.b.length cv) ∧ w'.cell? ⟨wr.heap.size, 2, none⟩ = some (.int .i64 f.s)) (go_keep) (fail)
            all_goals go_wp2_with (at_builtin; refine wpList_append_lies _ (by rfl) _ _ 29 (by rfl) (w.heap.size + 2) 43 i0 _ 3 48 Try.underlying29 hi0 hz0 hz1 hz2 rfl (by omega) _ k (xcells X) (by rfl) (World.ownsRow.alloc (World.ownsRow.alloc hown _) _) ⟨wr.heap.size + 1, 0, none⟩ 1 1 [.string (bs f.n), .slice pv (f.s + q) cv, .int .i64 ((f.s : Int) + (q : Int))] (by rfl) (by rfl) (World.news_of_block (cs := #[.string (bs f.n), .slice pv (f.s + q) cv, .int .i64 ((f.s : Int) + (q : Int))]) (t := 43) (fr := (0, 0)) (heap_two _ _ _)) (by simp [Value.oneCell']) (by omega) (by unfold maxLen; omega) (by omega) (by simp; omega) (wr.heap.size + 1 + 1) (by simp) ?_; intro gg cap w4 hown4 hgrow hat hlt4; have HO4 := Lib.hid hown4; have HG4 := Lib.hid hgrow; clear hown4 hgrow)
            all_goals go_roundw
            all_goals first
              | (simp [intOf]; omega)
              | (refine ⟨k + 1, X ++ [({ f with b := f.b.take (f.s + q), s := f.s + q }, .slice pv (f.s + q) cv)], by go_num, by omega, ?_, HALL.out, HWS.out, ?_⟩
                 · unfold XAt
                   rw [xcells_snoc, List.length_append, HXL.out]
                   show w4.ownsRow _ 43 3 _ (k + 1) (xcells X ++ [.string (bs f.n), .slice pv (f.s + q) cv, .int .i64 ((f.s + q : Nat) : Int)])
                   rw [Int.natCast_add]
                   exact HO4.out
                 · refine ((HB.out.alloc (by omega) (.cells #[.string (bs f.n), .slice pv (f.s + q) cv, .int .i64 ((f.s : Int) + (q : Int))] 43)).alloc (by simp; omega) (.cells #[.string (bs f.n), .slice pv (f.s + q) cv, .int .i64 ((f.s : Int) + (q : Int))] 43)).grown (row := (Value.slice po k co).ownBlock) (by first | exact HG4.out | exact grown_drew HG4.out) (by simp; omega) fun kk e => (World.ownsRow.lt hown kk e).1)
          · have hq0 := HM0.out (fun y hy => by rw [hx] at hy; cases hy; exact h0)
            subst hq0
            clear hx hrk
            go_wp2_with (at_builtin; refine wpList_append_lies _ (by rfl) _ _ 29 (by rfl) (w.heap.size + 2) 43 i0 _ 3 48 Try.underlying29 hi0 hz0 hz1 hz2 rfl (by omega) _ k (xcells X) (by rfl) (World.ownsRow.alloc (World.ownsRow.alloc hown _) _) ⟨wr.heap.size + 1, 0, none⟩ 1 1 [.string (bs f.n), .slice pv f.s cv, .int .i64 f.s] (by rfl) (by rfl) (World.news_of_block (cs := #[.string (bs f.n), .slice pv f.s cv, .int .i64 f.s]) (t := 43) (fr := (0, 0)) (heap_two _ _ _)) (by simp [Value.oneCell']) (by omega) (by unfold maxLen; omega) (by omega) (by simp; omega) (wr.heap.size + 1 + 1) (by simp) ?_; intro gg cap w4 hown4 hgrow hat hlt4; have HO4 := Lib.hid hown4; have HG4 := Lib.hid hgrow; clear hown4 hgrow)
            all_goals go_roundw
            all_goals first
              | (simp [intOf]; omega)
              | (refine ⟨k + 1, X ++ [({ f with b := f.b.take (f.s + 0), s := f.s + 0 }, .slice pv (f.s + 0) cv)], by go_num, by omega, ?_, HALL.out, HWS.out, ?_⟩
                 · unfold XAt
                   rw [xcells_snoc, List.length_append, HXL.out]
                   show w4.ownsRow _ 43 3 _ (k + 1) (xcells X ++ [.string (bs f.n), .slice pv (f.s + 0) cv, .int .i64 ((f.s + 0 : Nat) : Int)])
                   exact HO4.out
                 · refine ((HB.out.alloc (by omega) (.cells #[.string (bs f.n), .slice pv (f.s + 0) cv, .int .i64 (f.s)] 43)).alloc (by simp; omega) (.cells #[.string (bs f.n), .slice pv (f.s + 0) cv, .int .i64 (f.s)] 43)).grown (row := (Value.slice po k co).ownBlock) (by first | exact HG4.out | exact grown_drew HG4.out) (by simp; omega) fun kk e => (World.ownsRow.lt hown kk e).1)
        · have hq0 := HM0.out (fun y hy => by have := (List.getElem?_eq_some_iff.1 hy).1; omega)
          subst hq0
          go_wp2_with (at_builtin; refine wpList_append_lies _ (by rfl) _ _ 29 (by rfl) (w.heap.size + 2) 43 i0 _ 3 48 Try.underlying29 hi0 hz0 hz1 hz2 rfl (by omega) _ k (xcells X) (by rfl) (World.ownsRow.alloc (World.ownsRow.alloc hown _) _) ⟨wr.heap.size + 1, 0, none⟩ 1 1 [.string (bs f.n), .slice pv f.s cv, .int .i64 f.s] (by rfl) (by rfl) (World.news_of_block (cs := #[.string (bs f.n), .slice pv f.s cv, .int .i64 f.s]) (t := 43) (fr := (0, 0)) (heap_two _ _ _)) (by simp [Value.oneCell']) (by omega) (by unfold maxLen; omega) (by omega) (by simp; omega) (wr.heap.size + 1 + 1) (by simp) ?_; intro gg cap w4 hown4 hgrow hat hlt4; have HO4 := Lib.hid hown4; have HG4 := Lib.hid hgrow; clear hown4 hgrow)
          all_goals go_roundw
          all_goals first
            | (simp [intOf]; omega)
            | (refine ⟨k + 1, X ++ [({ f with b := f.b.take (f.s + 0), s := f.s + 0 }, .slice pv (f.s + 0) cv)], by go_num, by omega, ?_, HALL.out, HWS.out, ?_⟩
               · unfold XAt
                 rw [xcells_snoc, List.length_append, HXL.out]
                 show w4.ownsRow _ 43 3 _ (k + 1) (xcells X ++ [.string (bs f.n), .slice pv (f.s + 0) cv, .int .i64 ((f.s + 0 : Nat) : Int)])
                 exact HO4.out
               · refine ((HB.out.alloc (by omega) (.cells #[.string (bs f.n), .slice pv (f.s + 0) cv, .int .i64 (f.s)] 43)).alloc (by simp; omega) (.cells #[.string (bs f.n), .slice pv (f.s + 0) cv, .int .i64 (f.s)] 43)).grown (row := (Value.slice po k co).ownBlock) (by first | exact HG4.out | exact grown_drew HG4.out) (by simp; omega) fun kk e => (World.ownsRow.lt hown kk e).1)
      · have hkn : k = k0 := by omega
        subst hkn
        have hall : fs.take k = fs := List.take_of_length_le (by rw [HN.out]; exact Nat.le_refl _)
        rw [hall] at hX
        have HR := Lib.hid hr; have HRD := Lib.hid hrd; have HX := Lib.hid hX; have HB := Lib.hid hB2; have HXL := Lib.hid hXl
        clear hr hrd hX hB hB2 hT
        rw [hXl]
        rw [hXl] at HR
        clear hXl
        go_wp2
        refine bodyPost_ret (v := .agg #[.int .i64 room, .slice po k co, .bool false, .int .i64 falls, .bool fused, .int .i64 fuse, .int .i64 part]) (by simp [results, Try.results30, go_sem, u0, u1, u2, u3, u4, u5, u6]) rfl ⟨po, co, rfl, ?_, ?_⟩
        · rw [← HX.out]
          refine XAt.out (w := w) (l := k) (c := co) ?_ HRD.out ?_
          · repeat refine ownsRow_setCell_below ?_ (by simp <;> omega) _
            exact HR.out
          · repeat refine Below.setCell ?_ (by simp <;> omega) _
            exact HB.out
        · repeat refine Below.setCell ?_ (by simp <;> omega) _
          exact HB.out
end Go.Proofs.DK
