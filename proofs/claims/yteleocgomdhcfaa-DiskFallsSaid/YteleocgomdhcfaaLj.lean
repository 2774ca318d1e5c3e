/- Proved: what the program's 'Wake' comes to. Each theorem says its own conditions. -/
import Derived.Test.YteleocgomdhcfaaLi
set_option linter.unusedVariables false
set_option linter.unusedSimpArgs false
namespace Go.Proofs.DK
open Go.RowKit
variable {G : Nat → Prop} {bd bm : Nat} {es : Array MapEntry} {ck : Nat} {R : List En} {S : Ds} {w W W' : World}
set_option maxRecDepth 100000 in
set_option maxHeartbeats 1000000 in
theorem c13 (keep : List Int) (pk : Option Addr) (cpk : Nat) (w : World) (h : D G bd S w) (hk : ∀ W : World, (∀ b, b < w.heap.size → ¬ G b → W.heap[b]? = w.heap[b]?) → w.heap.size ≤ W.heap.size → RdI W (.slice pk keep.length cpk) keep) (hkl : keep.length ≤ 1000) (hsf : ∀ f ∈ S.fs, f.s ≤ f.b.length) (hN : ∀ f ∈ S.fs, f.n.length ≤ 1000000) (hmany : S.fs.length ≤ 1000) (hU : used S.fs ≤ 1000000) : Calls Try.prog 13 #[ptr bd, .slice pk keep.length cpk] w (Did G bd (.tuple #[]) (S.wake keep) w) := by
  unfold Ds.wake
  cases hd : S.down
  · simp only [Bool.false_eq_true, if_false]
    have HD := Lib.hid h
    obtain ⟨bm, es, ck, R, h⟩ := h
    obtain ⟨y0, y1, y2, y3, y4, y5, y6, yf⟩ := h.cells
    rw [hd] at y2
    unfold ptr
    clear h hk hsf hN
    go_enter Try.func13, Try.ntmps13
    go_wp2
    go_end0
    exact Did.same HD.out
  · simp only [if_true]
    have hT := h.trim
    obtain ⟨bm, es, ck, R, h0⟩ := hT
    obtain ⟨y0, y1, y2, y3, y4, y5, y6, yf⟩ := h0.cells
    have h1 : Dk (fun b => G b ∧ b < w.heap.size) bd bm es ck R { S with down := false } (w.setCell ⟨bd, 2, none⟩ (.bool false)) := h0.head rfl (by
      have := setCell_at (o := 2) (.bool false) h0.hd
      simp only [List.setIfInBounds_toArray, List.set_cons_zero, List.set_cons_succ] at this
      exact this) fun b hb => setCell_ne _ hb
    have hs1 : (w.setCell ⟨bd, 2, none⟩ (.bool false)).heap.size = w.heap.size := World.size_setCell _ _ _
    have K9 := Lib.hid (c9 (S := { S with down := false }) (w.setCell ⟨bd, 2, none⟩ (.bool false)) ⟨bm, es, ck, R, h1⟩ hN hmany)
    have hT1 : Turn (fun b => G b ∧ b < w.heap.size) w (w.setCell ⟨bd, 2, none⟩ (.bool false)) := Turn.put (Turn.refl _ _) h0.gd
    have HD1 := Lib.hid (show D (fun b => G b ∧ b < w.heap.size) bd { S with down := false } (w.setCell ⟨bd, 2, none⟩ (.bool false)) from ⟨bm, es, ck, R, h1⟩)
    have HT1 := Lib.hid hT1; have HS1 := Lib.hid hs1
    have HK := Lib.hid hk; have HSF := Lib.hid hsf; have HSR := Lib.hid h0.srt
    have hbd : bd < w.heap.size := (Array.getElem?_eq_some_iff.1 h0.hd).1
    rw [hd] at y2
    unfold ptr at K9 ⊢
    unfold ListOut at K9
    clear h hk hsf hN h0 h1 hs1 hT1
    simp only at K9
    generalize hN0 : S.fs.length = n0 at *
    have HN0 := Lib.hid hN0
    clear hN0
    go_enter Try.func13, Try.ntmps13
    go_wp2_with (go_at_call 9; (refine K9.out.mono ?_); rintro e w2 ⟨p2, c2, rfl, hrow, hB2⟩; have hs2 := hB2.size; rw [HS1.out] at hs2; have HROW := Lib.hid hrow; have HB2 := Lib.hid hB2; have HD2 := Lib.hid (HD1.out.below hB2); clear hrow hB2)
    go_loopw [23] (fun i wr => ∃ k : Nat, i = .int .i64 k ∧ k ≤ n0 ∧ D (fun b => (G b ∧ b < w.heap.size) ∨ w2.heap.size ≤ b) bd { S with down := false, fs := mid keep S.fs k } wr ∧ Turn (fun b => (G b ∧ b < w.heap.size) ∨ w2.heap.size ≤ b) w2 wr) (fun i _ => n0 - (intOf i).toNat)
    case atStart => exact ⟨0, rfl, Nat.zero_le _, by rw [mid_zero]; exact HD2.out.more fun b h => .inl h, Turn.refl _ _⟩
    case round =>
      obtain ⟨k, rfl, hkn, hdk, hTr⟩ := hrel
      have hsr := hTr.size
      by_cases hlt : k < n0
      · obtain ⟨f, hf⟩ : ∃ f, S.fs[k]? = some f := ⟨_, List.getElem?_eq_getElem (by rw [HN0.out]; exact hlt)⟩
        obtain ⟨bm, es, ck, R, hd0⟩ := hdk
        have hfs := HSF.out f (List.mem_of_getElem? hf)
        have hfu := Nat.le_trans (used_mem (List.mem_of_getElem? hf)) hU
        have hfin : f ∈ mid keep S.fs k := by rw [mid_at hf]; simp
        have hlk := (mid_srt (keep := keep) (k := k) HSR.out).look hfin
        obtain ⟨b, sv, hm⟩ : ∃ b sv, (⟨f, b, sv⟩ : En) ∈ R := by
          obtain ⟨e, he, h1⟩ := List.mem_map.1 (hd0.perm.mem_iff.2 hfin)
          exact ⟨e.b, e.v, by rw [← h1]; exact he⟩
        obtain ⟨R', hd1⟩ := hd0.front hm
        obtain ⟨j, x0, hf1, _, _, _⟩ := hd1.at
        have hl := look_in0 hd1.map hf1
        obtain ⟨y0, y1, y2, y3, y4, y5, y6, yf⟩ := hd1.cells
        obtain ⟨z0, z1, zf, hge, pv, cv, hsv, hle⟩ := ent_cells hd1.ents
        simp only at hl z0 z1 zf hge hsv hle
        subst hsv
        have hent := hd1.ents.ent _ List.mem_cons_self
        simp only at hent
        obtain ⟨g, hg, hgw, hgl, hn⟩ : ∃ g, p2 = some ⟨g, 0, none⟩ ∧ w.heap.size ≤ g ∧ g < w2.heap.size ∧ w2.cell? ⟨g, k, none⟩ = some (.string (bs f.n)) := by
          have hr := HROW.out
          have hr' := hr
          rcases hr.2 with ⟨_, e⟩ | ⟨g, cap, cur, hv, h1, h2, _⟩
          · omega
          · cases hv
            refine ⟨g, rfl, by rw [HS1.out] at h1; exact h1, (Array.getElem?_eq_some_iff.1 h2).1, ?_⟩
            have := World.ownsRow.cells hr' (g := g) rfl k (.string (bs f.n)) (by rw [List.getElem?_map, hf]; rfl)
            rwa [Addr.add_lit, Nat.zero_add] at this
        subst hg
        have hn := (World.cell?_of_block (a := ⟨g, k, none⟩) (hTr.block g hgl (fun h => by rcases h with h | h; exact absurd h.2 (by omega); omega))).trans hn
        have hq := (keep_le keep k hfs).2
        rw [keep_more] at hq
        have hms := mid_succ (keep := keep) HSR.out hf
        have hmx := fun (x : Int) (hx : keep[k]? = some x) => more_max hfs hx
        have hm0 : keep.length ≤ k → moreOf keep k f = 0 := fun h => more_none (keep := keep) (k := k) hfs fun y hy => by have := (List.getElem?_eq_some_iff.1 hy).1; omega
        have HD := Lib.hid hd1; have HTR := Lib.hid hTr; have HENT := Lib.hid hent; have HMS := Lib.hid hms; have HMX := Lib.hid hmx; have HM0 := Lib.hid hm0; have HGE := Lib.hid hge
        have Z0 := Lib.hid z0; have Z1 := Lib.hid z1; have ZF := Lib.hid zf
        have hwr1 : IntKind.i64.wrap ((f.b.length : Int) - (f.s : Int)) = (f.b.length : Int) - (f.s : Int) := IntWalk.i64_in _ (by omega)
        have hwr2 : IntKind.i64.wrap ((f.b.length : Int) - (f.s : Int) + 1) = (f.b.length : Int) - (f.s : Int) + 1 := IntWalk.i64_in _ (by omega)
        have hnz : ¬ ((f.b.length : Int) - (f.s : Int) + 1 = 0) := by omega
        unfold ptr at hl
        clear hd0 hd1 hTr hent hms hmx hm0 hge hf1 hlk hfin hm
        generalize moreOf keep k f = q at *
        rcases Nat.lt_or_ge k keep.length with hkk | hkk
        · obtain ⟨x, hx⟩ : ∃ x, keep[k]? = some x := ⟨_, List.getElem?_eq_getElem hkk⟩
          have hmd := HMX.out x hx
          obtain ⟨pk', ck', hpk, hrk⟩ := HK.out wr (fun b hb hnb => (HTR.out.block b (by omega) (fun h => by rcases h with h | h; exact hnb h.1; omega)).trans ((HB2.out.block b (by rw [HS1.out]; exact hb)).trans (HT1.out.block b hb (fun h => hnb h.1)))) (by omega)
          cases hpk
          obtain ⟨bk, ok, rfl, hbk, yk⟩ := hrk k x hx
          clear hx hrk
          go_wp2
          go_region_held (fun w' => w'.cell? ⟨bk, ok + k, none⟩ = some (.int .i64 x) ∧ w'.cell? ⟨b, 0, none⟩ = some (.slice pv f.b.length cv) ∧ w'.cell? ⟨b, 1, none⟩ = some (.int .i64 f.s)) (go_keep) (fail)
          go_wp2
          obtain ⟨w5, hw5⟩ : ∃ w5, w5 = (wr.setCell ⟨b, 1, none⟩ (.int .i64 ((f.s : Int) + (q : Int)))).drew := ⟨_, rfl⟩
          have hb5 : w5.heap[b]? = some (.cells #[.slice pv f.b.length cv, .int .i64 ((f.s : Int) + (q : Int))] 73) := by
            have := setCell_at (o := 1) (.int .i64 ((f.s : Int) + (q : Int))) HENT.out.2.1
            simp only [List.setIfInBounds_toArray, List.set_cons_zero, List.set_cons_succ] at this
            rw [hw5]
            exact this
          have hk5 : ∀ b', b' ≠ b → w5.heap[b']? = wr.heap[b']? := fun b' hb' => by
            rw [hw5]
            exact setCell_ne _ hb'
          have hz5 : w5.heap.size = wr.heap.size := by
            rw [hw5]
            exact World.size_setCell _ _ _
          have hT5 : Turn (fun b => (G b ∧ b < w.heap.size) ∨ w2.heap.size ≤ b) wr w5 := by
            rw [hw5]
            exact (Turn.put (Turn.refl _ _) HGE.out).drew
          have hrb : ∀ g', rb (.slice pv f.b.length cv) = some g' → g' ≠ b := fun g' hg' e => by
            obtain ⟨cur, hc⟩ := HENT.out.2.2.1.lt g' hg'
            rw [e, HENT.out.2.1] at hc; cases hc
          have hr5 : Rd w5.drew (.slice pv f.b.length cv) f.b := (HENT.out.2.2.1.keep fun g' hg' _ => hk5 g' (hrb g' hg')).rd
          have hbl5 : b < w5.drew.heap.size := (Array.getElem?_eq_some_iff.1 hb5).1
          have K37 := Lib.hid (c37 (f.b.take (f.s + q)) pv (f.s + q) cv w5.drew (hr5.take hq) (by rw [List.length_take]; omega))
          have hlen : (f.b.take (f.s + q)).length = f.s + q := by rw [List.length_take]; omega
          rw [← hw5]
          clear hw5 z0 z1 zf hr5
          have z0 := cellof hb5 0; have z1 := cellof hb5 1; have zf := fun o => frozenof hb5 o
          simp only [List.getElem?_toArray, List.getElem?_cons_zero, List.getElem?_cons_succ] at z0 z1
          have Z0 := Lib.hid z0; have Z1 := Lib.hid z1; have ZF := Lib.hid zf
          have hif : 0 ≤ (f.s : Int) + (q : Int) ∧ (f.s : Int) + (q : Int) ≤ (cv : Int) := by omega
          have htn : ((f.s : Int) + (q : Int)).toNat = f.s + q := by omega
          refine wp_region_held_drew (S := (fun w' => w'.cell? ⟨b, 1, none⟩ = some (.int .i64 ((f.s : Int) + (q : Int))))) (by kernel_rfl) ?_ (fun hHeld => ?_)
          · (try dsimp only)
            go_keep
          refine wpAnyH_take (i := 0) (oi := { dst := some 63, op := Op.move (Operand.tmp 6), type := 69, pos := "disk.go:228", after := #[], guard := none }) (v := ?_) rfl (by kernel_rfl) (by kernel_rfl) (by kernel_rfl) (fun _ _ _ h => h) (Or.inl ⟨by rfl, ?_⟩) hHeld ?_
          rotate_left
          · intro w' hSw
            (try dsimp only at hSw)
            go_simp
            all_goals with_reducible rfl
          try simp only [Act.put, List.setIfInBounds_toArray, List.set_cons_zero, List.set_cons_succ]
          refine wpAnyH_take (i := 1) (oi := { dst := some 64, op := Op.move (Operand.tmp 6), type := 69, pos := "disk.go:228", after := #[], guard := none }) (v := ?_) rfl (by kernel_rfl) (by kernel_rfl) (by kernel_rfl) (fun _ _ _ h => h) (Or.inl ⟨by rfl, ?_⟩) hHeld ?_
          rotate_left
          · intro w' hSw
            (try dsimp only at hSw)
            go_simp
            all_goals with_reducible rfl
          try simp only [Act.put, List.setIfInBounds_toArray, List.set_cons_zero, List.set_cons_succ]
          refine wpAnyH_take (i := 5) (oi := { dst := some 68, op := Op.move (Operand.tmp 6), type := 69, pos := "disk.go:228", after := #[], guard := none }) (v := ?_) rfl (by kernel_rfl) (by kernel_rfl) (by kernel_rfl) (fun _ _ _ h => h) (Or.inl ⟨by rfl, ?_⟩) hHeld ?_
          rotate_left
          · intro w' hSw
            (try dsimp only at hSw)
            go_simp
            all_goals with_reducible rfl
          try simp only [Act.put, List.setIfInBounds_toArray, List.set_cons_zero, List.set_cons_succ]
          refine wpAnyH_take (i := 2) (oi := { dst := some 65, op := Op.nilCheck (Operand.tmp 64), type := 0, pos := "disk.go:228", after := #[{ on := 1, ground := Ground.data }], guard := none }) (v := ?_) rfl (by kernel_rfl) (by kernel_rfl) (by kernel_rfl) (fun _ _ _ h => h) (Or.inl ⟨by rfl, ?_⟩) hHeld ?_
          rotate_left
          · intro w' hSw
            (try dsimp only at hSw)
            go_simp
            all_goals with_reducible rfl
          try simp only [Act.put, List.setIfInBounds_toArray, List.set_cons_zero, List.set_cons_succ]
          refine wpAnyH_take (i := 3) (oi := { dst := some 66, op := Op.fieldAddr 73 (Operand.tmp 65) 0, type := 0, pos := "disk.go:228", after := #[{ on := 2, ground := Ground.data }], guard := none }) (v := ?_) rfl (by kernel_rfl) (by kernel_rfl) (by kernel_rfl) (fun _ _ _ h => h) (Or.inl ⟨by rfl, ?_⟩) hHeld ?_
          rotate_left
          · intro w' hSw
            (try dsimp only at hSw)
            go_simp
            all_goals with_reducible rfl
          try simp only [Act.put, List.setIfInBounds_toArray, List.set_cons_zero, List.set_cons_succ]
          refine wpAnyH_take (i := 6) (oi := { dst := some 69, op := Op.nilCheck (Operand.tmp 68), type := 0, pos := "disk.go:228", after := #[{ on := 5, ground := Ground.data }], guard := none }) (v := ?_) rfl (by kernel_rfl) (by kernel_rfl) (by kernel_rfl) (fun _ _ _ h => h) (Or.inl ⟨by rfl, ?_⟩) hHeld ?_
          rotate_left
          · intro w' hSw
            (try dsimp only at hSw)
            go_simp
            all_goals with_reducible rfl
          try simp only [Act.put, List.setIfInBounds_toArray, List.set_cons_zero, List.set_cons_succ]
          refine wpAnyH_take (i := 7) (oi := { dst := some 70, op := Op.fieldAddr 73 (Operand.tmp 69) 1, type := 0, pos := "disk.go:228", after := #[{ on := 6, ground := Ground.data }], guard := none }) (v := ?_) rfl (by kernel_rfl) (by kernel_rfl) (by kernel_rfl) (fun _ _ _ h => h) (Or.inl ⟨by rfl, ?_⟩) hHeld ?_
          rotate_left
          · intro w' hSw
            (try dsimp only at hSw)
            go_simp
            all_goals with_reducible rfl
          try simp only [Act.put, List.setIfInBounds_toArray, List.set_cons_zero, List.set_cons_succ]
          refine wpAnyH_take (i := 8) (oi := { dst := some 71, op := Op.load 3 (Operand.tmp 70), type := 3, pos := "disk.go:228", after := #[{ on := 7, ground := Ground.data }], guard := none }) (v := ?_) rfl (by kernel_rfl) (by kernel_rfl) (by kernel_rfl) (fun _ _ _ h => h) (Or.inl ⟨by rfl, ?_⟩) hHeld ?_
          rotate_left
          · intro w' hSw
            (try dsimp only at hSw)
            go_simp
            all_goals with_reducible rfl
          try simp only [Act.put, List.setIfInBounds_toArray, List.set_cons_zero, List.set_cons_succ]
          refine wpAnyH_ready (rs := [4]) (by kernel_rfl) (by simp) ?_
          refine AllReadyH.cons (o := { dst := some 67, op := Op.load 33 (Operand.tmp 66), type := 33, pos := "disk.go:228", after := #[{ on := 3, ground := Ground.data }], guard := none }) rfl (fun K hK => ?_) AllReadyH.nil
          go_simp
          skip
          go_wp2_with fail
          refine hK.out _ _ ?_ (fun hHeld2 => ?_)
          · (try dsimp only)
            first
              | go_keep
              | (rw [World.cell?_setCell_other]; (· assumption); (· simp))
          clear hK K hHeld
          have hHeld := hHeld2
          clear hHeld2
          try simp only [Act.put, List.setIfInBounds_toArray, List.set_cons_zero, List.set_cons_succ]
          refine wpAnyH_take (i := 9) (oi := { dst := some 72, op := Op.slice 33 (Operand.tmp 67) none (some (Operand.tmp 71)) none, type := 33, pos := "disk.go:228", after := #[{ on := 4, ground := Ground.data }, { on := 8, ground := Ground.data }], guard := none }) (v := ?_) rfl (by kernel_rfl) (by kernel_rfl) (by kernel_rfl) (fun _ _ _ h => h) (Or.inl ⟨by rfl, ?_⟩) hHeld ?_
          rotate_left
          · intro w' hSw
            (try dsimp only at hSw)
            go_simp
            all_goals with_reducible rfl
          try simp only [Act.put, List.setIfInBounds_toArray, List.set_cons_zero, List.set_cons_succ]
          refine wpAnyH_ready (rs := [10]) (by kernel_rfl) (by simp) ?_
          refine AllReadyH.cons (o := { dst := some 73, op := Op.call { callee := Callee.value (Operand.func 37), args := #[Operand.tmp 72], argTypes := #[33] }, type := 33, pos := "disk.go:228", after := #[{ on := 9, ground := Ground.data }], guard := none }) rfl (fun K hK => ?_) AllReadyH.nil
          go_simp
          go_at_call 37; (refine K37.out.mono ?_); rintro e w6 ⟨v6, rfl, hb6, hn6, hB6, p6, c6, rfl⟩; clear z0 z1 zf; have z0 := (hB6.cell (p := ⟨b, 0, none⟩) hbl5).trans Z0.out; have z1 := (hB6.cell (p := ⟨b, 1, none⟩) hbl5).trans Z1.out; have zf := (fun o => (hB6.frozen (p := ⟨b, o, none⟩) hbl5).trans (ZF.out o)); have HB6 := Lib.hid hb6; have HN6 := Lib.hid hn6; have HBB := Lib.hid hB6; clear hb6 hn6 hB6; rw [hlen]
          go_wp2_with fail
          refine hK.out _ _ ?_ (fun hHeld2 => ?_)
          · (try dsimp only)
            first
              | go_keep
              | (rw [World.cell?_setCell_other]; (· assumption); (· simp))
          clear hK K hHeld
          have hHeld := hHeld2
          clear hHeld2
          try simp only [Act.put, List.setIfInBounds_toArray, List.set_cons_zero, List.set_cons_succ]
          refine wpAnyH_take (i := 11) (oi := { dst := some 74, op := Op.nilCheck (Operand.tmp 63), type := 0, pos := "disk.go:228", after := #[{ on := 0, ground := Ground.data }, { on := 0, ground := Ground.phase }, { on := 1, ground := Ground.phase }, { on := 2, ground := Ground.phase }, { on := 3, ground := Ground.phase }, { on := 4, ground := Ground.phase }, { on := 5, ground := Ground.phase }, { on := 6, ground := Ground.phase }, { on := 7, ground := Ground.phase }, { on := 8, ground := Ground.phase }, { on := 9, ground := Ground.phase }, { on := 10, ground := Ground.phase }], guard := none }) (v := ?_) rfl (by kernel_rfl) (by kernel_rfl) (by kernel_rfl) (fun _ _ _ h => h) (Or.inl ⟨by rfl, ?_⟩) hHeld ?_
          rotate_left
          · intro w' hSw
            (try dsimp only at hSw)
            go_simp
            all_goals with_reducible rfl
          try simp only [Act.put, List.setIfInBounds_toArray, List.set_cons_zero, List.set_cons_succ]
          refine wpAnyH_take (i := 12) (oi := { dst := some 75, op := Op.fieldAddr 73 (Operand.tmp 74) 0, type := 0, pos := "disk.go:228", after := #[{ on := 11, ground := Ground.data }, { on := 0, ground := Ground.phase }, { on := 1, ground := Ground.phase }, { on := 2, ground := Ground.phase }, { on := 3, ground := Ground.phase }, { on := 4, ground := Ground.phase }, { on := 5, ground := Ground.phase }, { on := 6, ground := Ground.phase }, { on := 7, ground := Ground.phase }, { on := 8, ground := Ground.phase }, { on := 9, ground := Ground.phase }, { on := 10, ground := Ground.phase }], guard := none }) (v := ?_) rfl (by kernel_rfl) (by kernel_rfl) (by kernel_rfl) (fun _ _ _ h => h) (Or.inl ⟨by rfl, ?_⟩) hHeld ?_
          rotate_left
          · intro w' hSw
            (try dsimp only at hSw)
            go_simp
            all_goals with_reducible rfl
          try simp only [Act.put, List.setIfInBounds_toArray, List.set_cons_zero, List.set_cons_succ]
          refine wpAnyH_ready (rs := [13]) (by kernel_rfl) (by simp) ?_
          refine AllReadyH.cons (o := { dst := none, op := Op.store 33 (Operand.tmp 75) (Operand.tmp 73), type := 0, pos := "disk.go:228", after := #[{ on := 12, ground := Ground.data }, { on := 10, ground := Ground.data }, { on := 10, ground := Ground.chain }, { on := 0, ground := Ground.phase }, { on := 1, ground := Ground.phase }, { on := 2, ground := Ground.phase }, { on := 3, ground := Ground.phase }, { on := 4, ground := Ground.phase }, { on := 5, ground := Ground.phase }, { on := 6, ground := Ground.phase }, { on := 7, ground := Ground.phase }, { on := 8, ground := Ground.phase }, { on := 9, ground := Ground.phase }, { on := 10, ground := Ground.phase }], guard := none }) rfl (fun K hK => ?_) AllReadyH.nil
          go_simp
          skip
          go_wp2_with fail
          refine hK.out _ _ ?_ (fun hHeld2 => ?_)
          · (try dsimp only)
            first
              | go_keep
              | (rw [World.cell?_setCell_other]; (· assumption); (· simp))
          clear hK K hHeld
          have hHeld := hHeld2
          clear hHeld2
          try simp only [Act.put, List.setIfInBounds_toArray, List.set_cons_zero, List.set_cons_succ]
          refine wpAnyH_done (by kernel_rfl) ?_ _
          go_wp2
          all_goals go_roundw
          all_goals first
            | (simp [intOf]; omega)
            | (have hb6 := HB6.out
               have hn6 := HN6.out
               rw [hlen] at hb6 hn6
               have hbb := (HBB.out.block b hbl5).trans hb5
               have hz6 := HBB.out.size
               have hz5' : w5.drew.heap.size = wr.heap.size := hz5
               have hfin := HD.out.file (f' := ⟨f.n, f.b.take (f.s + q), f.s + q⟩) (v' := .slice p6 (f.s + q) c6) (W' := w6.setCell ⟨b, 0, none⟩ (.slice p6 (f.s + q) c6)) rfl (by rw [World.size_setCell]; omega) (by
                 have := setCell_at (o := 0) (.slice p6 (f.s + q) c6) hbb
                 simp only [List.setIfInBounds_toArray, List.set_cons_zero, List.set_cons_succ] at this
                 rw [this]
                 simp) (hb6.keep fun g' hg' _ => setCell_ne _ fun e => by
                   have h1 := hn6 g' hg'
                   have h2 := hbl5
                   omega) (fun g' hg' => .inr (by have h1 := hn6 g' hg'; omega)) fun b' hl' hne' _ => by
                     rw [setCell_ne _ hne']
                     exact (HBB.out.block b' (by rw [hz5']; exact hl')).trans (hk5 b' hne')
               rw [HMS.out] at hfin
               refine ⟨k + 1, by go_num, by omega, ⟨bm, es, ck, _, hfin.more fun b' hb' => ?_⟩, ?_⟩
               · rcases hb' with h | h
                 · exact h
                 · exact .inr (by omega)
               · refine Turn.put ?_ HGE.out
                 exact HTR.out.trans ((hT5.drew).trans (Turn.of (F := fun b => (G b ∧ b < w.heap.size) ∨ w2.heap.size ≤ b) HBB.out) fun _ _ h => h) fun _ _ h => h)
        · have hq0 := HM0.out hkk
          subst hq0
          go_wp2
          obtain ⟨w5, hw5⟩ : ∃ w5, w5 = wr.setCell ⟨b, 1, none⟩ (.int .i64 f.s) := ⟨_, rfl⟩
          have hb5 : w5.heap[b]? = some (.cells #[.slice pv f.b.length cv, .int .i64 f.s] 73) := by
            have := setCell_at (o := 1) (.int .i64 f.s) HENT.out.2.1
            simp only [List.setIfInBounds_toArray, List.set_cons_zero, List.set_cons_succ] at this
            rw [hw5]
            exact this
          have hk5 : ∀ b', b' ≠ b → w5.heap[b']? = wr.heap[b']? := fun b' hb' => by
            rw [hw5]
            exact setCell_ne _ hb'
          have hz5 : w5.heap.size = wr.heap.size := by
            rw [hw5]
            exact World.size_setCell _ _ _
          have hT5 : Turn (fun b => (G b ∧ b < w.heap.size) ∨ w2.heap.size ≤ b) wr w5 := by
            rw [hw5]
            exact Turn.put (Turn.refl _ _) HGE.out
          have hrb : ∀ g', rb (.slice pv f.b.length cv) = some g' → g' ≠ b := fun g' hg' e => by
            obtain ⟨cur, hc⟩ := HENT.out.2.2.1.lt g' hg'
            rw [e, HENT.out.2.1] at hc; cases hc
          have hr5 : Rd w5.drew (.slice pv f.b.length cv) f.b := (HENT.out.2.2.1.keep fun g' hg' _ => hk5 g' (hrb g' hg')).rd
          have hbl5 : b < w5.drew.heap.size := (Array.getElem?_eq_some_iff.1 hb5).1
          have K37 := Lib.hid (c37 (f.b.take (f.s + 0)) pv (f.s + 0) cv w5.drew (hr5.take hq) (by rw [List.length_take]; omega))
          have hlen : (f.b.take (f.s + 0)).length = f.s + 0 := by rw [List.length_take]; omega
          rw [← hw5]
          clear hw5 z0 z1 zf hr5
          have z0 := cellof hb5 0; have z1 := cellof hb5 1; have zf := fun o => frozenof hb5 o
          simp only [List.getElem?_toArray, List.getElem?_cons_zero, List.getElem?_cons_succ] at z0 z1
          have Z0 := Lib.hid z0; have Z1 := Lib.hid z1; have ZF := Lib.hid zf
          have hif : 0 ≤ (f.s : Int) ∧ (f.s : Int) ≤ (cv : Int) := by omega
          have hsc : f.s ≤ cv := by omega
          refine wp_region_held_drew (S := (fun w' => w'.cell? ⟨b, 1, none⟩ = some (.int .i64 f.s))) (by kernel_rfl) ?_ (fun hHeld => ?_)
          · (try dsimp only)
            go_keep
          refine wpAnyH_take (i := 0) (oi := { dst := some 63, op := Op.move (Operand.tmp 6), type := 69, pos := "disk.go:228", after := #[], guard := none }) (v := ?_) rfl (by kernel_rfl) (by kernel_rfl) (by kernel_rfl) (fun _ _ _ h => h) (Or.inl ⟨by rfl, ?_⟩) hHeld ?_
          rotate_left
          · intro w' hSw
            (try dsimp only at hSw)
            go_simp
            all_goals with_reducible rfl
          try simp only [Act.put, List.setIfInBounds_toArray, List.set_cons_zero, List.set_cons_succ]
          refine wpAnyH_take (i := 1) (oi := { dst := some 64, op := Op.move (Operand.tmp 6), type := 69, pos := "disk.go:228", after := #[], guard := none }) (v := ?_) rfl (by kernel_rfl) (by kernel_rfl) (by kernel_rfl) (fun _ _ _ h => h) (Or.inl ⟨by rfl, ?_⟩) hHeld ?_
          rotate_left
          · intro w' hSw
            (try dsimp only at hSw)
            go_simp
            all_goals with_reducible rfl
          try simp only [Act.put, List.setIfInBounds_toArray, List.set_cons_zero, List.set_cons_succ]
          refine wpAnyH_take (i := 5) (oi := { dst := some 68, op := Op.move (Operand.tmp 6), type := 69, pos := "disk.go:228", after := #[], guard := none }) (v := ?_) rfl (by kernel_rfl) (by kernel_rfl) (by kernel_rfl) (fun _ _ _ h => h) (Or.inl ⟨by rfl, ?_⟩) hHeld ?_
          rotate_left
          · intro w' hSw
            (try dsimp only at hSw)
            go_simp
            all_goals with_reducible rfl
          try simp only [Act.put, List.setIfInBounds_toArray, List.set_cons_zero, List.set_cons_succ]
          refine wpAnyH_take (i := 2) (oi := { dst := some 65, op := Op.nilCheck (Operand.tmp 64), type := 0, pos := "disk.go:228", after := #[{ on := 1, ground := Ground.data }], guard := none }) (v := ?_) rfl (by kernel_rfl) (by kernel_rfl) (by kernel_rfl) (fun _ _ _ h => h) (Or.inl ⟨by rfl, ?_⟩) hHeld ?_
          rotate_left
          · intro w' hSw
            (try dsimp only at hSw)
            go_simp
            all_goals with_reducible rfl
          try simp only [Act.put, List.setIfInBounds_toArray, List.set_cons_zero, List.set_cons_succ]
          refine wpAnyH_take (i := 3) (oi := { dst := some 66, op := Op.fieldAddr 73 (Operand.tmp 65) 0, type := 0, pos := "disk.go:228", after := #[{ on := 2, ground := Ground.data }], guard := none }) (v := ?_) rfl (by kernel_rfl) (by kernel_rfl) (by kernel_rfl) (fun _ _ _ h => h) (Or.inl ⟨by rfl, ?_⟩) hHeld ?_
          rotate_left
          · intro w' hSw
            (try dsimp only at hSw)
            go_simp
            all_goals with_reducible rfl
          try simp only [Act.put, List.setIfInBounds_toArray, List.set_cons_zero, List.set_cons_succ]
          refine wpAnyH_take (i := 6) (oi := { dst := some 69, op := Op.nilCheck (Operand.tmp 68), type := 0, pos := "disk.go:228", after := #[{ on := 5, ground := Ground.data }], guard := none }) (v := ?_) rfl (by kernel_rfl) (by kernel_rfl) (by kernel_rfl) (fun _ _ _ h => h) (Or.inl ⟨by rfl, ?_⟩) hHeld ?_
          rotate_left
          · intro w' hSw
            (try dsimp only at hSw)
            go_simp
            all_goals with_reducible rfl
          try simp only [Act.put, List.setIfInBounds_toArray, List.set_cons_zero, List.set_cons_succ]
          refine wpAnyH_take (i := 7) (oi := { dst := some 70, op := Op.fieldAddr 73 (Operand.tmp 69) 1, type := 0, pos := "disk.go:228", after := #[{ on := 6, ground := Ground.data }], guard := none }) (v := ?_) rfl (by kernel_rfl) (by kernel_rfl) (by kernel_rfl) (fun _ _ _ h => h) (Or.inl ⟨by rfl, ?_⟩) hHeld ?_
          rotate_left
          · intro w' hSw
            (try dsimp only at hSw)
            go_simp
            all_goals with_reducible rfl
          try simp only [Act.put, List.setIfInBounds_toArray, List.set_cons_zero, List.set_cons_succ]
          refine wpAnyH_take (i := 8) (oi := { dst := some 71, op := Op.load 3 (Operand.tmp 70), type := 3, pos := "disk.go:228", after := #[{ on := 7, ground := Ground.data }], guard := none }) (v := ?_) rfl (by kernel_rfl) (by kernel_rfl) (by kernel_rfl) (fun _ _ _ h => h) (Or.inl ⟨by rfl, ?_⟩) hHeld ?_
          rotate_left
          · intro w' hSw
            (try dsimp only at hSw)
            go_simp
            all_goals with_reducible rfl
          try simp only [Act.put, List.setIfInBounds_toArray, List.set_cons_zero, List.set_cons_succ]
          refine wpAnyH_ready (rs := [4]) (by kernel_rfl) (by simp) ?_
          refine AllReadyH.cons (o := { dst := some 67, op := Op.load 33 (Operand.tmp 66), type := 33, pos := "disk.go:228", after := #[{ on := 3, ground := Ground.data }], guard := none }) rfl (fun K hK => ?_) AllReadyH.nil
          go_simp
          skip
          go_wp2_with fail
          refine hK.out _ _ ?_ (fun hHeld2 => ?_)
          · (try dsimp only)
            first
              | go_keep
              | (rw [World.cell?_setCell_other]; (· assumption); (· simp))
          clear hK K hHeld
          have hHeld := hHeld2
          clear hHeld2
          try simp only [Act.put, List.setIfInBounds_toArray, List.set_cons_zero, List.set_cons_succ]
          refine wpAnyH_take (i := 9) (oi := { dst := some 72, op := Op.slice 33 (Operand.tmp 67) none (some (Operand.tmp 71)) none, type := 33, pos := "disk.go:228", after := #[{ on := 4, ground := Ground.data }, { on := 8, ground := Ground.data }], guard := none }) (v := ?_) rfl (by kernel_rfl) (by kernel_rfl) (by kernel_rfl) (fun _ _ _ h => h) (Or.inl ⟨by rfl, ?_⟩) hHeld ?_
          rotate_left
          · intro w' hSw
            (try dsimp only at hSw)
            go_simp
            all_goals with_reducible rfl
          try simp only [Act.put, List.setIfInBounds_toArray, List.set_cons_zero, List.set_cons_succ]
          refine wpAnyH_ready (rs := [10]) (by kernel_rfl) (by simp) ?_
          refine AllReadyH.cons (o := { dst := some 73, op := Op.call { callee := Callee.value (Operand.func 37), args := #[Operand.tmp 72], argTypes := #[33] }, type := 33, pos := "disk.go:228", after := #[{ on := 9, ground := Ground.data }], guard := none }) rfl (fun K hK => ?_) AllReadyH.nil
          go_simp
          go_at_call 37; (refine K37.out.mono ?_); rintro e w6 ⟨v6, rfl, hb6, hn6, hB6, p6, c6, rfl⟩; clear z0 z1 zf; have z0 := (hB6.cell (p := ⟨b, 0, none⟩) hbl5).trans Z0.out; have z1 := (hB6.cell (p := ⟨b, 1, none⟩) hbl5).trans Z1.out; have zf := (fun o => (hB6.frozen (p := ⟨b, o, none⟩) hbl5).trans (ZF.out o)); have HB6 := Lib.hid hb6; have HN6 := Lib.hid hn6; have HBB := Lib.hid hB6; clear hb6 hn6 hB6; rw [hlen]
          go_wp2_with fail
          refine hK.out _ _ ?_ (fun hHeld2 => ?_)
          · (try dsimp only)
            first
              | go_keep
              | (rw [World.cell?_setCell_other]; (· assumption); (· simp))
          clear hK K hHeld
          have hHeld := hHeld2
          clear hHeld2
          try simp only [Act.put, List.setIfInBounds_toArray, List.set_cons_zero, List.set_cons_succ]
          refine wpAnyH_take (i := 11) (oi := { dst := some 74, op := Op.nilCheck (Operand.tmp 63), type := 0, pos := "disk.go:228", after := #[{ on := 0, ground := Ground.data }, { on := 0, ground := Ground.phase }, { on := 1, ground := Ground.phase }, { on := 2, ground := Ground.phase }, { on := 3, ground := Ground.phase }, { on := 4, ground := Ground.phase }, { on := 5, ground := Ground.phase }, { on := 6, ground := Ground.phase }, { on := 7, ground := Ground.phase }, { on := 8, ground := Ground.phase }, { on := 9, ground := Ground.phase }, { on := 10, ground := Ground.phase }], guard := none }) (v := ?_) rfl (by kernel_rfl) (by kernel_rfl) (by kernel_rfl) (fun _ _ _ h => h) (Or.inl ⟨by rfl, ?_⟩) hHeld ?_
          rotate_left
          · intro w' hSw
            (try dsimp only at hSw)
            go_simp
            all_goals with_reducible rfl
          try simp only [Act.put, List.setIfInBounds_toArray, List.set_cons_zero, List.set_cons_succ]
          refine wpAnyH_take (i := 12) (oi := { dst := some 75, op := Op.fieldAddr 73 (Operand.tmp 74) 0, type := 0, pos := "disk.go:228", after := #[{ on := 11, ground := Ground.data }, { on := 0, ground := Ground.phase }, { on := 1, ground := Ground.phase }, { on := 2, ground := Ground.phase }, { on := 3, ground := Ground.phase }, { on := 4, ground := Ground.phase }, { on := 5, ground := Ground.phase }, { on := 6, ground := Ground.phase }, { on := 7, ground := Ground.phase }, { on := 8, ground := Ground.phase }, { on := 9, ground := Ground.phase }, { on := 10, ground := Ground.phase }], guard := none }) (v := ?_) rfl (by kernel_rfl) (by kernel_rfl) (by kernel_rfl) (fun _ _ _ h => h) (Or.inl ⟨by rfl, ?_⟩) hHeld ?_
          rotate_left
          · intro w' hSw
            (try dsimp only at hSw)
            go_simp
            all_goals with_reducible rfl
          try simp only [Act.put, List.setIfInBounds_toArray, List.set_cons_zero, List.set_cons_succ]
          refine wpAnyH_ready (rs := [13]) (by kernel_rfl) (by simp) ?_
          refine AllReadyH.cons (o := { dst := none, op := Op.store 33 (Operand.tmp 75) (Operand.tmp 73), type := 0, pos := "disk.go:228", after := #[{ on := 12, ground := Ground.data }, { on := 10, ground := Ground.data }, { on := 10, ground := Ground.chain }, { on := 0, ground := Ground.phase }, { on := 1, ground := Ground.phase }, { on := 2, ground := Ground.phase }, { on := 3, ground := Ground.phase }, { on := 4, ground := Ground.phase }, { on := 5, ground := Ground.phase }, { on := 6, ground := Ground.phase }, { on := 7, ground := Ground.phase }, { on := 8, ground := Ground.phase }, { on := 9, ground := Ground.phase }, { on := 10, ground := Ground.phase }], guard := none }) rfl (fun K hK => ?_) AllReadyH.nil
          go_simp
          skip
          go_wp2_with fail
          refine hK.out _ _ ?_ (fun hHeld2 => ?_)
          · (try dsimp only)
            first
              | go_keep
              | (rw [World.cell?_setCell_other]; (· assumption); (· simp))
          clear hK K hHeld
          have hHeld := hHeld2
          clear hHeld2
          try simp only [Act.put, List.setIfInBounds_toArray, List.set_cons_zero, List.set_cons_succ]
          refine wpAnyH_done (by kernel_rfl) ?_ _
          go_wp2
          all_goals go_roundw
          all_goals first
            | (simp [intOf]; omega)
            | (have hb6 := HB6.out
               have hn6 := HN6.out
               rw [hlen] at hb6 hn6
               have hbb := (HBB.out.block b hbl5).trans hb5
               have hz6 := HBB.out.size
               have hz5' : w5.drew.heap.size = wr.heap.size := hz5
               have hfin := HD.out.file (f' := ⟨f.n, f.b.take (f.s + 0), f.s + 0⟩) (v' := .slice p6 (f.s + 0) c6) (W' := w6.setCell ⟨b, 0, none⟩ (.slice p6 (f.s + 0) c6)) rfl (by rw [World.size_setCell]; omega) (by
                 have := setCell_at (o := 0) (.slice p6 (f.s + 0) c6) hbb
                 simp only [List.setIfInBounds_toArray, List.set_cons_zero, List.set_cons_succ] at this
                 rw [this]
                 simp) (hb6.keep fun g' hg' _ => setCell_ne _ fun e => by
                   have h1 := hn6 g' hg'
                   have h2 := hbl5
                   omega) (fun g' hg' => .inr (by have h1 := hn6 g' hg'; omega)) fun b' hl' hne' _ => by
                     rw [setCell_ne _ hne']
                     exact (HBB.out.block b' (by rw [hz5']; exact hl')).trans (hk5 b' hne')
               rw [HMS.out] at hfin
               refine ⟨k + 1, by go_num, by omega, ⟨bm, es, ck, _, hfin.more fun b' hb' => ?_⟩, ?_⟩
               · rcases hb' with h | h
                 · exact h
                 · exact .inr (by omega)
               · refine Turn.put ?_ HGE.out
                 exact HTR.out.trans ((hT5.drew).trans (Turn.of (F := fun b => (G b ∧ b < w.heap.size) ∨ w2.heap.size ≤ b) HBB.out) fun _ _ h => h) fun _ _ h => h)
      · have hkk : k = n0 := by omega
        subst hkk
        have hfin : D (fun b => (G b ∧ b < w.heap.size) ∨ w2.heap.size ≤ b) bd { S with down := false, fs := wakes keep 0 S.fs } wr := by
          have := hdk
          rw [← HN0.out, mid_all] at this
          exact this
        have HF := Lib.hid hfin; have HTR := Lib.hid hTr
        clear hdk hTr hfin
        go_wp2
        go_end0
        refine ⟨rfl, _, fun b h => ?_, HF.out, ?_⟩
        · rcases h with h | h
          · exact .inl h.1
          · exact .inr (by omega)
        · refine (HT1.out.more (F' := G) fun b h => h.1).trans ((Turn.of (F := G) HB2.out).trans HTR.out fun b hb h => ?_) fun _ _ h => h
          rcases h with h | h
          · exact h.1
          · have := HS1.out
            omega
end Go.Proofs.DK
