/- Proved: what is taken was sent so, and no oftener than it was sent and doubled: the law's walk over operations that lie there. Each theorem says its own conditions. -/
import Derived.Test.YtopnmikijbajfaaNk
set_option linter.unusedVariables false
set_option linter.unusedSimpArgs false
namespace Go.Proofs.NT
open Go.RowKit Go.Ai Go.Maps
def XOk (x : Opr) : Prop := 0 ≤ x.a ∧ x.a < 4294967296 ∧ 0 ≤ x.b ∧ x.b < 4294967296
def R3' (W : World) (bn bm nn : Nat) (i : Value) (wr : World) : Prop := ∃ k L F n, i = .int .i64 (k : Nat) ∧ k ≤ nn ∧ R3 W bn bm k wr L F n
set_option maxRecDepth 100000 in
set_option maxHeartbeats 8000000 in
theorem c3 (b o l c : Nat) (W : World) (xs : List Opr) (hl : xs.length = l) (hlc : l ≤ c) (hmax : c ≤ 9223372036854775807) (hops : ∀ (i : Nat) (x : Opr), xs[i]? = some x → OpAt W b (o + i * 5) x) (hxo : ∀ (i : Nat) (x : Opr), xs[i]? = some x → XOk x) (hlen : ∀ (i : Nat) (x : Opr), xs[i]? = some x → x.s.length ≤ 9223372036854775807) :
    Calls Try.prog 3 #[.slice (some ⟨b, o, none⟩) l c] W fun e w' => e = .returned (.bool true) ∧ Below W.heap.size W w' := by
  have K8 := fun (W' : World) (hB : Below W.heap.size W W') => c8 b o l c W' xs hl hlc hmax (fun i x hx => (hops i x hx).mono hB) hlen
  have HO := Lib.hid hops; have HX := Lib.hid hxo; have HL := Lib.hid hl; have HK8 := Lib.hid K8
  clear hops hxo hl hlen K8
  have hmk : ∀ W' : World, (Instr.makeMap 25 none).run Try.prog W' = .ok (.map (some W'.heap.size)) (W'.alloc (.map #[] 0)) := fun W' => rfl
  go_enter Try.func3, Try.ntmps3
  go_wp2_with (first
    | (go_at_call 6; refine (c6 _).mono ?_; rintro e w1 ⟨rfl, rfl⟩)
    | (go_at_call 8; refine (HK8.out _ (((Below.refl _ W).alloc (Nat.le_refl _) _).alloc (by simp) _)).mono ?_; rintro e w3 ⟨nn, rfl, hnn, hnn2, hsm, hB3⟩; have HS := Lib.hid hsm; have HB3 := Lib.hid hB3; clear hsm hB3))
  go_loopw [20] (fun i wr => R3' W W.heap.size (W.heap.size + 1) nn i wr) (fun i _ => nn - (intOf i).toNat)
  case atStart =>
    have hB3 := HB3.out
    have h0 := net_new W
    have h1 : Below (W.alloc (.cells #[.slice none 0 0] 56)).heap.size (W.alloc (.cells #[.slice none 0 0] 56)) w3 := ((Below.refl _ _).alloc (Nat.le_refl _) _).trans (hB3.mono (by simp))
    refine ⟨0, [], fun b => b = W.heap.size, 0, rfl, Nat.zero_le _, ⟨h0.below h1, fun b e => ?_, ?_, Nat.le_refl _, Nat.le_refl _, fun m hm => by simp at hm, ((Below.refl _ W).alloc (Nat.le_refl _) _).trans (h1.mono (by simp)), by omega⟩⟩
    · have := h1.size; simp at this; subst e; exact ⟨Nat.le_refl _, by omega, by omega⟩
    · have := (left_new (W.alloc (.cells #[.slice none 0 0] 56))).keeps (W' := w3) (hB3.block _ (by simp))
      simpa using this
  case round =>
    obtain ⟨k, L, F, n, rfl, hk, hR⟩ := hrel
    have hBw := hR.below
    have hlk := hR.lk
    have hnk := hR.nk
    by_cases hlt : k < nn
    · obtain ⟨x, hx⟩ : ∃ x, xs[k]? = some x := ⟨_, List.getElem?_eq_getElem (by rw [HL.out]; omega)⟩
      have hsx := HS.out k x hlt hx
      have hxo := HX.out k x hx
      obtain ⟨p, c', hb, y0, y1, y2, y3, y4, hbin⟩ := HO.out k x hx
      have hbin := hbin (by omega)
      have y0 := ((bcell hBw).1 b _ hb).trans y0
      have y1 := ((bcell hBw).1 b _ hb).trans y1
      have y2 := ((bcell hBw).1 b _ hb).trans y2
      have y3 := ((bcell hBw).1 b _ hb).trans y3
      have y4 := ((bcell hBw).1 b _ hb).trans y4
      obtain ⟨kd, xa, xb, xsb, xk⟩ := x
      obtain ⟨ha0, ha1, hb0, hb1⟩ := hxo
      simp only at *
      have HR := Lib.hid hR
      have HBI := Lib.hid hbin
      have hfoot : ¬ F wr.heap.size := fun h => by have := (hR.foot _ h).2.1; omega
      have hnF : ¬ F (W.heap.size + 1) := fun h => (hR.foot _ h).2.2 rfl
      have hbmlt := hR.left.lt
      have hR0 := hR.net.lt
      have hbl : Below wr.heap.size wr (wr.alloc (.cells #[.int .i64 kd, .int .u32 xa, .int .u32 xb, .slice p xsb.length c', .int .i64 xk] 32)) := (Below.refl _ _).alloc (Nat.le_refl _) _
      have hnet := hR.net.below hbl
      have hblk : (wr.alloc (.cells #[.int .i64 kd, .int .u32 xa, .int .u32 xb, .slice p xsb.length c', .int .i64 xk] 32)).heap[wr.heap.size]? = some (.cells #[.int .i64 kd, .int .u32 xa, .int .u32 xb, .slice p xsb.length c', .int .i64 xk] 32 (0, 0)) := heap_alloc_new wr _
      clear hx hR hbin
      by_cases h0 : kd = 0
      · subst h0
        have K9 := c9 (F := F) (L := L) xa xb xsb (.slice p xsb.length c') (by omega) (HBI.out.mono (hBw.trans (hbl.mono hBw.size))) (by omega) hnet
        have HBLK := Lib.hid hblk
        have HBL := Lib.hid hbl
        have HQ := Lib.hid (key_ok xa xb xsb (by omega))
        clear hnet hblk hbl hb
        generalize hSL : xsb.length = sl at *
        go_wp2_with (first
          | (go_at_call 9; (refine K9.mono ?_; rintro e w2 ⟨rfl, hn2, ht2⟩; have t7b := (ht2.block wr.heap.size (by simp) hfoot).trans HBLK.out; have x0 := cell_of_heap t7b 0; have x1 := cell_of_heap t7b 1; have x2 := cell_of_heap t7b 2; have x3 := cell_of_heap t7b 3; have x4 := cell_of_heap t7b 4; simp only [List.getElem?_toArray, List.getElem?_cons_succ, List.getElem?_cons_zero] at x0 x1 x2 x3 x4; have hB2 : Below W.heap.size W w2 := ht2.below (hBw.trans (HBL.out.mono hBw.size)) (fun b hb => (HR.out.foot b hb).1) (by have := hBw.size; simp; omega); have hcv := conv_bin (HBI.out.mono hB2); have hl2 := HR.out.left.keeps ((ht2.block (W.heap.size + 1) (by simp; omega) hnF).trans (HBL.out.block _ hbmlt)); have HN2 := Lib.hid hn2; have HT2 := Lib.hid ht2; have HL2 := Lib.hid hl2; clear hn2 ht2 hl2 hB2 t7b))
          | (go_at_call 7; (refine (c7 xa xb xsb _ ha0 ha1 hb0 hb1 (by omega)).mono ?_; rintro e w4 ⟨rfl, hB4⟩; obtain ⟨D, hown, hq⟩ := HL2.out.keeps (hB4.block _ HL2.out.lt); have hmap := hown.isMap; have HB4 := Lib.hid hB4; clear hB4))
          | (at_lookup; (refine wpList_lookup_own_int _ rfl _ _ 25 rfl 9 3 .i64 law9 Try.underlying25 Try.underlying3 (zero3 _) (W.heap.size + 1) n D rfl hown _ _ rfl HQ.out ?_; intro cc hat hwc; rw [hq] at hat; cases hat; have hcl : cnt L (keyL ⟨xa, xb, xsb⟩) ≤ 201 := (by have : cnt L (keyL ⟨xa, xb, xsb⟩) ≤ L.length := List.length_filter_le _ _; omega)))
          | (at_mapUpdate; (refine wpList_mapUpdate_own _ rfl _ _ _ 25 rfl 9 3 law9 Try.underlying25 _ (W.heap.size + 1) n D rfl hown (by unfold maxLen; omega) _ _ _ rfl rfl HQ.out _ [] (plainElem_int Try.underlying3 (WalkArith.wf_i64 (by omega))) ?_; intro w5 hown5 hgrow5; have HO5 := Lib.hid hown5; have HG5 := Lib.hid hgrow5; clear hown5 hgrow5)))
        go_roundw
        case rel =>
          have hl5 : LeftAt w5 (W.heap.size + 1) (n + 1) (L ++ [⟨xa, xb, xsb⟩]) := left_put (v := cnt L (keyL ⟨xa, xb, xsb⟩) + 1) hmap (by simpa using HO5.out) hq (by rw [cnt_snoc]; simp) (fun p hp => by rw [cnt_snoc, if_neg (fun e => hp e.symm)]; rfl)
          obtain ⟨L', F', n', h'⟩ := HR.out.next (HN2.out.below HB4.out) (fun b hb => hb.imp id fun h => by simp at h; omega) (Turn.trans (F' := F) (Turn.trans (F' := F) (Turn.of HBL.out) HT2.out (fun b _ h => h)) (Turn.of HB4.out) (fun b _ h => h)) (Turn.grown HG5.out fun g e => (by cases e; rfl)) hl5 (by omega) (by simp; omega) (fun m hm => by
            rcases List.mem_append.1 hm with hm | hm
            · exact HR.out.ok m hm
            · simp at hm; subst hm; exact ⟨ha0, ha1, hb0, hb1, by rw [hSL]; omega⟩)
          exact ⟨k + 1, L', F', n', by go_num, by omega, h'⟩
        case measure => simp [intOf]; omega
      · by_cases h3 : kd = 3
        · subst h3
          have HBLK := Lib.hid hblk
          have HBL := Lib.hid hbl
          have hSm : ∀ m ∈ L, m.s.length ≤ 20000 := fun m hm => by have := (HR.out.ok m hm).2.2.2.2; omega
          have K10 := c10 hSm (by omega) hnet
          have HN := Lib.hid hnet
          have hfp : ∀ b, F b → b < wr.heap.size := fun b hb => (HR.out.foot b hb).2.1
          have HFP := Lib.hid hfp
          have hbnF : W.heap.size < wr.heap.size := by have := hR0; omega
          clear hnet hblk hbl hb hSm hfp
          rcases Nat.eq_zero_or_pos L.length with hz | hpos
          · have hLn : L = [] := List.eq_nil_of_length_eq_zero hz
            subst hLn
            go_wp2_with (first
              | (go_at_call 10; (refine K10.mono ?_; rintro e w2 ⟨v2, rfl, hm2, hB2⟩; have t7b := (hB2.block wr.heap.size (by simp)).trans HBLK.out; have x0 := cell_of_heap t7b 0; have x1 := cell_of_heap t7b 1; have x2 := cell_of_heap t7b 2; have x3 := cell_of_heap t7b 3; have x4 := cell_of_heap t7b 4; simp only [List.getElem?_toArray, List.getElem?_cons_succ, List.getElem?_cons_zero] at x0 x1 x2 x3 x4; obtain ⟨pz, cz, hcz⟩ := (HN.out.below hB2).cell; have HB2 := Lib.hid hB2; clear hB2 t7b hm2))
              | (go_at_call 11; (refine (c11z _ xk pz cz _ hcz).mono ?_; rintro e w3 ⟨rfl, rfl⟩)))
            go_roundw
            case rel =>
              have hBt : Below wr.heap.size wr w2 := HBL.out.trans (HB2.out.mono (by simp))
              obtain ⟨L', F', n', h'⟩ := HR.out.next (HN.out.below HB2.out) (fun b hb => .inl hb) (Turn.of hBt) (Turn.refl _ _) (HR.out.left.keeps (hBt.block _ hbmlt)) (by omega) (by simp) (fun m hm => by simp at hm)
              exact ⟨k + 1, L', F', n', by go_num, by omega, h'⟩
            case measure => simp [intOf]; omega
          · have hqlt : xk.toNat % L.length < L.length := Nat.mod_lt _ hpos
            obtain ⟨m, hm⟩ : ∃ m, L[xk.toNat % L.length]? = some m := ⟨_, List.getElem?_eq_getElem hqlt⟩
            obtain ⟨hM0, hM1, hM2, hM3, hM4⟩ := HR.out.ok m (List.mem_of_getElem? hm)
            obtain ⟨ma, mb, ms⟩ := m
            simp only at hM0 hM1 hM2 hM3 hM4
            have HQ := Lib.hid (key_ok ma mb ms (by omega))
            have e1 : ¬ ((L.length : Int) = 0) := by omega
            have e2 : ¬ (L.length = 0) := by omega
            have HM := Lib.hid hm
            clear hm
            rcases Int.lt_or_le xk 0 with hk0 | hk0
            · have e4 : (0 : Int).tmod (L.length : Int) = 0 := by simp
              have hq0 : xk.toNat % L.length = 0 := by have : xk.toNat = 0 := by omega
                                                       rw [this]; simp
              have hq1 := HM.out
              rw [hq0] at hq1
              have HM := Lib.hid HM.out
              go_wp2_with (first
                | (go_at_call 10; (refine K10.mono ?_; rintro e w2 ⟨v2, rfl, hm2, hB2⟩; have t7b := (hB2.block wr.heap.size (by simp)).trans HBLK.out; have x0 := cell_of_heap t7b 0; have x1 := cell_of_heap t7b 1; have x2 := cell_of_heap t7b 2; have x3 := cell_of_heap t7b 3; have x4 := cell_of_heap t7b 4; simp only [List.getElem?_toArray, List.getElem?_cons_succ, List.getElem?_cons_zero] at x0 x1 x2 x3 x4; obtain ⟨g, cg, pg, pcg, rfl, hgN, hgl, g0, g1, g2, hgb⟩ := hm2.get hq1; simp only at g0 g1 g2 hgb; have K11 := c11 (k := xk) HM.out (by simp; omega) (by omega) (HN.out.below hB2); have HB2 := Lib.hid hB2; have HGB := Lib.hid hgb; clear hB2 hm2 hgb))
                | (go_at_call 11; (refine K11.mono ?_; rintro e w3 ⟨rfl, hn3, ht3⟩; have hszw := HB2.out.size; have t7b := (ht3.block wr.heap.size (by simp at hszw; omega) hfoot).trans ((HB2.out.block wr.heap.size (by simp)).trans HBLK.out); clear x0 x1 x2 x3 x4; have x0 := cell_of_heap t7b 0; have x1 := cell_of_heap t7b 1; have x2 := cell_of_heap t7b 2; have x3 := cell_of_heap t7b 3; have x4 := cell_of_heap t7b 4; simp only [List.getElem?_toArray, List.getElem?_cons_succ, List.getElem?_cons_zero] at x0 x1 x2 x3 x4; have hgF : ¬ F g := (fun h => by have := HFP.out g h; simp at hgN; omega); have hgh := ht3.block g hgl hgF; have g0 := (World.cell?_of_block (a := ⟨g, (0) * 3, none⟩) hgh).trans g0; have g1 := (World.cell?_of_block (a := ⟨g, (0) * 3 + 1, none⟩) hgh).trans g1; have g2 := (World.cell?_of_block (a := ⟨g, (0) * 3 + 2, none⟩) hgh).trans g2; have hbt3 : BIn w3 (.slice pg ms.length pcg) ms := BytAt.bin (BytAt.mono HGB.out (ht3.keeps fun b _ ho h => by have h1 := HFP.out b h; have h2 := ho.1; simp at h2; omega)); have hcv := conv_bin (hbt3.mono ((Below.refl _ w3).alloc (Nat.le_refl _) (.cells #[.int .u32 ma, .int .u32 mb, .slice pg ms.length pcg] 39))); have hsz3 := ht3.size; have hl3 := HR.out.left.keeps ((ht3.block (W.heap.size + 1) (by simp at hszw; omega) hnF).trans ((HB2.out.block (W.heap.size + 1) (by simp; omega)).trans (HBL.out.block _ hbmlt))); have HN3 := Lib.hid hn3; have HT3 := Lib.hid ht3; have HL3 := Lib.hid (hl3.keeps (((Below.refl _ w3).alloc (Nat.le_refl _) (.cells #[.int .u32 ma, .int .u32 mb, .slice pg ms.length pcg] 39)).block _ hl3.lt)); clear hn3 ht3 hl3 t7b hgh hbt3))
                | (go_at_call 7; (refine (c7 ma mb ms _ hM0 hM1 hM2 hM3 (by omega)).mono ?_; rintro e w4 ⟨rfl, hB4⟩; obtain ⟨D, hown, hq⟩ := HL3.out.keeps (hB4.block _ HL3.out.lt); have hmap := hown.isMap; have HB4 := Lib.hid hB4; clear hB4))
                | (at_lookup; (refine wpList_lookup_own_int _ rfl _ _ 25 rfl 9 3 .i64 law9 Try.underlying25 Try.underlying3 (zero3 _) (W.heap.size + 1) n D rfl hown _ _ rfl HQ.out ?_; intro cc hat hwc; rw [hq] at hat; cases hat; have hcl : cnt L (keyL ⟨ma, mb, ms⟩) ≤ 201 := (by have : cnt L (keyL ⟨ma, mb, ms⟩) ≤ L.length := List.length_filter_le _ _; omega)))
                | (at_mapUpdate; (refine wpList_mapUpdate_own _ rfl _ _ _ 25 rfl 9 3 law9 Try.underlying25 _ (W.heap.size + 1) n D rfl hown (by unfold maxLen; omega) _ _ _ rfl rfl HQ.out _ [] (plainElem_int Try.underlying3 (WalkArith.wf_i64 (by omega))) ?_; intro w5 hown5 hgrow5; have HO5 := Lib.hid hown5; have HG5 := Lib.hid hgrow5; clear hown5 hgrow5)))
              go_roundw
              case rel =>
                have hl5 : LeftAt w5 (W.heap.size + 1) (n + 1) (L ++ [⟨ma, mb, ms⟩]) := left_put (v := cnt L (keyL ⟨ma, mb, ms⟩) + 1) hmap (by simpa using HO5.out) hq (by rw [cnt_snoc]; simp) (fun p hp => by rw [cnt_snoc, if_neg (fun e => hp e.symm)]; rfl)
                have hB34 : Below w3.heap.size w3 w4 := ((Below.refl _ w3).alloc (Nat.le_refl _) _).trans (HB4.out.mono (by simp))
                have hBt : Below wr.heap.size wr w2 := HBL.out.trans (HB2.out.mono (by simp))
                obtain ⟨L', F', n', h'⟩ := HR.out.next (HN3.out.below hB34) (fun b hb => hb.imp id fun h => by have := hBt.size; omega) (Turn.trans (F' := F) (Turn.trans (F' := F) (Turn.of hBt) HT3.out (fun b _ h => h)) (Turn.of hB34) (fun b _ h => h)) (Turn.grown HG5.out fun g e => (by cases e; rfl)) hl5 (by omega) (by simp; omega) (fun m hm => by
                  rcases List.mem_append.1 hm with hm | hm
                  · exact HR.out.ok m hm
                  · simp at hm; subst hm; exact ⟨hM0, hM1, hM2, hM3, hM4⟩)
                exact ⟨k + 1, L', F', n', by go_num, by omega, h'⟩
              case measure => simp [intOf]; omega
            · obtain ⟨xn, rfl⟩ : ∃ xn : Nat, xk = xn := ⟨xk.toNat, by omega⟩
              have hqn : (xn : Int).toNat % L.length = xn % L.length := by simp
              rw [hqn] at hqlt
              have hM1q := HM.out
              rw [hqn] at hM1q
              obtain ⟨q, hqq⟩ : ∃ q, xn % L.length = q := ⟨_, rfl⟩
              rw [hqq] at hqlt hM1q hqn
              have HMQ := Lib.hid hM1q
              have HQN := Lib.hid hqn
              have e4 : (xn : Int).tmod (L.length : Int) = (q : Int) := by rw [Int.tmod_eq_emod_of_nonneg (by omega), ← hqq]; simp
              clear hqn hM1q hqq HM
              have e5 : ¬ ((xn : Int) < 0) := by omega
              go_wp2_with (first
                | (go_at_call 10; (refine K10.mono ?_; rintro e w2 ⟨v2, rfl, hm2, hB2⟩; have t7b := (hB2.block wr.heap.size (by simp)).trans HBLK.out; have x0 := cell_of_heap t7b 0; have x1 := cell_of_heap t7b 1; have x2 := cell_of_heap t7b 2; have x3 := cell_of_heap t7b 3; have x4 := cell_of_heap t7b 4; simp only [List.getElem?_toArray, List.getElem?_cons_succ, List.getElem?_cons_zero] at x0 x1 x2 x3 x4; obtain ⟨g, cg, pg, pcg, rfl, hgN, hgl, g0, g1, g2, hgb⟩ := hm2.get HMQ.out; simp only at g0 g1 g2 hgb; have K11 := c11 (k := (xn : Int)) (by rw [HQN.out]; exact HMQ.out) (by simp; omega) (by omega) (HN.out.below hB2); have HB2 := Lib.hid hB2; have HGB := Lib.hid hgb; clear hB2 hm2 hgb))
                | (go_at_call 11; (refine K11.mono ?_; rintro e w3 ⟨rfl, hn3, ht3⟩; have hszw := HB2.out.size; have t7b := (ht3.block wr.heap.size (by simp at hszw; omega) hfoot).trans ((HB2.out.block wr.heap.size (by simp)).trans HBLK.out); clear x0 x1 x2 x3 x4; have x0 := cell_of_heap t7b 0; have x1 := cell_of_heap t7b 1; have x2 := cell_of_heap t7b 2; have x3 := cell_of_heap t7b 3; have x4 := cell_of_heap t7b 4; simp only [List.getElem?_toArray, List.getElem?_cons_succ, List.getElem?_cons_zero] at x0 x1 x2 x3 x4; have hgF : ¬ F g := (fun h => by have := HFP.out g h; simp at hgN; omega); have hgh := ht3.block g hgl hgF; have g0 := (World.cell?_of_block (a := ⟨g, (q) * 3, none⟩) hgh).trans g0; have g1 := (World.cell?_of_block (a := ⟨g, (q) * 3 + 1, none⟩) hgh).trans g1; have g2 := (World.cell?_of_block (a := ⟨g, (q) * 3 + 2, none⟩) hgh).trans g2; have hbt3 : BIn w3 (.slice pg ms.length pcg) ms := BytAt.bin (BytAt.mono HGB.out (ht3.keeps fun b _ ho h => by have h1 := HFP.out b h; have h2 := ho.1; simp at h2; omega)); have hcv := conv_bin (hbt3.mono ((Below.refl _ w3).alloc (Nat.le_refl _) (.cells #[.int .u32 ma, .int .u32 mb, .slice pg ms.length pcg] 39))); have hsz3 := ht3.size; have hl3 := HR.out.left.keeps ((ht3.block (W.heap.size + 1) (by simp at hszw; omega) hnF).trans ((HB2.out.block (W.heap.size + 1) (by simp; omega)).trans (HBL.out.block _ hbmlt))); have HN3 := Lib.hid hn3; have HT3 := Lib.hid ht3; have HL3 := Lib.hid (hl3.keeps (((Below.refl _ w3).alloc (Nat.le_refl _) (.cells #[.int .u32 ma, .int .u32 mb, .slice pg ms.length pcg] 39)).block _ hl3.lt)); clear hn3 ht3 hl3 t7b hgh hbt3))
                | (go_at_call 7; (refine (c7 ma mb ms _ hM0 hM1 hM2 hM3 (by omega)).mono ?_; rintro e w4 ⟨rfl, hB4⟩; obtain ⟨D, hown, hq⟩ := HL3.out.keeps (hB4.block _ HL3.out.lt); have hmap := hown.isMap; have HB4 := Lib.hid hB4; clear hB4))
                | (at_lookup; (refine wpList_lookup_own_int _ rfl _ _ 25 rfl 9 3 .i64 law9 Try.underlying25 Try.underlying3 (zero3 _) (W.heap.size + 1) n D rfl hown _ _ rfl HQ.out ?_; intro cc hat hwc; rw [hq] at hat; cases hat; have hcl : cnt L (keyL ⟨ma, mb, ms⟩) ≤ 201 := (by have : cnt L (keyL ⟨ma, mb, ms⟩) ≤ L.length := List.length_filter_le _ _; omega)))
                | (at_mapUpdate; (refine wpList_mapUpdate_own _ rfl _ _ _ 25 rfl 9 3 law9 Try.underlying25 _ (W.heap.size + 1) n D rfl hown (by unfold maxLen; omega) _ _ _ rfl rfl HQ.out _ [] (plainElem_int Try.underlying3 (WalkArith.wf_i64 (by omega))) ?_; intro w5 hown5 hgrow5; have HO5 := Lib.hid hown5; have HG5 := Lib.hid hgrow5; clear hown5 hgrow5)))
              go_roundw
              case rel =>
                have hl5 : LeftAt w5 (W.heap.size + 1) (n + 1) (L ++ [⟨ma, mb, ms⟩]) := left_put (v := cnt L (keyL ⟨ma, mb, ms⟩) + 1) hmap (by simpa using HO5.out) hq (by rw [cnt_snoc]; simp) (fun p hp => by rw [cnt_snoc, if_neg (fun e => hp e.symm)]; rfl)
                have hB34 : Below w3.heap.size w3 w4 := ((Below.refl _ w3).alloc (Nat.le_refl _) _).trans (HB4.out.mono (by simp))
                have hBt : Below wr.heap.size wr w2 := HBL.out.trans (HB2.out.mono (by simp))
                obtain ⟨L', F', n', h'⟩ := HR.out.next (HN3.out.below hB34) (fun b hb => hb.imp id fun h => by have := hBt.size; omega) (Turn.trans (F' := F) (Turn.trans (F' := F) (Turn.of hBt) HT3.out (fun b _ h => h)) (Turn.of hB34) (fun b _ h => h)) (Turn.grown HG5.out fun g e => (by cases e; rfl)) hl5 (by omega) (by simp; omega) (fun m hm => by
                  rcases List.mem_append.1 hm with hm | hm
                  · exact HR.out.ok m hm
                  · simp at hm; subst hm; exact ⟨hM0, hM1, hM2, hM3, hM4⟩)
                exact ⟨k + 1, L', F', n', by go_num, by omega, h'⟩
              case measure => simp [intOf]; omega
        · have HBLK := Lib.hid hblk
          have HBL := Lib.hid hbl
          have HN := Lib.hid hnet
          have hbnF : W.heap.size < wr.heap.size := hR0
          have k0 : decide (kd = 0) = false := by simpa using h0
          have k3 : decide (kd = 3) = false := by simpa using h3
          rcases Nat.eq_zero_or_pos L.length with hz | hpos
          · have hLn : L = [] := List.eq_nil_of_length_eq_zero hz
            subst hLn
            obtain ⟨pz, cz, hcz⟩ := hnet.cell
            have K12 := c12z W.heap.size xk pz cz _ hcz
            clear hnet hblk hbl hb hcz
            go_wp2_with (go_at_call 12; (refine K12.mono ?_; rintro e w2 ⟨rfl, hB2⟩; have HB2 := Lib.hid hB2; clear hB2))
            go_roundw
            case rel =>
              have hBt : Below wr.heap.size wr (w2.alloc (.cells #[.int .u32 0, .int .u32 0, .slice none 0 0] 39)) := (HBL.out.trans (HB2.out.mono (by simp))).alloc (by have := HB2.out.size; simp at this; omega) _
              have hB2' : Below (wr.alloc (.cells #[.int .i64 kd, .int .u32 xa, .int .u32 xb, .slice p xsb.length c', .int .i64 xk] 32)).heap.size (wr.alloc (.cells #[.int .i64 kd, .int .u32 xa, .int .u32 xb, .slice p xsb.length c', .int .i64 xk] 32)) (w2.alloc (.cells #[.int .u32 0, .int .u32 0, .slice none 0 0] 39)) := HB2.out.alloc HB2.out.size _
              obtain ⟨L', F', n', h'⟩ := HR.out.next (HN.out.below hB2') (fun b hb => .inl hb) (Turn.of hBt) (Turn.refl _ _) (HR.out.left.keeps (hBt.block _ hbmlt)) (by omega) (by simp) (fun m hm => by simp at hm)
              exact ⟨k + 1, L', F', n', by go_num, by omega, h'⟩
            case measure => simp [intOf]; omega
          · have hqlt : xk.toNat % L.length < L.length := Nat.mod_lt _ hpos
            obtain ⟨m, hm⟩ : ∃ m, L[xk.toNat % L.length]? = some m := ⟨_, List.getElem?_eq_getElem hqlt⟩
            obtain ⟨hM0, hM1, hM2, hM3, hM4⟩ := HR.out.ok m (List.mem_of_getElem? hm)
            obtain ⟨ma, mb, ms⟩ := m
            simp only at hM0 hM1 hM2 hM3 hM4
            have HQ := Lib.hid (key_ok ma mb ms (by omega))
            have hfp : ∀ b, F b → b < (wr.alloc (.cells #[.int .i64 kd, .int .u32 xa, .int .u32 xb, .slice p xsb.length c', .int .i64 xk] 32)).heap.size := fun b hb => by have := (HR.out.foot b hb).2.1; simp; omega
            have K12 := c12 (k := xk) hm (by omega) hfp hnet
            have hcw := cnt_without hm
            obtain ⟨cq, hcq⟩ : ∃ cq, cnt (L.take (xk.toNat % L.length) ++ L.drop (xk.toNat % L.length + 1)) (keyL ⟨ma, mb, ms⟩) = cq := ⟨_, rfl⟩
            have hcnt := hcw (keyL ⟨ma, mb, ms⟩)
            rw [hcq, if_pos rfl] at hcnt
            have hcl : cq ≤ 201 := by have : cnt L (keyL ⟨ma, mb, ms⟩) ≤ L.length := List.length_filter_le _ _; omega
            have hll : (L.take (xk.toNat % L.length) ++ L.drop (xk.toNat % L.length + 1)).length ≤ k := by rw [List.length_append, List.length_take, List.length_drop]; omega
            have hlm : ∀ m ∈ L.take (xk.toNat % L.length) ++ L.drop (xk.toNat % L.length + 1), MOk m := fun m hm => by
              rcases List.mem_append.1 hm with hm | hm
              · exact HR.out.ok m (List.mem_of_mem_take hm)
              · exact HR.out.ok m (List.mem_of_mem_drop hm)
            have HCW := Lib.hid hcw; have HCQ := Lib.hid hcq; have HLM := Lib.hid hlm
            clear hnet hblk hbl hb hm hfp hcw hlm
            generalize hLL : L.take (xk.toNat % L.length) ++ L.drop (xk.toNat % L.length + 1) = LL at *
            generalize hQQ : xk.toNat % L.length = qq at *
            have k1 : decide ((cq : Int) < 0) = false := by simp
            go_wp2_with (first
              | (go_at_call 12; (refine K12.mono ?_; rintro e w2 ⟨pm, lm, cm, rfl, hb2, hn2, ht2⟩; obtain ⟨pm', cm', hpm⟩ := hb2.slice; cases hpm; have hcv := conv_bin (hb2.mono ((Below.refl _ w2).alloc (Nat.le_refl _) (.cells #[.int .u32 ma, .int .u32 mb, .slice pm ms.length cm] 39))); have hl3 := HR.out.left.keeps ((ht2.block (W.heap.size + 1) (by simp; omega) hnF).trans (HBL.out.block _ hbmlt)); have HL3 := Lib.hid (hl3.keeps (((Below.refl _ w2).alloc (Nat.le_refl _) (.cells #[.int .u32 ma, .int .u32 mb, .slice pm ms.length cm] 39)).block _ hl3.lt)); rw [hLL] at hn2; have HN2 := Lib.hid hn2; have HT2 := Lib.hid ht2; clear hn2 ht2 hl3 hb2))
              | (go_at_call 7; (refine (c7 ma mb ms _ hM0 hM1 hM2 hM3 (by omega)).mono ?_; rintro e w4 ⟨rfl, hB4⟩; obtain ⟨D, hown, hq⟩ := HL3.out.keeps (hB4.block _ HL3.out.lt); have hmap := hown.isMap; have HB4 := Lib.hid hB4; clear hB4))
              | (at_lookup; refine wpList_lookup_own_int _ rfl _ _ 25 rfl 9 3 .i64 law9 Try.underlying25 Try.underlying3 (zero3 _) (W.heap.size + 1) n D rfl hown _ _ rfl HQ.out ?_; intro cc hat hwc; rw [hq, hcnt] at hat; cases hat)
              | (at_mapUpdate; (refine wpList_mapUpdate_own _ rfl _ _ _ 25 rfl 9 3 law9 Try.underlying25 _ (W.heap.size + 1) n D rfl hown (by unfold maxLen; omega) _ _ _ rfl rfl HQ.out _ [] (plainElem_int Try.underlying3 (WalkArith.wf_i64 (by omega))) ?_; intro w5 hown5 hgrow5; have HG5 := Lib.hid hgrow5; clear hown hgrow5))
              | (at_lookup; (refine wpList_lookup_own_int _ rfl _ _ 25 rfl 9 3 .i64 law9 Try.underlying25 Try.underlying3 (zero3 _) (W.heap.size + 1) (n + 1) _ rfl hown5 _ _ rfl HQ.out ?_; intro cc hat hwc; rw [atKey_put_same hmap (show WideAt.IsKeyLit (.string (keyL ⟨ma, mb, ms⟩)) from trivial)] at hat; cases hat)))
            go_roundw
            case rel =>
              have hl5 : LeftAt w5 (W.heap.size + 1) (n + 1) LL := left_put (v := cq) hmap hown5 hq HCQ.out.symm (fun p hp => by have := HCW.out p; rw [if_neg (fun e => hp e.symm)] at this; simpa using this)
              have hB34 : Below w2.heap.size w2 w4 := ((Below.refl _ w2).alloc (Nat.le_refl _) _).trans (HB4.out.mono (by simp))
              obtain ⟨L', F', n', h'⟩ := HR.out.next (HN2.out.below hB34) (fun b hb => .inl hb) (Turn.trans (F' := F) (Turn.trans (F' := F) (Turn.of HBL.out) HT2.out (fun b _ h => h)) (Turn.of hB34) (fun b _ h => h)) (Turn.grown HG5.out fun g e => (by cases e; rfl)) hl5 (by omega) (by omega) HLM.out
              exact ⟨k + 1, L', F', n', by go_num, by omega, h'⟩
            case measure => simp [intOf]; omega
    · go_wp2_with (go_at_call 13; refine (c13 _).mono ?_; rintro e w9 ⟨rfl, hB9⟩)
      go_ret
      exact ⟨rfl, hBw.trans (hB9.mono hBw.size)⟩
end Go.Proofs.NT
