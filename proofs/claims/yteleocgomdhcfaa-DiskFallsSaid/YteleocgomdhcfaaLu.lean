/- Proved: the law: behind a fall each file begins with what was safe of it. Each theorem says its own conditions. -/
import Derived.Test.YteleocgomdhcfaaLt
set_option linter.unusedVariables false
set_option linter.unusedSimpArgs false
namespace Go.Proofs.DK
open Go.RowKit
set_option maxRecDepth 100000 in
set_option maxHeartbeats 4000000 in
theorem c3 (ops : List Opn) (p : Option Addr) (c : Nat) (keep : List Int) (pk : Option Addr) (ck : Nat) (W : World) (hg : Given W p c ops) (hkeep : RdIN W.heap.size W (.slice pk keep.length ck) keep) (hkl : keep.length ≤ 300)
    (hfix : ∀ w, Calls Try.prog 5 #[] w fun e w' => e = .returned (.bool true) ∧ Below w.heap.size w w') :
    Calls Try.prog 3 #[.slice p ops.length c, .slice pk keep.length ck] W fun e W' => e = .returned (.bool true) ∧ Below W.heap.size W W' := by
  have hg1 := hg.cap; have hg2 := hg.max
  have K6 := Lib.hid (c6 W)
  have K5 := Lib.hid hfix
  have HG := Lib.hid hg; have HKEEP := Lib.hid hkeep
  clear hg hkeep hfix
  unfold maxLen at hg2
  generalize hn : ops.length = n at *
  have HN := Lib.hid hn
  clear hn
  unfold ptr at K6
  go_enter Try.func3, Try.ntmps3
  go_wp2_with (first
    | (go_at_call 6; (refine K6.out.mono ?_); rintro e w1 ⟨bd, rfl, hD1, hB1⟩; have HD1 := Lib.hid hD1; have HB1 := Lib.hid hB1; clear hD1 hB1)
    | (go_at_call 5; (refine (K5.out _).mono ?_); rintro e w2 ⟨rfl, hB2⟩; have HB2 := Lib.hid hB2; clear hB2)
    | fail)
  have hs1 := HB1.out.size; have hs2 := HB2.out.size
  have hmx : (w2.alloc (bx ⟨10000, [], false, 0, false, 0, 0⟩ (.slice none 0 0))).heap[w2.heap.size]? = some (bx S0 (.slice none 0 0)) := heap_alloc_new w2 _
  have hbx : Below w2.heap.size w2 (w2.alloc (bx ⟨10000, [], false, 0, false, 0, 0⟩ (.slice none 0 0))) := (Below.refl _ _).alloc (Nat.le_refl _) _
  have hszx : (w2.alloc (bx ⟨10000, [], false, 0, false, 0, 0⟩ (.slice none 0 0))).heap.size = w2.heap.size + 1 := by rw [World.size_alloc]
  obtain ⟨wm, hwm⟩ : ∃ wm, wm = w2.alloc (bx ⟨10000, [], false, 0, false, 0, 0⟩ (.slice none 0 0)) := ⟨_, rfl⟩
  rw [← hwm] at hmx hbx hszx
  have hBm : Below W.heap.size W wm := (HB1.out.trans (HB2.out.mono (by omega))).trans (hbx.mono (by omega))
  have hDm := (HD1.out.below HB2.out).below hbx
  have K7 := c7 ops p c wm (HG.out.at hBm) (by rw [HN.out]; exact hg1) (by unfold maxLen; omega) (fun x hx => by
    obtain ⟨i, hi⟩ := List.getElem?_of_mem hx
    obtain ⟨_, _, _, _, hf⟩ := HG.out.op i x hi
    exact ⟨hf.n, hf.t, hf.b, hf.keep⟩)
  rw [HN.out, hwm] at K7
  unfold CutOut at K7
  have HWM := Lib.hid hwm; have HMX := Lib.hid hmx; have HBM := Lib.hid hBm; have HDM := Lib.hid hDm; have HSX := Lib.hid hszx; have K7 := Lib.hid K7
  clear hwm hmx hbx hszx hBm hDm
  go_at_call 7; (refine K7.out.mono ?_)
  rintro e w3 ⟨m, hm, hm2, rfl, hsm, hB3⟩
  change Below (w2.alloc (bx ⟨10000, [], false, 0, false, 0, 0⟩ (.slice none 0 0))).heap.size (w2.alloc (bx ⟨10000, [], false, 0, false, 0, 0⟩ (.slice none 0 0))) w3 at hB3
  rw [← HWM.out] at hB3
  have hs3 := hB3.size
  rw [HSX.out] at hs3
  have hB0 : Below W.heap.size W w3 := HBM.out.trans (hB3.mono (HBM.out.size))
  have hb0 : Both W.heap.size bd S0 none w3 := Both.start (HDM.out.below hB3)
  have hm0 := (hB3.block w2.heap.size (by rw [HSX.out]; omega)).trans HMX.out
  have HSM := Lib.hid hsm; have HBZ := Lib.hid hB0; have HBO := Lib.hid hb0; have HM0 := Lib.hid hm0
  generalize hnb : w2.heap.size = nb at *
  clear hnb hB3 hsm hB0 hb0 hm0 K7 K6
  go_wp2
  go_loopw [38] (fun i wr => ∃ (k : Nat) (S : Ds) (p3 : Option Addr) (c3 : Nat), i = .int .i64 k ∧ k ≤ m ∧ Both W.heap.size bd S p3 wr ∧ wr.heap[nb]? = some (bx S (.slice p3 S.fs.length c3)) ∧ Ok k S ∧ Lim S ∧ Below W.heap.size W wr) (fun i _ => m - (intOf i).toNat)
  case atStart => exact ⟨0, S0, none, 0, rfl, Nat.zero_le _, HBO.out, HM0.out, Ok.start, Lim.start, HBZ.out⟩
  case round =>
    obtain ⟨k, S, p3, c3, rfl, hk, hbo, hmb, hok, hlim, hBr⟩ := hrel
    by_cases hlt : k < m
    · obtain ⟨x, hx⟩ : ∃ x, ops[k]? = some x := ⟨_, List.getElem?_eq_getElem (by have := HN.out; omega)⟩
      obtain ⟨b, o, rfl, hop, hfit⟩ := HG.out.op k x hx
      obtain ⟨pb, cb, pk2, ck2, q0, q1, q2, q3, q4, q5, q6, qb, qi⟩ := hop.mono hop.lt hBr
      have hxs : x.small := HSM.out x (List.mem_take_iff_getElem.2 ⟨k, by have := HN.out; omega, (List.getElem?_eq_some_iff.1 hx).2⟩)
      have hsr := hBr.size
      have hnr : nb < wr.heap.size := (Array.getElem?_eq_some_iff.1 hmb).1
      have hBx : Below wr.heap.size wr (wr.alloc (.cells (opc x (.slice pb x.b.length cb) (.slice pk2 x.keep.length ck2)) 35)) := (Below.refl _ _).alloc (Nat.le_refl _) _
      have hsx : (wr.alloc (.cells (opc x (.slice pb x.b.length cb) (.slice pk2 x.keep.length ck2)) 35)).heap.size = wr.heap.size + 1 := World.size_alloc _ _
      have K8 := c8 W.heap.size bd k S p3 c3 x pb pk2 cb ck2 (wr.alloc (.cells (opc x (.slice pb x.b.length cb) (.slice pk2 x.keep.length ck2)) 35)) (hbo.below hBx) (by omega) hok (by omega) hlim hxs (qb.mono (hBx.mono hsr)) (qi.mono (hBx.mono hsr))
      have hmx := (hBx.block nb hnr).trans hmb
      have y0 := cellof hmb 0; have y1 := cellof hmb 1; have y2 := cellof hmb 2; have y3 := cellof hmb 3; have y4 := cellof hmb 4; have y5 := cellof hmb 5; have y6 := cellof hmb 6
      simp only [List.getElem?_toArray, List.getElem?_cons_zero, List.getElem?_cons_succ] at y0 y1 y2 y3 y4 y5 y6
      have HOK := Lib.hid hok; have HLIM := Lib.hid hlim; have HBR := Lib.hid hBr; have HBX := Lib.hid hBx; have HMX := Lib.hid hmx; have HSX2 := Lib.hid hsx; have HFT := Lib.hid hfit; have K8 := Lib.hid K8
      have hbn : b < wr.heap.size := Nat.lt_of_lt_of_le hop.lt hsr
      have hnn : nb ≠ wr.heap.size := (by omega)
      have hbb : b ≠ wr.heap.size := (by omega)
      clear hx hop hfit qb qi hxs hbo hmb hok hlim hBr hBx hmx hsx
      unfold ptr MV DoOut at K8
      go_wp2_with (go_at_call 8; (refine K8.out.mono ?_); rintro e w5 ⟨r, p5, c5, rfl, hb5, hB5, hk5⟩; have HB5 := Lib.hid hb5; have HBL5 := Lib.hid hB5; have h5 := ((hk5 nb (Nat.lt_of_lt_of_le hnr HBX.out.size) ⟨_, 31, _, HMX.out, by decide, by decide, by decide⟩).trans HMX.out); have H5 := Lib.hid h5; clear y0 y1 y2 y3 y4 y5 y6 q0 q1 q2 q3 q4 q5 q6; have y0 := cellof h5 0; have y1 := cellof h5 1; have y2 := cellof h5 2; have y3 := cellof h5 3; have y4 := cellof h5 4; have y5 := cellof h5 5; have y6 := cellof h5 6; have fy := (fun o => frozenof h5 o); simp only [List.getElem?_toArray, List.getElem?_cons_zero, List.getElem?_cons_succ] at y0 y1 y2 y3 y4 y5 y6; clear hb5 hB5 hk5 h5; unfold MV)
      go_roundw
      case rel =>
        exact ⟨k + 1, S.does x, p5, c5, by go_num, by omega, HB5.out.other (W' := put7 (S.does x) (.slice p5 (S.does x).fs.length c5) nb w5) H5.out (fun x => by simp) (fun k h => put7_ne h) (put7_size _ _ _ _), put7_at H5.out, HOK.out.does x, HLIM.out.does x HFT.out.N HFT.out.K, put7_below ((HBR.out.trans (HBX.out.mono hsr)).trans HBL5.out) (by omega)⟩
      case measure => simp [intOf]; omega
    · have hkm : k = m := by omega
      subst hkm
      obtain ⟨G, hD, hG, hF⟩ := hbo
      have hsr := hBr.size
      have hnr : nb < wr.heap.size := (Array.getElem?_eq_some_iff.1 hmb).1
      have hgn : ¬ G nb := fun h => (hG nb h).2.2 ⟨_, 31, _, hmb, by decide, by decide, by decide⟩
      have hnm : ∀ f ∈ S.fs, f.n.length ≤ 1000000 := fun f hf => Nat.le_trans (hok.name f hf).2 (by decide)
      have hmany : S.fs.length ≤ 1000 := Nat.le_trans hok.many (by decide)
      have hused : DK.used S.fs ≤ 1000000 := Nat.le_trans hok.used (by decide)
      have K9 := Lib.hid (c9 wr hD hnm hmany)
      have HD := Lib.hid hD; have HGG := Lib.hid hG; have HF := Lib.hid hF; have HMB := Lib.hid hmb; have HOK := Lib.hid hok; have HLIM := Lib.hid hlim; have HBR := Lib.hid hBr; have HNM := Lib.hid hnm; have HMANY := Lib.hid hmany; have HUSED := Lib.hid hused
      clear hD hG hF hmb hok hlim hBr hnm hmany hused
      unfold ptr ListOut at K9
      go_wp2_with (fail)
      go_at_call 9; (refine K9.out.mono ?_); rintro e w4 ⟨pL, cL, rfl, hrow, hB4⟩
      have hs4 := hB4.size
      have hD4 := HD.out.below hB4
      have K10 := Lib.hid (c10 w4 hD4 HOK.out.falls.1 (Int.le_trans HOK.out.falls.2 (by omega)))
      have HROW := Lib.hid hrow; have HB4 := Lib.hid hB4
      clear hrow hB4 hD4 K9
      unfold ptr at K10
      go_wp2_with (fail)
      go_at_call 10; (refine K10.out.mono ?_); rintro e w5 ⟨rfl, G1, hG1, hD5, hT5⟩
      have hs5 := hT5.size
      have K11 := Lib.hid (show Calls Try.prog 11 #[ptr bd] w5 fun e w' => e = .returned (.bool false) ∧ w5 = w' from c11 w5 hD5)
      have hfine : Fine S.crash := ⟨HOK.out.crash.falls.1, Int.le_trans HOK.out.crash.falls.2 (by omega), Int.le_refl _, by simp [Ds.crash], HOK.out.many, HOK.out.srt⟩
      have K12 := c12 (S := S.crash) [97] [] none 0 w5 hD5 hfine (fun W _ _ => rd_nil W) (by have := HOK.out.room; simp only [Ds.crash]; omega) HUSED.out (by simp) (by simp) (by simp [Ds.crash])
      have hhow : S.crash.how = 2 := by simp [Ds.crash, Ds.how]
      have hE : S.crash.appendE [97] [] = 9 := by unfold Ds.appendE; rw [hhow]; rfl
      have hA : S.crash.append [97] [] = S.crash := by unfold Ds.append; rw [if_pos hhow]
      rw [hE, hA] at K12
      have K12 := Lib.hid K12
      have HT5 := Lib.hid hT5; have HG1 := Lib.hid hG1; have hT5' := Lib.hid hT5
      clear hT5 hG1 hD5 hfine hhow hE hA K10
      unfold ptr at K11 K12
      have HN0 := Lib.hid (show W.heap.size ≤ nb from by omega)
      go_wp2_with (first
        | (go_at_call 11; (refine K11.out.mono ?_); rintro e w' ⟨rfl, rfl⟩)
        | (go_at_call 12; (refine K12.out.mono ?_); rintro e w6 ⟨rfl, G2, hG2, hD6, hT6⟩; have hs6 := hT6.size; have hW6 : Below W.heap.size W w6 := (hT6.below (hT5'.out.below (HBR.out.trans (HB4.out.mono (by have := HN0.out; omega))) (fun b hb => (HGG.out b hb).1) (by have := HN0.out; omega)) (fun b hb => by (rcases HG1.out b hb with h | h; exact (HGG.out b h).1; have := HN0.out; omega)) (by have := HN0.out; omega)); have HW6 := Lib.hid hW6; have HE := Lib.hid (own_empty3 w6 w6.heap.size (Nat.le_refl _)); have HRE := Lib.hid (HKEEP.out.rd (Nat.le_refl _) (hW6.alloc hW6.size (.cells #[] 3))); have HNE := Lib.hid (show w6.heap.size ≤ (w6.alloc (.cells #[] 3)).heap.size from by rw [World.size_alloc]; omega); have HT6 := Lib.hid hT6; have HG2 := Lib.hid hG2; have HD6 := Lib.hid hD6; clear hT6 hG2 hD6 hW6)
        | (at_builtin; refine wpList_copy_int rfl rfl _ _ rfl (by rfl) (by rfl) HE.out HNE.out HRE.out (by omega) ?_; intro p7 c7 w7 hi7 hg7; have HI7 := Lib.hid hi7; have HG7 := Lib.hid hg7; clear hi7 hg7)
        | fail)
      have hsE : (w6.alloc (.cells #[] 3)).heap.size = w6.heap.size + 1 := World.size_alloc _ _
      have hs7 := HG7.out.size
      rw [hsE] at hs7
      have hB7 : Below w6.heap.size w6 w7 := ((Below.refl _ _).alloc (Nat.le_refl _) _).grown HG7.out (by omega) (fun k e => by cases e; exact Nat.le_refl _)
      have hD7 := HD6.out.trim.below hB7
      have hrd7 := HI7.out.rd
      have K13 := c13 keep p7 c7 w7 hD7 (fun W hk hz => by
        obtain ⟨pq, cq, e, hr⟩ := hrd7.1
        cases e
        refine ⟨p7, c7, rfl, fun j x hx => ?_⟩
        obtain ⟨b', o', hp, hb', hc⟩ := hr j x hx
        subst hp
        exact ⟨b', o', rfl, by omega, (World.cell?_of_block (a := ⟨b', o' + j, none⟩) (hk b' hb' (fun hg => by have := (hrd7.2 b' rfl).1; omega))).trans hc⟩) (by omega) HOK.out.safe HNM.out HMANY.out HUSED.out
      have K13 := Lib.hid K13; have HB7 := Lib.hid hB7
      clear hD7 hrd7 hB7 hsE
      unfold ptr at K13
      go_at_call 13; (refine K13.out.mono ?_); rintro e w8 ⟨rfl, G3, hG3, hD8, hT8⟩
      have hs8 := hT8.size
      have hT48 : Turn G w4 w8 := ((hT5'.out.trans HT6.out (fun b hb h => by
          rcases HG1.out b h with h | h
          · exact h
          · omega)).trans (Turn.of (F := G) HB7.out) (fun b _ h => h)).trans hT8 (fun b hb h => by
          rcases HG2.out b h.1 with h | h
          · rcases HG1.out b h with h | h
            · exact h
            · omega
          · omega)
      have hlen2 : (S.crash.wake keep).fs.length = S.fs.length := wakes_len keep 0 S.fs
      have hnm2 : (S.crash.wake keep).fs.map (fun f => Value.string (bs f.n)) = S.fs.map (fun f => Value.string (bs f.n)) := by
        have h := wakes_names keep 0 S.fs
        have h2 := congrArg (List.map fun n => Value.string (bs n)) h
        rw [List.map_map, List.map_map] at h2
        exact h2
      have hnl2 : ∀ f ∈ (S.crash.wake keep).fs, f.n.length ≤ 1000000 := fun f hf => by
        obtain ⟨j, g, hg, e⟩ := wakes_mem hf
        rw [e]
        exact HNM.out g (List.mem_of_getElem? hg)
      have hok2 : Ok (k + 1 + 1) (S.crash.wake keep) := HOK.out.crash.wake keep
      have K9 := c9 w8 hD8 hnl2 (by rw [hlen2]; exact HMANY.out)
      unfold ListOut at K9
      rw [hlen2, hnm2] at K9
      have K9 := Lib.hid K9; have HT48 := Lib.hid hT48; have HD8 := Lib.hid hD8; have HOK2 := Lib.hid hok2
      have hmb8 : w8.heap[nb]? = some (bx S (.slice p3 S.fs.length c3)) := (hT48.block nb (by omega) hgn).trans ((HB4.out.block nb hnr).trans HMB.out)
      have HMB8 := Lib.hid hmb8
      clear hT48 hD8 hnm2 hnl2 hT8 hG3 hlen2 hok2 hmb8 K12 K13 K11
      unfold ptr at K9
      go_wp2_with (fail)
      go_at_call 9; (refine K9.out.mono ?_); rintro e w9 ⟨pM, cM, rfl, hrow9, hB9⟩
      have hs9 := hB9.size
      have hD9 := HD8.out.below hB9
      have K11 := Lib.hid (show Calls Try.prog 11 #[ptr bd] w9 fun e w' => e = .returned (.bool true) ∧ w9 = w' from c11 w9 hD9)
      have hmb9 := (hB9.block nb (by omega)).trans HMB8.out
      have y1 := cellof hmb9 1
      simp only [List.getElem?_toArray, List.getElem?_cons_zero, List.getElem?_cons_succ] at y1
      have HROW9 := Lib.hid hrow9; have HB9 := Lib.hid hB9; have HD9 := Lib.hid hD9
      clear hrow9 hB9 hD9 hmb9 K9
      unfold ptr at K11
      go_wp2_with (first
        | (go_at_call 11; (refine K11.out.mono ?_); rintro e w' ⟨rfl, rfl⟩)
        | fail)
      have hF9 : @FsAt (okP (fun _ => False) 0) w9 p3 S.fs := HF.out.change (by omega) (fun b hb hok hc => ⟨?_, fun h => h.elim⟩) (fun b hb ht => ?_)
      rotate_left
      · exact (HB9.out.block b (by omega)).trans ((HT48.out.block b (by omega) (fun hg => by have := hok hg; omega)).trans (HB4.out.block b hb))
      · exact (HB9.out.block b (by omega)).trans ((HT48.out.block b (by omega) (fun hg => (HGG.out b hg).2.2 ht.kp)).trans (HB4.out.block b hb))
      have HF9 := Lib.hid hF9
      clear hF9 y1
      generalize hL : S.fs.length = L at *
      have HL := Lib.hid hL
      clear hL
      have hL1 := HMANY.out
      go_loopw [81] (fun i wq => ∃ j : Nat, i = .int .i64 j ∧ j ≤ L ∧ Below w9.heap.size w9 wq) (fun i _ => L - (intOf i).toNat)
      case atStart => exact ⟨0, rfl, Nat.zero_le _, Below.refl _ _⟩
      case round =>
        obtain ⟨j, rfl, hjL, hBq⟩ := hrel
        have hsq := hBq.size
        by_cases hjlt : j < L
        · have HJLT := Lib.hid hjlt
          obtain ⟨f, hf⟩ : ∃ f, S.fs[j]? = some f := ⟨_, List.getElem?_eq_getElem (by have := HL.out; omega)⟩
          obtain ⟨bq, rfl, hbq, e0, ⟨v, e1, hv⟩, e2, _⟩ := HF9.out j f hf
          obtain ⟨pv, cv, rfl, hcv, _⟩ := id hv
          have hq := keep_le keep j (HOK.out.safe f (List.mem_of_getElem? hf))
          have hg2 : (S.crash.wake keep).fs[j]? = some { f with b := f.b.take (keepOf keep j f), s := keepOf keep j f } := by
            have := wakes_get keep 0 S.fs j
            rw [hf, Nat.zero_add] at this
            exact this
          have hlk := HOK2.out.srt.look (List.mem_of_getElem? hg2)
          simp only at hlk
          have hql : (f.b.take (keepOf keep j f)).length = keepOf keep j f := by rw [List.length_take]; omega
          have hfb := Nat.le_trans (used_mem (List.mem_of_getElem? hf)) HUSED.out
          obtain ⟨gL, rfl, hgL, hgL4, hcL⟩ := names_at (by rw [HL.out]; exact HROW.out) hf
          obtain ⟨gM, rfl, hgM, hgM9, hcM⟩ := names_at (by rw [HL.out]; exact HROW9.out) hf
          generalize hqe : keepOf keep j f = q at *
          clear hqe
          have hbx : Below wr.heap.size wr (wr.alloc (.cells #[.string (bs f.n), .slice pv f.b.length cv, .int .i64 f.s] 43)) := (Below.refl _ _).alloc (Nat.le_refl _) _
          have hbx9 : Below w9.heap.size w9 (wr.alloc (.cells #[.string (bs f.n), .slice pv f.b.length cv, .int .i64 f.s] 43)) := hBq.trans (hbx.mono hsq)
          have hbb : ∀ g ∈ (S.crash.wake keep).fs, g.b.length ≤ 1000000 := fun g hg => Nat.le_trans (used_mem hg) (Nat.le_trans HOK2.out.used (by decide))
          have K14 := c14 (S := S.crash.wake keep) f.n _ (HD9.out.below hbx9) hbb
          have hsz : (wr.alloc (.cells #[.string (bs f.n), .slice pv f.b.length cv, .int .i64 f.s] 43)).heap.size = wr.heap.size + 1 := World.size_alloc _ _
          have e0 := (hBq.cell (p := ⟨bq, _, none⟩) hbq).trans e0
          have e1 := (hBq.cell (p := ⟨bq, _, none⟩) hbq).trans e1
          have e2 := (hBq.cell (p := ⟨bq, _, none⟩) hbq).trans e2
          have hbl : bq < wr.heap.size := (by omega)
          have hbn : bq ≠ wr.heap.size := (by omega)
          have hx9 := heap_alloc_new wr (.cells #[.string (bs f.n), .slice pv f.b.length cv, .int .i64 f.s] 43)
          unfold ptr at K14
          unfold ReadOut at K14
          have HX9 := Lib.hid hx9; have HBX := Lib.hid hbx; have HBX9 := Lib.hid hbx9; have HSZ := Lib.hid hsz; have HLK := Lib.hid hlk; have HQL := Lib.hid hql; have HV := Lib.hid hv; have K14 := Lib.hid K14; have HCL := Lib.hid hcL; have HCM := Lib.hid hcM; have HBQ := Lib.hid hBq
          clear hx9 hbx hbx9 hsz hlk hql hv hcL hcM hBq hbb hf hg2
          go_wp2_with (fail)
          go_at_call 14; (refine K14.out.mono ?_); rintro e wb ⟨hBb, hcase⟩
          change Below (wr.alloc (.cells #[.string (bs f.n), .slice pv f.b.length cv, .int .i64 f.s] 43)).heap.size (wr.alloc (.cells #[.string (bs f.n), .slice pv f.b.length cv, .int .i64 f.s] 43)) wb at hBb
          have hsb := hBb.size
          rw [HSZ.out] at hsb
          have hBb9 : Below w9.heap.size w9 wb := HBX9.out.trans (hBb.mono HBX9.out.size)
          rcases hcase with h | h | ⟨f2, pf, cf, _, ef, rfl, hrd⟩
          · exact absurd h.1 (by simp [Ds.wake, Ds.crash])
          · exact absurd h.2.1 (by rw [HLK.out]; simp)
          rw [HLK.out] at ef
          cases ef
          simp only [HQL.out] at hrd ⊢
          have hrd2 : @Rd okAll wb (.slice pv f.b.length cv) f.b := HV.out.all.mono hBb9
          have h48 := HT48.out.size
          have hx : wb.heap[wr.heap.size]? = some (.cells #[.string (bs f.n), .slice pv f.b.length cv, .int .i64 f.s] 43) := (hBb.block _ (by rw [HSZ.out]; omega)).trans HX9.out
          have x0 := cellof hx 0; have x1 := cellof hx 1; have x2 := cellof hx 2
          have n1 := (hBb9.cell (p := ⟨gM, j, none⟩) hgM9).trans HCM.out
          have n2 := (hBb9.cell (p := ⟨gL, j, none⟩) (show gL < w9.heap.size by omega)).trans ((HB9.out.cell (p := ⟨gL, j, none⟩) (show gL < w8.heap.size by omega)).trans ((World.cell?_of_block (a := ⟨gL, j, none⟩) (HT48.out.block gL hgL4 (fun hg => by have := (HGG.out gL hg).2.1; omega))).trans HCL.out))
          simp only [List.getElem?_toArray, List.getElem?_cons_zero, List.getElem?_cons_succ] at x0 x1 x2
          have hDb := HD9.out.below hBb9
          have K15 := c15 (S := S.crash.wake keep) f.n wb.drew (hDb.keep fun _ _ _ => rfl)
          rw [HLK.out] at K15
          simp only at K15
          unfold ptr at K15
          have hcv1 : (convert 33 9 (.slice pf q cf)).run Try.prog wb.drew = .ok (.string (bs (f.b.take q))) wb.drew := conv33 (hrd.keep (fun _ _ => rfl) (Nat.le_refl _))
          have hcv2 : (convert 33 9 (.slice pv q cv)).run Try.prog wb.drew = .ok (.string (bs (f.b.take q))) wb.drew := by
            obtain ⟨pp, cc, ee, h1, h2⟩ := hrd2
            cases ee
            exact @conv33 okAll wb.drew _ _ ⟨pv, cv, by rw [HQL.out], by rw [HQL.out]; omega, fun i x hi => by
              rw [List.getElem?_take] at hi
              split at hi
              · exact h2 i x hi
              · cases hi⟩
          have HBB9 := Lib.hid hBb9; have K15 := Lib.hid K15
          clear hBb hBb9 hrd hrd2 hx hDb K14
          go_wp2
          have hcq : (q : Int) ≤ (cv : Int) := by omega
          have hqn : ((q : Int)).toNat = q := by omega
          have hdc1 : decide (q < f.s) = false := decide_eq_false (by omega)
          have hdc2 : decide (f.b.length < q) = false := decide_eq_false (by omega)
          refine wp_region_held_drew (S := (fun w' => w'.cell? ⟨gM, j, none⟩ = some (.string (bs f.n)) ∧ w'.cell? ⟨gL, j, none⟩ = some (.string (bs f.n)) ∧ w'.cell? ⟨wr.heap.size, 0, none⟩ = some (.string (bs f.n)) ∧ w'.cell? ⟨wr.heap.size, 1, none⟩ = some (.slice pv f.b.length cv) ∧ w'.cell? ⟨wr.heap.size, 2, none⟩ = some (.int .i64 f.s) ∧ (convert 33 9 (.slice pf q cf)).run Try.prog w' = .ok (.string (bs (f.b.take q))) w' ∧ (convert 33 9 (.slice pv q cv)).run Try.prog w' = .ok (.string (bs (f.b.take q))) w')) (by kernel_rfl) ?_ (fun hHeld => ?_)
          · (try dsimp only)
            go_keep
          refine wpAnyH_take (i := 0) (oi := { dst := some 93, op := Op.move (Operand.tmp 11), type := 38, pos := "law.go:147", after := #[], guard := none }) (v := ?_) rfl (by kernel_rfl) (by kernel_rfl) (by kernel_rfl) (fun _ _ _ h => h) (Or.inl ⟨by rfl, ?_⟩) hHeld ?_
          rotate_left
          · intro w' hSw
            (try dsimp only at hSw)
            go_simp
            all_goals with_reducible rfl
          try simp only [Act.put, List.setIfInBounds_toArray, List.set_cons_zero, List.set_cons_succ]
          refine wpAnyH_take (i := 1) (oi := { dst := some 94, op := Op.move (Operand.tmp 12), type := 3, pos := "law.go:147", after := #[], guard := none }) (v := ?_) rfl (by kernel_rfl) (by kernel_rfl) (by kernel_rfl) (fun _ _ _ h => h) (Or.inl ⟨by rfl, ?_⟩) hHeld ?_
          rotate_left
          · intro w' hSw
            (try dsimp only at hSw)
            go_simp
            all_goals with_reducible rfl
          try simp only [Act.put, List.setIfInBounds_toArray, List.set_cons_zero, List.set_cons_succ]
          refine wpAnyH_take (i := 2) (oi := { dst := some 95, op := Op.indexAddr 38 (Operand.tmp 93) (Operand.tmp 94), type := 0, pos := "law.go:147", after := #[{ on := 0, ground := Ground.data }, { on := 1, ground := Ground.data }], guard := none }) (v := ?_) rfl (by kernel_rfl) (by kernel_rfl) (by kernel_rfl) (fun _ _ _ h => h) (Or.inl ⟨by rfl, ?_⟩) hHeld ?_
          rotate_left
          · intro w' hSw
            (try dsimp only at hSw)
            go_simp
            all_goals with_reducible rfl
          try simp only [Act.put, List.setIfInBounds_toArray, List.set_cons_zero, List.set_cons_succ]
          refine wpAnyH_take (i := 3) (oi := { dst := some 96, op := Op.load 9 (Operand.tmp 95), type := 9, pos := "law.go:147", after := #[{ on := 2, ground := Ground.data }], guard := none }) (v := ?_) rfl (by kernel_rfl) (by kernel_rfl) (by kernel_rfl) (fun _ _ _ h => h) (Or.inl ⟨by rfl, ?_⟩) hHeld ?_
          rotate_left
          · intro w' hSw
            (try dsimp only at hSw)
            go_simp
            all_goals with_reducible rfl
          try simp only [Act.put, List.setIfInBounds_toArray, List.set_cons_zero, List.set_cons_succ]
          refine wpAnyH_take (i := 4) (oi := { dst := some 97, op := Op.move (Operand.tmp 10), type := 38, pos := "law.go:147", after := #[], guard := none }) (v := ?_) rfl (by kernel_rfl) (by kernel_rfl) (by kernel_rfl) (fun _ _ _ h => h) (Or.inl ⟨by rfl, ?_⟩) hHeld ?_
          rotate_left
          · intro w' hSw
            (try dsimp only at hSw)
            go_simp
            all_goals with_reducible rfl
          try simp only [Act.put, List.setIfInBounds_toArray, List.set_cons_zero, List.set_cons_succ]
          refine wpAnyH_take (i := 5) (oi := { dst := some 98, op := Op.move (Operand.tmp 12), type := 3, pos := "law.go:147", after := #[], guard := none }) (v := ?_) rfl (by kernel_rfl) (by kernel_rfl) (by kernel_rfl) (fun _ _ _ h => h) (Or.inl ⟨by rfl, ?_⟩) hHeld ?_
          rotate_left
          · intro w' hSw
            (try dsimp only at hSw)
            go_simp
            all_goals with_reducible rfl
          try simp only [Act.put, List.setIfInBounds_toArray, List.set_cons_zero, List.set_cons_succ]
          refine wpAnyH_take (i := 6) (oi := { dst := some 99, op := Op.indexAddr 38 (Operand.tmp 97) (Operand.tmp 98), type := 0, pos := "law.go:147", after := #[{ on := 4, ground := Ground.data }, { on := 5, ground := Ground.data }], guard := none }) (v := ?_) rfl (by kernel_rfl) (by kernel_rfl) (by kernel_rfl) (fun _ _ _ h => h) (Or.inl ⟨by rfl, ?_⟩) hHeld ?_
          rotate_left
          · intro w' hSw
            (try dsimp only at hSw)
            go_simp
            all_goals with_reducible rfl
          try simp only [Act.put, List.setIfInBounds_toArray, List.set_cons_zero, List.set_cons_succ]
          refine wpAnyH_take (i := 7) (oi := { dst := some 100, op := Op.load 9 (Operand.tmp 99), type := 9, pos := "law.go:147", after := #[{ on := 6, ground := Ground.data }], guard := none }) (v := ?_) rfl (by kernel_rfl) (by kernel_rfl) (by kernel_rfl) (fun _ _ _ h => h) (Or.inl ⟨by rfl, ?_⟩) hHeld ?_
          rotate_left
          · intro w' hSw
            (try dsimp only at hSw)
            go_simp
            all_goals with_reducible rfl
          try simp only [Act.put, List.setIfInBounds_toArray, List.set_cons_zero, List.set_cons_succ]
          refine wpAnyH_take (i := 8) (oi := { dst := some 101, op := Op.binOp BinOp.neq 9 (Operand.tmp 96) (Operand.tmp 100) 9, type := 4, pos := "law.go:147", after := #[{ on := 3, ground := Ground.data }, { on := 7, ground := Ground.data }], guard := none }) (v := ?_) rfl (by kernel_rfl) (by kernel_rfl) (by kernel_rfl) (fun _ _ _ h => h) (Or.inl ⟨by rfl, ?_⟩) hHeld ?_
          rotate_left
          · intro w' hSw
            (try dsimp only at hSw)
            go_simp
            all_goals with_reducible rfl
          try simp only [Act.put, List.setIfInBounds_toArray, List.set_cons_zero, List.set_cons_succ]
          refine wpAnyH_take (i := 9) (oi := { dst := some 102, op := Op.move (Operand.tmp 101), type := 4, pos := "law.go:147", after := #[{ on := 8, ground := Ground.data }], guard := none }) (v := ?_) rfl (by kernel_rfl) (by kernel_rfl) (by kernel_rfl) (fun _ _ _ h => h) (Or.inl ⟨by rfl, ?_⟩) hHeld ?_
          rotate_left
          · intro w' hSw
            (try dsimp only at hSw)
            go_simp
            all_goals with_reducible rfl
          try simp only [Act.put, List.setIfInBounds_toArray, List.set_cons_zero, List.set_cons_succ]
          refine wpAnyH_take (i := 10) (oi := { dst := some 103, op := Op.move (Operand.tmp 15), type := 26, pos := "law.go:147", after := #[{ on := 9, ground := Ground.guard }], guard := some (9, false) }) (v := ?_) rfl (by kernel_rfl) (by kernel_rfl) (by kernel_rfl) (fun _ _ _ h => h) (Or.inl ⟨by rfl, ?_⟩) hHeld ?_
          rotate_left
          · intro w' hSw
            (try dsimp only at hSw)
            go_simp
            all_goals with_reducible rfl
          try simp only [Act.put, List.setIfInBounds_toArray, List.set_cons_zero, List.set_cons_succ]
          refine wpAnyH_take (i := 11) (oi := { dst := some 104, op := Op.binOp BinOp.neq 26 (Operand.tmp 103) (Operand.const (Value.int IntKind.i64 0)) 26, type := 4, pos := "law.go:147", after := #[{ on := 10, ground := Ground.data }, { on := 9, ground := Ground.guard }], guard := some (9, false) }) (v := ?_) rfl (by kernel_rfl) (by kernel_rfl) (by kernel_rfl) (fun _ _ _ h => h) (Or.inl ⟨by rfl, ?_⟩) hHeld ?_
          rotate_left
          · intro w' hSw
            (try dsimp only at hSw)
            go_simp
            all_goals with_reducible rfl
          try simp only [Act.put, List.setIfInBounds_toArray, List.set_cons_zero, List.set_cons_succ]
          refine wpAnyH_take (i := 12) (oi := { dst := some 105, op := Op.pick (Operand.tmp 102) (Operand.const (Value.bool true)) (Operand.tmp 104), type := 4, pos := "law.go:147", after := #[{ on := 9, ground := Ground.data }, { on := 11, ground := Ground.data }], guard := none }) (v := ?_) rfl (by kernel_rfl) (by kernel_rfl) (by kernel_rfl) (fun _ _ _ h => h) (Or.inl ⟨by rfl, ?_⟩) hHeld ?_
          rotate_left
          · intro w' hSw
            (try dsimp only at hSw)
            go_simp
            all_goals with_reducible rfl
          try simp only [Act.put, List.setIfInBounds_toArray, List.set_cons_zero, List.set_cons_succ]
          refine wpAnyH_take (i := 13) (oi := { dst := some 106, op := Op.move (Operand.tmp 105), type := 4, pos := "law.go:147", after := #[{ on := 12, ground := Ground.data }, { on := 9, ground := Ground.chain }], guard := none }) (v := ?_) rfl (by kernel_rfl) (by kernel_rfl) (by kernel_rfl) (fun _ _ _ h => h) (Or.inl ⟨by rfl, ?_⟩) hHeld ?_
          rotate_left
          · intro w' hSw
            (try dsimp only at hSw)
            go_simp
            all_goals with_reducible rfl
          try simp only [Act.put, List.setIfInBounds_toArray, List.set_cons_zero, List.set_cons_succ]
          refine wpAnyH_take (i := 14) (oi := { dst := some 107, op := Op.move (Operand.tmp 14), type := 33, pos := "law.go:147", after := #[{ on := 13, ground := Ground.guard }], guard := some (13, false) }) (v := ?_) rfl (by kernel_rfl) (by kernel_rfl) (by kernel_rfl) (fun _ _ _ h => h) (Or.inl ⟨by rfl, ?_⟩) hHeld ?_
          rotate_left
          · intro w' hSw
            (try dsimp only at hSw)
            go_simp
            all_goals with_reducible rfl
          try simp only [Act.put, List.setIfInBounds_toArray, List.set_cons_zero, List.set_cons_succ]
          refine wpAnyH_take (i := 15) (oi := { dst := some 108, op := Op.call { callee := Callee.builtin Builtin.len, args := #[Operand.tmp 107], argTypes := #[33] }, type := 3, pos := "law.go:147", after := #[{ on := 14, ground := Ground.data }, { on := 13, ground := Ground.guard }], guard := some (13, false) }) (v := ?_) rfl (by kernel_rfl) (by kernel_rfl) (by kernel_rfl) (fun _ _ _ h => h) (Or.inl ⟨by rfl, ?_⟩) hHeld ?_
          rotate_left
          · intro w' hSw
            (try dsimp only at hSw)
            go_simp
            all_goals with_reducible rfl
          try simp only [Act.put, List.setIfInBounds_toArray, List.set_cons_zero, List.set_cons_succ]
          refine wpAnyH_take (i := 16) (oi := { dst := some 109, op := Op.fieldAddr 43 (Operand.tmp 13) 2, type := 0, pos := "law.go:147", after := #[{ on := 13, ground := Ground.guard }], guard := some (13, false) }) (v := ?_) rfl (by kernel_rfl) (by kernel_rfl) (by kernel_rfl) (fun _ _ _ h => h) (Or.inl ⟨by rfl, ?_⟩) hHeld ?_
          rotate_left
          · intro w' hSw
            (try dsimp only at hSw)
            go_simp
            all_goals with_reducible rfl
          try simp only [Act.put, List.setIfInBounds_toArray, List.set_cons_zero, List.set_cons_succ]
          refine wpAnyH_take (i := 17) (oi := { dst := some 110, op := Op.load 3 (Operand.tmp 109), type := 3, pos := "law.go:147", after := #[{ on := 16, ground := Ground.data }, { on := 13, ground := Ground.guard }], guard := some (13, false) }) (v := ?_) rfl (by kernel_rfl) (by kernel_rfl) (by kernel_rfl) (fun _ _ _ h => h) (Or.inl ⟨by rfl, ?_⟩) hHeld ?_
          rotate_left
          · intro w' hSw
            (try dsimp only at hSw)
            go_simp
            all_goals with_reducible rfl
          try simp only [Act.put, List.setIfInBounds_toArray, List.set_cons_zero, List.set_cons_succ]
          refine wpAnyH_take (i := 18) (oi := { dst := some 111, op := Op.binOp BinOp.lss 3 (Operand.tmp 108) (Operand.tmp 110) 3, type := 4, pos := "law.go:147", after := #[{ on := 15, ground := Ground.data }, { on := 17, ground := Ground.data }, { on := 13, ground := Ground.guard }], guard := some (13, false) }) (v := ?_) rfl (by kernel_rfl) (by kernel_rfl) (by kernel_rfl) (fun _ _ _ h => h) (Or.inl ⟨by rfl, ?_⟩) hHeld ?_
          rotate_left
          · intro w' hSw
            (try dsimp only at hSw)
            go_simp
            all_goals with_reducible rfl
          try simp only [Act.put, List.setIfInBounds_toArray, List.set_cons_zero, List.set_cons_succ]
          refine wpAnyH_take (i := 19) (oi := { dst := some 112, op := Op.pick (Operand.tmp 106) (Operand.const (Value.bool true)) (Operand.tmp 111), type := 4, pos := "law.go:147", after := #[{ on := 13, ground := Ground.data }, { on := 18, ground := Ground.data }], guard := none }) (v := ?_) rfl (by kernel_rfl) (by kernel_rfl) (by kernel_rfl) (fun _ _ _ h => h) (Or.inl ⟨by rfl, ?_⟩) hHeld ?_
          rotate_left
          · intro w' hSw
            (try dsimp only at hSw)
            go_simp
            all_goals with_reducible rfl
          try simp only [Act.put, List.setIfInBounds_toArray, List.set_cons_zero, List.set_cons_succ]
          refine wpAnyH_take (i := 20) (oi := { dst := some 113, op := Op.move (Operand.tmp 112), type := 4, pos := "law.go:147", after := #[{ on := 19, ground := Ground.data }, { on := 13, ground := Ground.chain }], guard := none }) (v := ?_) rfl (by kernel_rfl) (by kernel_rfl) (by kernel_rfl) (fun _ _ _ h => h) (Or.inl ⟨by rfl, ?_⟩) hHeld ?_
          rotate_left
          · intro w' hSw
            (try dsimp only at hSw)
            go_simp
            all_goals with_reducible rfl
          try simp only [Act.put, List.setIfInBounds_toArray, List.set_cons_zero, List.set_cons_succ]
          refine wpAnyH_take (i := 21) (oi := { dst := some 114, op := Op.move (Operand.tmp 14), type := 33, pos := "law.go:147", after := #[{ on := 20, ground := Ground.guard }], guard := some (20, false) }) (v := ?_) rfl (by kernel_rfl) (by kernel_rfl) (by kernel_rfl) (fun _ _ _ h => h) (Or.inl ⟨by rfl, ?_⟩) hHeld ?_
          rotate_left
          · intro w' hSw
            (try dsimp only at hSw)
            go_simp
            all_goals with_reducible rfl
          try simp only [Act.put, List.setIfInBounds_toArray, List.set_cons_zero, List.set_cons_succ]
          refine wpAnyH_take (i := 22) (oi := { dst := some 115, op := Op.call { callee := Callee.builtin Builtin.len, args := #[Operand.tmp 114], argTypes := #[33] }, type := 3, pos := "law.go:147", after := #[{ on := 21, ground := Ground.data }, { on := 20, ground := Ground.guard }], guard := some (20, false) }) (v := ?_) rfl (by kernel_rfl) (by kernel_rfl) (by kernel_rfl) (fun _ _ _ h => h) (Or.inl ⟨by rfl, ?_⟩) hHeld ?_
          rotate_left
          · intro w' hSw
            (try dsimp only at hSw)
            go_simp
            all_goals with_reducible rfl
          try simp only [Act.put, List.setIfInBounds_toArray, List.set_cons_zero, List.set_cons_succ]
          refine wpAnyH_take (i := 23) (oi := { dst := some 116, op := Op.fieldAddr 43 (Operand.tmp 13) 1, type := 0, pos := "law.go:147", after := #[{ on := 20, ground := Ground.guard }], guard := some (20, false) }) (v := ?_) rfl (by kernel_rfl) (by kernel_rfl) (by kernel_rfl) (fun _ _ _ h => h) (Or.inl ⟨by rfl, ?_⟩) hHeld ?_
          rotate_left
          · intro w' hSw
            (try dsimp only at hSw)
            go_simp
            all_goals with_reducible rfl
          try simp only [Act.put, List.setIfInBounds_toArray, List.set_cons_zero, List.set_cons_succ]
          refine wpAnyH_take (i := 24) (oi := { dst := some 117, op := Op.load 33 (Operand.tmp 116), type := 33, pos := "law.go:147", after := #[{ on := 23, ground := Ground.data }, { on := 20, ground := Ground.guard }], guard := some (20, false) }) (v := ?_) rfl (by kernel_rfl) (by kernel_rfl) (by kernel_rfl) (fun _ _ _ h => h) (Or.inl ⟨by rfl, ?_⟩) hHeld ?_
          rotate_left
          · intro w' hSw
            (try dsimp only at hSw)
            go_simp
            all_goals with_reducible rfl
          try simp only [Act.put, List.setIfInBounds_toArray, List.set_cons_zero, List.set_cons_succ]
          refine wpAnyH_take (i := 25) (oi := { dst := some 118, op := Op.call { callee := Callee.builtin Builtin.len, args := #[Operand.tmp 117], argTypes := #[33] }, type := 3, pos := "law.go:147", after := #[{ on := 24, ground := Ground.data }, { on := 20, ground := Ground.guard }], guard := some (20, false) }) (v := ?_) rfl (by kernel_rfl) (by kernel_rfl) (by kernel_rfl) (fun _ _ _ h => h) (Or.inl ⟨by rfl, ?_⟩) hHeld ?_
          rotate_left
          · intro w' hSw
            (try dsimp only at hSw)
            go_simp
            all_goals with_reducible rfl
          try simp only [Act.put, List.setIfInBounds_toArray, List.set_cons_zero, List.set_cons_succ]
          refine wpAnyH_take (i := 26) (oi := { dst := some 119, op := Op.binOp BinOp.gtr 3 (Operand.tmp 115) (Operand.tmp 118) 3, type := 4, pos := "law.go:147", after := #[{ on := 22, ground := Ground.data }, { on := 25, ground := Ground.data }, { on := 20, ground := Ground.guard }], guard := some (20, false) }) (v := ?_) rfl (by kernel_rfl) (by kernel_rfl) (by kernel_rfl) (fun _ _ _ h => h) (Or.inl ⟨by rfl, ?_⟩) hHeld ?_
          rotate_left
          · intro w' hSw
            (try dsimp only at hSw)
            go_simp
            all_goals with_reducible rfl
          try simp only [Act.put, List.setIfInBounds_toArray, List.set_cons_zero, List.set_cons_succ]
          refine wpAnyH_take (i := 27) (oi := { dst := some 120, op := Op.pick (Operand.tmp 113) (Operand.const (Value.bool true)) (Operand.tmp 119), type := 4, pos := "law.go:147", after := #[{ on := 20, ground := Ground.data }, { on := 26, ground := Ground.data }], guard := none }) (v := ?_) rfl (by kernel_rfl) (by kernel_rfl) (by kernel_rfl) (fun _ _ _ h => h) (Or.inl ⟨by rfl, ?_⟩) hHeld ?_
          rotate_left
          · intro w' hSw
            (try dsimp only at hSw)
            go_simp
            all_goals with_reducible rfl
          try simp only [Act.put, List.setIfInBounds_toArray, List.set_cons_zero, List.set_cons_succ]
          refine wpAnyH_take (i := 28) (oi := { dst := some 121, op := Op.move (Operand.tmp 120), type := 4, pos := "law.go:147", after := #[{ on := 27, ground := Ground.data }, { on := 20, ground := Ground.chain }], guard := none }) (v := ?_) rfl (by kernel_rfl) (by kernel_rfl) (by kernel_rfl) (fun _ _ _ h => h) (Or.inl ⟨by rfl, ?_⟩) hHeld ?_
          rotate_left
          · intro w' hSw
            (try dsimp only at hSw)
            go_simp
            all_goals with_reducible rfl
          try simp only [Act.put, List.setIfInBounds_toArray, List.set_cons_zero, List.set_cons_succ]
          refine wpAnyH_take (i := 29) (oi := { dst := some 122, op := Op.move (Operand.tmp 14), type := 33, pos := "law.go:147", after := #[{ on := 28, ground := Ground.guard }], guard := some (28, false) }) (v := ?_) rfl (by kernel_rfl) (by kernel_rfl) (by kernel_rfl) (fun _ _ _ h => h) (Or.inl ⟨by rfl, ?_⟩) hHeld ?_
          rotate_left
          · intro w' hSw
            (try dsimp only at hSw)
            go_simp
            all_goals with_reducible rfl
          try simp only [Act.put, List.setIfInBounds_toArray, List.set_cons_zero, List.set_cons_succ]
          refine wpAnyH_take (i := 30) (oi := { dst := some 123, op := Op.convert 33 9 (Operand.tmp 122), type := 9, pos := "law.go:147", after := #[{ on := 29, ground := Ground.data }, { on := 28, ground := Ground.guard }], guard := some (28, false) }) (v := ?_) rfl (by kernel_rfl) (by kernel_rfl) (by kernel_rfl) (fun _ _ _ h => h) (Or.inl ⟨by rfl, ?_⟩) hHeld ?_
          rotate_left
          · intro w' hSw
            (try dsimp only at hSw)
            go_simp
            all_goals with_reducible rfl
          try simp only [Act.put, List.setIfInBounds_toArray, List.set_cons_zero, List.set_cons_succ]
          refine wpAnyH_take (i := 31) (oi := { dst := some 124, op := Op.fieldAddr 43 (Operand.tmp 13) 1, type := 0, pos := "law.go:147", after := #[{ on := 28, ground := Ground.guard }], guard := some (28, false) }) (v := ?_) rfl (by kernel_rfl) (by kernel_rfl) (by kernel_rfl) (fun _ _ _ h => h) (Or.inl ⟨by rfl, ?_⟩) hHeld ?_
          rotate_left
          · intro w' hSw
            (try dsimp only at hSw)
            go_simp
            all_goals with_reducible rfl
          try simp only [Act.put, List.setIfInBounds_toArray, List.set_cons_zero, List.set_cons_succ]
          refine wpAnyH_take (i := 32) (oi := { dst := some 125, op := Op.load 33 (Operand.tmp 124), type := 33, pos := "law.go:147", after := #[{ on := 31, ground := Ground.data }, { on := 28, ground := Ground.guard }], guard := some (28, false) }) (v := ?_) rfl (by kernel_rfl) (by kernel_rfl) (by kernel_rfl) (fun _ _ _ h => h) (Or.inl ⟨by rfl, ?_⟩) hHeld ?_
          rotate_left
          · intro w' hSw
            (try dsimp only at hSw)
            go_simp
            all_goals with_reducible rfl
          try simp only [Act.put, List.setIfInBounds_toArray, List.set_cons_zero, List.set_cons_succ]
          refine wpAnyH_take (i := 33) (oi := { dst := some 126, op := Op.move (Operand.tmp 14), type := 33, pos := "law.go:147", after := #[{ on := 28, ground := Ground.guard }], guard := some (28, false) }) (v := ?_) rfl (by kernel_rfl) (by kernel_rfl) (by kernel_rfl) (fun _ _ _ h => h) (Or.inl ⟨by rfl, ?_⟩) hHeld ?_
          rotate_left
          · intro w' hSw
            (try dsimp only at hSw)
            go_simp
            all_goals with_reducible rfl
          try simp only [Act.put, List.setIfInBounds_toArray, List.set_cons_zero, List.set_cons_succ]
          refine wpAnyH_take (i := 34) (oi := { dst := some 127, op := Op.call { callee := Callee.builtin Builtin.len, args := #[Operand.tmp 126], argTypes := #[33] }, type := 3, pos := "law.go:147", after := #[{ on := 33, ground := Ground.data }, { on := 28, ground := Ground.guard }], guard := some (28, false) }) (v := ?_) rfl (by kernel_rfl) (by kernel_rfl) (by kernel_rfl) (fun _ _ _ h => h) (Or.inl ⟨by rfl, ?_⟩) hHeld ?_
          rotate_left
          · intro w' hSw
            (try dsimp only at hSw)
            go_simp
            all_goals with_reducible rfl
          try simp only [Act.put, List.setIfInBounds_toArray, List.set_cons_zero, List.set_cons_succ]
          refine wpAnyH_take (i := 35) (oi := { dst := some 128, op := Op.slice 33 (Operand.tmp 125) none (some (Operand.tmp 127)) none, type := 33, pos := "law.go:147", after := #[{ on := 32, ground := Ground.data }, { on := 34, ground := Ground.data }, { on := 28, ground := Ground.guard }], guard := some (28, false) }) (v := ?_) rfl (by kernel_rfl) (by kernel_rfl) (by kernel_rfl) (fun _ _ _ h => h) (Or.inl ⟨by rfl, ?_⟩) hHeld ?_
          rotate_left
          · intro w' hSw
            (try dsimp only at hSw)
            go_simp
            all_goals with_reducible rfl
          try simp only [Act.put, List.setIfInBounds_toArray, List.set_cons_zero, List.set_cons_succ]
          refine wpAnyH_take (i := 36) (oi := { dst := some 129, op := Op.convert 33 9 (Operand.tmp 128), type := 9, pos := "law.go:147", after := #[{ on := 35, ground := Ground.data }, { on := 28, ground := Ground.guard }], guard := some (28, false) }) (v := ?_) rfl (by kernel_rfl) (by kernel_rfl) (by kernel_rfl) (fun _ _ _ h => h) (Or.inl ⟨by rfl, ?_⟩) hHeld ?_
          rotate_left
          · intro w' hSw
            (try dsimp only at hSw)
            go_simp
            all_goals with_reducible rfl
          try simp only [Act.put, List.setIfInBounds_toArray, List.set_cons_zero, List.set_cons_succ]
          refine wpAnyH_take (i := 37) (oi := { dst := some 130, op := Op.binOp BinOp.neq 9 (Operand.tmp 123) (Operand.tmp 129) 9, type := 4, pos := "law.go:147", after := #[{ on := 30, ground := Ground.data }, { on := 36, ground := Ground.data }, { on := 28, ground := Ground.guard }], guard := some (28, false) }) (v := ?_) rfl (by kernel_rfl) (by kernel_rfl) (by kernel_rfl) (fun _ _ _ h => h) (Or.inl ⟨by rfl, ?_⟩) hHeld ?_
          rotate_left
          · intro w' hSw
            (try dsimp only at hSw)
            go_simp
            all_goals with_reducible rfl
          try simp only [Act.put, List.setIfInBounds_toArray, List.set_cons_zero, List.set_cons_succ]
          refine wpAnyH_take (i := 38) (oi := { dst := some 131, op := Op.pick (Operand.tmp 121) (Operand.const (Value.bool true)) (Operand.tmp 130), type := 4, pos := "law.go:147", after := #[{ on := 28, ground := Ground.data }, { on := 37, ground := Ground.data }], guard := none }) (v := ?_) rfl (by kernel_rfl) (by kernel_rfl) (by kernel_rfl) (fun _ _ _ h => h) (Or.inl ⟨by rfl, ?_⟩) hHeld ?_
          rotate_left
          · intro w' hSw
            (try dsimp only at hSw)
            go_simp
            all_goals with_reducible rfl
          try simp only [Act.put, List.setIfInBounds_toArray, List.set_cons_zero, List.set_cons_succ]
          refine wpAnyH_take (i := 39) (oi := { dst := some 132, op := Op.move (Operand.tmp 131), type := 4, pos := "law.go:147", after := #[{ on := 38, ground := Ground.data }, { on := 28, ground := Ground.chain }], guard := none }) (v := ?_) rfl (by kernel_rfl) (by kernel_rfl) (by kernel_rfl) (fun _ _ _ h => h) (Or.inl ⟨by rfl, ?_⟩) hHeld ?_
          rotate_left
          · intro w' hSw
            (try dsimp only at hSw)
            go_simp
            all_goals with_reducible rfl
          try simp only [Act.put, List.setIfInBounds_toArray, List.set_cons_zero, List.set_cons_succ]
          refine wpAnyH_take (i := 40) (oi := { dst := some 133, op := Op.move (Operand.tmp 5), type := 25, pos := "law.go:147", after := #[{ on := 39, ground := Ground.guard }], guard := some (39, false) }) (v := ?_) rfl (by kernel_rfl) (by kernel_rfl) (by kernel_rfl) (fun _ _ _ h => h) (Or.inl ⟨by rfl, ?_⟩) hHeld ?_
          rotate_left
          · intro w' hSw
            (try dsimp only at hSw)
            go_simp
            all_goals with_reducible rfl
          try simp only [Act.put, List.setIfInBounds_toArray, List.set_cons_zero, List.set_cons_succ]
          refine wpAnyH_take (i := 41) (oi := { dst := some 134, op := Op.fieldAddr 43 (Operand.tmp 13) 0, type := 0, pos := "law.go:147", after := #[{ on := 39, ground := Ground.guard }], guard := some (39, false) }) (v := ?_) rfl (by kernel_rfl) (by kernel_rfl) (by kernel_rfl) (fun _ _ _ h => h) (Or.inl ⟨by rfl, ?_⟩) hHeld ?_
          rotate_left
          · intro w' hSw
            (try dsimp only at hSw)
            go_simp
            all_goals with_reducible rfl
          try simp only [Act.put, List.setIfInBounds_toArray, List.set_cons_zero, List.set_cons_succ]
          refine wpAnyH_take (i := 42) (oi := { dst := some 135, op := Op.load 9 (Operand.tmp 134), type := 9, pos := "law.go:147", after := #[{ on := 41, ground := Ground.data }, { on := 39, ground := Ground.guard }], guard := some (39, false) }) (v := ?_) rfl (by kernel_rfl) (by kernel_rfl) (by kernel_rfl) (fun _ _ _ h => h) (Or.inl ⟨by rfl, ?_⟩) hHeld ?_
          rotate_left
          · intro w' hSw
            (try dsimp only at hSw)
            go_simp
            all_goals with_reducible rfl
          try simp only [Act.put, List.setIfInBounds_toArray, List.set_cons_zero, List.set_cons_succ]
          refine wpAnyH_take (i := 44) (oi := { dst := some 137, op := Op.move (Operand.tmp 14), type := 33, pos := "law.go:147", after := #[{ on := 39, ground := Ground.guard }], guard := some (39, false) }) (v := ?_) rfl (by kernel_rfl) (by kernel_rfl) (by kernel_rfl) (fun _ _ _ h => h) (Or.inl ⟨by rfl, ?_⟩) hHeld ?_
          rotate_left
          · intro w' hSw
            (try dsimp only at hSw)
            go_simp
            all_goals with_reducible rfl
          try simp only [Act.put, List.setIfInBounds_toArray, List.set_cons_zero, List.set_cons_succ]
          refine wpAnyH_take (i := 45) (oi := { dst := some 138, op := Op.call { callee := Callee.builtin Builtin.len, args := #[Operand.tmp 137], argTypes := #[33] }, type := 3, pos := "law.go:147", after := #[{ on := 44, ground := Ground.data }, { on := 39, ground := Ground.guard }], guard := some (39, false) }) (v := ?_) rfl (by kernel_rfl) (by kernel_rfl) (by kernel_rfl) (fun _ _ _ h => h) (Or.inl ⟨by rfl, ?_⟩) hHeld ?_
          rotate_left
          · intro w' hSw
            (try dsimp only at hSw)
            go_simp
            all_goals with_reducible rfl
          try simp only [Act.put, List.setIfInBounds_toArray, List.set_cons_zero, List.set_cons_succ]
          refine wpAnyH_ready (rs := [43]) (by kernel_rfl) (by simp) ?_
          refine AllReadyH.cons (o := { dst := some 136, op := Op.call { callee := Callee.value (Operand.func 15), args := #[Operand.tmp 133, Operand.tmp 135], argTypes := #[25, 9] }, type := 3, pos := "law.go:147", after := #[{ on := 40, ground := Ground.data }, { on := 42, ground := Ground.data }, { on := 39, ground := Ground.chain }, { on := 39, ground := Ground.guard }], guard := some (39, false) }) rfl (fun K hK => ?_) AllReadyH.nil
          go_simp
          go_at_call 15; (refine K15.out.mono ?_); rintro e w' ⟨rfl, rfl⟩
          go_wp2_with fail
          refine hK.out _ _ ?_ (fun hHeld2 => ?_)
          · (try dsimp only)
            first
              | go_keep
              | (rw [World.cell?_setCell_other]; (· assumption); (· simp))
          clear hK K hHeld
          have hHeld := hHeld2
          clear hHeld2
          try simp only [Act.put, List.setIfInBounds_toArray, List.set_cons_zero, List.set_cons_succ]
          refine wpAnyH_take (i := 46) (oi := { dst := some 139, op := Op.binOp BinOp.neq 3 (Operand.tmp 136) (Operand.tmp 138) 3, type := 4, pos := "law.go:147", after := #[{ on := 43, ground := Ground.data }, { on := 45, ground := Ground.data }, { on := 39, ground := Ground.guard }], guard := some (39, false) }) (v := ?_) rfl (by kernel_rfl) (by kernel_rfl) (by kernel_rfl) (fun _ _ _ h => h) (Or.inl ⟨by rfl, ?_⟩) hHeld ?_
          rotate_left
          · intro w' hSw
            (try dsimp only at hSw)
            go_simp
            all_goals with_reducible rfl
          try simp only [Act.put, List.setIfInBounds_toArray, List.set_cons_zero, List.set_cons_succ]
          refine wpAnyH_take (i := 47) (oi := { dst := some 140, op := Op.pick (Operand.tmp 132) (Operand.const (Value.bool true)) (Operand.tmp 139), type := 4, pos := "law.go:147", after := #[{ on := 39, ground := Ground.data }, { on := 46, ground := Ground.data }], guard := none }) (v := ?_) rfl (by kernel_rfl) (by kernel_rfl) (by kernel_rfl) (fun _ _ _ h => h) (Or.inl ⟨by rfl, ?_⟩) hHeld ?_
          rotate_left
          · intro w' hSw
            (try dsimp only at hSw)
            go_simp
            all_goals with_reducible rfl
          try simp only [Act.put, List.setIfInBounds_toArray, List.set_cons_zero, List.set_cons_succ]
          refine wpAnyH_done (by kernel_rfl) ?_ _
          go_wp2
          go_roundw
          case rel => exact ⟨j + 1, by go_num, HJLT.out, Below.drew HBB9.out⟩
          case measure => have := HJLT.out; simp [intOf]; omega
        · have hjn : j = L := by omega
          subst hjn
          have HBQ := Lib.hid hBq
          clear hBq
          go_wp2
          go_ret
          have h48 := HT48.out.size
          have h1 : Below W.heap.size W w8 := HT48.out.below (HBR.out.trans (HB4.out.mono (by omega))) (fun b hb => (HGG.out b hb).1) (by omega)
          exact ⟨rfl, (h1.trans (HB9.out.mono (by omega))).trans (HBQ.out.mono (by omega))⟩
end Go.Proofs.DK
