/- Proved: what an operation (wake) comes to on both disks. Each theorem says its own conditions. -/
import Derived.Test.YteleocgomdhcfaaLo
set_option linter.unusedVariables false
set_option linter.unusedSimpArgs false
set_option linter.unusedSectionVars false
namespace Go.Proofs.DK
open Go.RowKit
set_option maxRecDepth 100000 in
set_option maxHeartbeats 4000000 in
theorem do_7 (N bd m : Nat) (S : Ds) (p : Option Addr) (c : Nat) (o : Opn) (pb pk : Option Addr) (cb ck : Nat) (w : World) (hb : Both N bd S p w) (hN : N ≤ w.heap.size) (hok : Ok m S) (hm : m ≤ 100000) (hl : Lim S) (hR : RdIN N w (.slice pk o.keep.length ck) o.keep) (hkl : o.keep.length ≤ 1000) (hk : o.kind = 7) :
    Calls Try.prog 8 #[ptr bd, MV S (.slice p S.fs.length c), .agg (opc o (.slice pb o.b.length cb) (.slice pk o.keep.length ck))] w (DoOut N bd (S.wake o.keep) w) := by
  have hF := hok.fine hl hm
  obtain ⟨G, hD, hG, hFs⟩ := hb
  have hWB := WB.below S (.slice p S.fs.length c) o (.slice pb o.b.length cb) (.slice pk o.keep.length ck) w
  have hD1 := hD.below hWB
  have HT := Lib.hid (Tri.at S (.slice p S.fs.length c) o (.slice pb o.b.length cb) (.slice pk o.keep.length ck) w)
  have HS := Lib.hid (WB.size S (.slice p S.fs.length c) o (.slice pb o.b.length cb) (.slice pk o.keep.length ck) w)
  have HWB := Lib.hid hWB; have HG := Lib.hid hG; have HFS := Lib.hid hFs; have HOK := Lib.hid hok; have HF := Lib.hid hF
  obtain ⟨kind, n, t, b, oN, oK, keep⟩ := o
  simp only at hk
  subst hk
  have HR := Lib.hid hR; have HD := Lib.hid hD
  unfold ptr
  clear hD hG hFs hWB hD1 hok hl hF hR
  unfold MV opc
  simp only
  go_enter Try.func8, Try.ntmps8
  have hE0 := own_empty3 (WB S (.slice p S.fs.length c) ⟨7, n, t, b, oN, oK, keep⟩ (.slice pb b.length cb) (.slice pk keep.length ck) w) (w.heap.size + 3) (by rw [HS.out]; exact Nat.le_refl _)
  rw [HS.out] at hE0
  have hBE : Below w.heap.size w ((WB S (.slice p S.fs.length c) ⟨7, n, t, b, oN, oK, keep⟩ (.slice pb b.length cb) (.slice pk keep.length ck) w).alloc (.cells #[] 3)) := HWB.out.alloc (by rw [HS.out]; omega) _
  have hRE := HR.out.rd hN (hBE.mono hN)
  have HE0 := Lib.hid hE0; have HBE := Lib.hid hBE; have HRE := Lib.hid hRE
  have HSE := Lib.hid (show ((WB S (.slice p S.fs.length c) ⟨7, n, t, b, oN, oK, keep⟩ (.slice pb b.length cb) (.slice pk keep.length ck) w).alloc (.cells #[] 3)).heap.size = w.heap.size + 4 from by rw [World.size_alloc, HS.out])
  have HNE := Lib.hid (show w.heap.size + 3 ≤ ((WB S (.slice p S.fs.length c) ⟨7, n, t, b, oN, oK, keep⟩ (.slice pb b.length cb) (.slice pk keep.length ck) w).alloc (.cells #[] 3)).heap.size from by rw [HSE.out]; omega)
  have HTE := Lib.hid (HT.out.keep (W' := (WB S (.slice p S.fs.length c) ⟨7, n, t, b, oN, oK, keep⟩ (.slice pb b.length cb) (.slice pk keep.length ck) w).alloc (.cells #[] 3)) (fun k h1 h2 => ((Below.refl _ _).alloc (Nat.le_refl _) _).block k (by rw [HS.out]; omega)))
  clear hE0 hBE hRE
  go_wp2_with (at_builtin; refine wpList_copy_int rfl rfl _ _ rfl (by rfl) (by rfl) HE0.out HNE.out HRE.out (by omega) ?_; intro p1 c1 w1 hi1 hg1)
  have hg1 : ((WB S (.slice p S.fs.length c) ⟨7, n, t, b, oN, oK, keep⟩ (.slice pb b.length cb) (.slice pk keep.length ck) w).alloc (.cells #[] 3)).grownBy w1 (Value.slice (some ⟨w.heap.size + 3, 0, none⟩) 0 0).ownBlock := hg1
  have hs1 := hg1.size
  rw [HSE.out] at hs1
  have hown1 : ∀ g, (Value.slice (some ⟨w.heap.size + 3, 0, none⟩) 0 0).ownBlock = some g → w.heap.size + 3 ≤ g := fun g hg => by cases hg; exact Nat.le_refl _
  have hB1 : Below w.heap.size w w1 := HBE.out.grown hg1 (by rw [HSE.out]; omega) (fun k e => by have := hown1 k e; omega)
  have hTr1 := HTE.out.keep (fun k h1 h2 => hg1.block k (by rw [HSE.out]; omega) (fun e => by have := hown1 k e.symm; omega))
  have hD1 := HD.out.below hB1
  have hrd1 := hi1.rd
  have K13 := c13 keep p1 c1 w1 hD1 (fun W hk hz => by
    obtain ⟨pq, cq, e, hr⟩ := hrd1.1
    cases e
    refine ⟨p1, c1, rfl, fun j x hx => ?_⟩
    obtain ⟨b', o', hp, hb', hc⟩ := hr j x hx
    subst hp
    exact ⟨b', o', rfl, by omega, (World.cell?_of_block (a := ⟨b', o' + j, none⟩) (hk b' hb' (fun hg => by have := (hrd1.2 b' rfl).1; have := (HG.out b' hg).2.1; omega))).trans hc⟩) hkl HOK.out.safe (fun f hf => Nat.le_trans (HOK.out.name f hf).2 (by decide)) (Nat.le_trans HOK.out.many (by decide)) (Nat.le_trans HOK.out.used (by decide))
  have HB1 := Lib.hid hB1; have HTR1 := Lib.hid hTr1; have K13 := Lib.hid K13
  clear hB1 hTr1 hD1 hrd1 hi1 hg1 hown1
  unfold ptr at K13
  have hl1 : w.heap.size < w1.heap.size := (by omega)
  go_wp2_with (fail)
  go_at_call 13; (refine K13.out.mono ?_); rintro e w2 ⟨rfl, G', hG', hD2, hT2⟩
  have hs2 := hT2.size
  have hTr2 := HTR1.out.keep (fun c h1 h2 => hT2.block c (by omega) (fun hg => by have := (HG.out c hg).2.1; omega))
  have hF2 : @FsAt (okP (fun b => G' b ∨ (w.heap.size ≤ b ∧ b < w.heap.size + 3)) w2.heap.size) w2 p S.fs := HFS.out.change (by omega) (fun b hb hok _ => by
    have hb2 : w2.heap[b]? = w.heap[b]? := (hT2.block b (by omega) (fun hg => by have := hok hg; omega)).trans (HB1.out.block b hb)
    refine ⟨hb2, fun h => ?_⟩
    rcases h with h | h
    · rcases hG' b h with h | h
      · have := hok h; omega
      · omega
    · omega) (fun b hb ht => (hT2.block b (by omega) (fun hg => (HG.out b hg).2.2 ht.kp)).trans (HB1.out.block b hb))
  have hlt2 : w.heap.size < w2.heap.size := (by omega)
  have hlt3 : w.heap.size + 1 < w2.heap.size := (by omega)
  have hlt4 : w.heap.size + 2 < w2.heap.size := (by omega)
  have y0 := cellof hTr2.a 0; have y1 := cellof hTr2.a 1; have y2 := cellof hTr2.a 2; have y3 := cellof hTr2.a 3; have y4 := cellof hTr2.a 4; have y5 := cellof hTr2.a 5; have y6 := cellof hTr2.a 6
  have x0 := cellof hTr2.f 0; have x1 := cellof hTr2.f 1; have x2 := cellof hTr2.f 2; have x3 := cellof hTr2.f 3; have x4 := cellof hTr2.f 4; have x5 := cellof hTr2.f 5; have x6 := cellof hTr2.f 6
  have fy := fun o => frozenof hTr2.a o; have fz := fun o => frozenof hTr2.z o
  unfold opc at x0 x1 x2 x3 x4 x5 x6
  simp only [List.getElem?_toArray, List.getElem?_cons_zero, List.getElem?_cons_succ] at y0 y1 y2 y3 y4 y5 y6 x0 x1 x2 x3 x4 x5 x6
  have hR2 : RdI w2 (.slice pk keep.length ck) keep := HR.out.rd hN (hT2.below (HB1.out.mono hN) (fun b hb => (HG.out b hb).1) (by omega))
  have K24 := Lib.hid (@c30 (okP (fun b => G' b ∨ (w.heap.size ≤ b ∧ b < w.heap.size + 3)) w2.heap.size) S p c keep pk ck w2 hF2 (Nat.le_trans HOK.out.many (by decide)) (Nat.le_trans HOK.out.used (by decide)) HOK.out.safe hR2 hkl)
  have HTR2 := Lib.hid hTr2; have HT2 := Lib.hid hT2; have HD2 := Lib.hid hD2; have HG' := Lib.hid hG'
  clear hTr2 hT2 hD2 hG' hF2
  unfold WkOut MV at K24
  go_wp2_with (fail)
  go_at_call 30; (refine K24.out.mono ?_); rintro e w3 ⟨p3, c3, rfl, hF3, hB3⟩
  clear K13 K24
  generalize S.wake keep = S' at *
  generalize hnl : S'.fs.length = nl at *
  have HNL := Lib.hid hnl
  clear hnl
  obtain ⟨room', fs', down', falls', fused', fuse', part'⟩ := S'
  have hs3 := hB3.size
  have hTr3 := HTR2.out.keep (fun c h1 h2 => hB3.block c (by omega))
  have y0 := cellof hTr3.a 0; have y1 := cellof hTr3.a 1; have y2 := cellof hTr3.a 2; have y3 := cellof hTr3.a 3; have y4 := cellof hTr3.a 4; have y5 := cellof hTr3.a 5; have y6 := cellof hTr3.a 6
  have fy := fun o => frozenof hTr3.a o; have fz := fun o => frozenof hTr3.z o
  simp only [List.getElem?_toArray, List.getElem?_cons_zero, List.getElem?_cons_succ] at y0 y1 y2 y3 y4 y5 y6
  have HTR3 := Lib.hid hTr3; have HF3 := Lib.hid hF3; have HB3 := Lib.hid hB3
  clear hTr3 hF3 hB3
  iterate 20 first | go_values | go_skip | go_guarded | go_step | go_upon | go_in | go_back | go_simp | skip
  change Code.wp _ _ _ _ (put7 ⟨room', fs', down', falls', fused', fuse', part'⟩ (.slice p3 nl c3) w.heap.size w3)
  have h4 : (put7 ⟨room', fs', down', falls', fused', fuse', part'⟩ (.slice p3 nl c3) w.heap.size w3).heap[w.heap.size]? = some (bx ⟨room', fs', down', falls', fused', fuse', part'⟩ (.slice p3 nl c3)) := put7_at HTR3.out.a
  have hk4 : ∀ k, k ≠ w.heap.size → (put7 ⟨room', fs', down', falls', fused', fuse', part'⟩ (.slice p3 nl c3) w.heap.size w3).heap[k]? = w3.heap[k]? := fun k h => put7_ne h
  have hs4 := put7_size ⟨room', fs', down', falls', fused', fuse', part'⟩ (.slice p3 nl c3) w.heap.size w3
  have hb4 : Below N w3 (put7 ⟨room', fs', down', falls', fused', fuse', part'⟩ (.slice p3 nl c3) w.heap.size w3) := put7_below (Below.refl _ _) hN
  obtain ⟨w4, hw4⟩ : ∃ w4, w4 = put7 ⟨room', fs', down', falls', fused', fuse', part'⟩ (.slice p3 nl c3) w.heap.size w3 := ⟨_, rfl⟩
  rw [← hw4] at h4 hk4 hs4 hb4 ⊢
  clear hw4
  have y0 := cellof h4 0; have y1 := cellof h4 1; have y2 := cellof h4 2; have y3 := cellof h4 3; have y4 := cellof h4 4; have y5 := cellof h4 5; have y6 := cellof h4 6
  have fy := fun o => frozenof h4 o
  have hz4 := (hk4 (w.heap.size + 2) (by omega)).trans HTR3.out.z
  have z0 := cellof hz4 0; have z1 := cellof hz4 1; have z2 := cellof hz4 2; have z3 := cellof hz4 3; have z4 := cellof hz4 4; have z5 := cellof hz4 5; have z6 := cellof hz4 6
  have fz := fun o => frozenof hz4 o
  simp only [List.getElem?_toArray, List.getElem?_cons_zero, List.getElem?_cons_succ] at y0 y1 y2 y3 y4 y5 y6 z0 z1 z2 z3 z4 z5 z6
  have H4 := Lib.hid h4; have HK4 := Lib.hid hk4; have HS4 := Lib.hid hs4; have HB4 := Lib.hid hb4; have HZ4 := Lib.hid hz4
  have hl4 : w.heap.size < w4.heap.size := (by omega)
  have hl5 : w.heap.size + 2 < w4.heap.size := (by omega)
  clear h4 hk4 hs4 hb4 hz4
  go_wp2
  go_region_held (fun w' => w'.cell? ⟨w.heap.size, 0, none⟩ = some (.int .i64 room') ∧ w'.cell? ⟨w.heap.size, 1, none⟩ = some (.slice p3 nl c3) ∧ w'.cell? ⟨w.heap.size, 2, none⟩ = some (.bool down') ∧ w'.cell? ⟨w.heap.size, 3, none⟩ = some (.int .i64 falls') ∧ w'.cell? ⟨w.heap.size, 4, none⟩ = some (.bool fused') ∧ w'.cell? ⟨w.heap.size, 5, none⟩ = some (.int .i64 fuse') ∧ w'.cell? ⟨w.heap.size, 6, none⟩ = some (.int .i64 part')) (refine ⟨?_, ?_, ?_, ?_, ?_, ?_, ?_⟩ <;> (simp only [far7 (show w.heap.size + 1 + 1 ≠ w.heap.size from by omega), drew_cell]; assumption)) (fail)
  go_wp2
  change bodyPost _ _ _ _ _ (put7 ⟨room', fs', down', falls', fused', fuse', part'⟩ (.slice p3 nl c3) (w.heap.size + 2) w4).drew
  have h5 : (put7 ⟨room', fs', down', falls', fused', fuse', part'⟩ (.slice p3 nl c3) (w.heap.size + 2) w4).heap[w.heap.size + 2]? = some (bx ⟨room', fs', down', falls', fused', fuse', part'⟩ (.slice p3 nl c3)) := put7_at (S' := ⟨0, [], false, 0, false, 0, 0⟩) (v' := .slice none 0 0) HZ4.out
  have hk5 : ∀ k, k ≠ w.heap.size + 2 → (put7 ⟨room', fs', down', falls', fused', fuse', part'⟩ (.slice p3 nl c3) (w.heap.size + 2) w4).heap[k]? = w4.heap[k]? := fun k h => put7_ne h
  have hs5 := put7_size ⟨room', fs', down', falls', fused', fuse', part'⟩ (.slice p3 nl c3) (w.heap.size + 2) w4
  have hb5 : Below N w4 (put7 ⟨room', fs', down', falls', fused', fuse', part'⟩ (.slice p3 nl c3) (w.heap.size + 2) w4) := put7_below (Below.refl _ _) (by omega)
  obtain ⟨w5, hw5⟩ : ∃ w5, w5 = put7 ⟨room', fs', down', falls', fused', fuse', part'⟩ (.slice p3 nl c3) (w.heap.size + 2) w4 := ⟨_, rfl⟩
  rw [← hw5] at h5 hk5 hs5 hb5 ⊢
  clear hw5 z0 z1 z2 z3 z4 z5 z6 y0 y1 y2 y3 y4 y5 y6 fy fz
  have h5' : w5.drew.heap[w.heap.size + 2]? = some (bx ⟨room', fs', down', falls', fused', fuse', part'⟩ (.slice p3 nl c3)) := h5
  have z0 := cellof h5' 0; have z1 := cellof h5' 1; have z2 := cellof h5' 2; have z3 := cellof h5' 3; have z4 := cellof h5' 4; have z5 := cellof h5' 5; have z6 := cellof h5' 6
  simp only [List.getElem?_toArray, List.getElem?_cons_zero, List.getElem?_cons_succ] at z0 z1 z2 z3 z4 z5 z6
  refine bodyPost_ret (v := .tuple #[.bool true, .agg #[.int .i64 room', .slice p3 nl c3, .bool down', .int .i64 falls', .bool fused', .int .i64 fuse', .int .i64 part']]) (by simp [results, Try.results8, go_sem, z0, z1, z2, z3, z4, z5, z6]) rfl ⟨true, p3, c3, by rw [HNL.out]; rfl, ?_, ?_, fun k hk hkp => ?_⟩
  · refine fin_both hN (by omega) HD2.out (fun b hb => ?_) HF3.out HB3.out (fun b h1 h2 => ?_) ?_ ⟨_, HTR3.out.a⟩ ⟨_, HTR3.out.z⟩
    · rcases HG'.out b hb with h | h
      · have := HG.out b h
        exact .inl ⟨this.1, this.2.1⟩
      · exact .inr (by omega)
    · exact (hk5 b h2).trans (HK4.out b h1)
    · show w5.heap.size = _
      rw [hs5, HS4.out]
  · refine Below.drew ?_
    have h1 : Below N w w2 := HT2.out.below (HB1.out.mono hN) (fun b hb => (HG.out b hb).1) (by omega)
    exact ((h1.trans (HB3.out.mono (by omega))).trans HB4.out).trans hb5
  · exact (hk5 k (by omega)).trans ((HK4.out k (by omega)).trans ((HB3.out.block k (by omega)).trans ((HT2.out.block k (by omega) (fun hg => (HG.out k hg).2.2 hkp)).trans (HB1.out.block k hk))))
end Go.Proofs.DK
