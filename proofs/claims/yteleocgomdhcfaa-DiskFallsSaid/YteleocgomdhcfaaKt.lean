/- Proved: what the document's 'Append' comes to. Each theorem says its own conditions. -/
import Derived.Test.YteleocgomdhcfaaKs
set_option linter.unusedVariables false
set_option linter.unusedSimpArgs false
set_option linter.unusedSectionVars false
namespace Go.Proofs.DK
open Go.RowKit
variable [Okb]
set_option maxRecDepth 100000 in
set_option maxHeartbeats 4000000 in
theorem c23_2 (S : Ds) (p : Option Addr) (c : Nat) (n b : List UInt8) (pb : Option Addr) (cb : Nat) (w : World) (hF : Fine S) (h : FsAt w p S.fs) (hbb : Rd w (.slice pb b.length cb) b) (hR : 0 ≤ S.room ∧ S.room ≤ 2000000) (hU : used S.fs ≤ 1000000) (hbl : b.length ≤ 500000) (hnl : n.length ≤ 1000000) (hp : 0 ≤ S.part ∧ S.part ≤ 9223372036854775807) (hokn : Okb.n0 ≤ w.heap.size) (hhw : S.how = 2) : Calls Try.prog 23 #[MV S (.slice p S.fs.length c), .string (bs n), .slice pb b.length cb] w (DOut (S.appendE n b) (S.append n b) w) := by
  have K := Lib.hid (c39 S p S.fs.length c (W2 S (.slice p S.fs.length c) w) hF.f0 hF.f1 hF.f2 hF.f3)
  have HT := Lib.hid (Two.at S (.slice p S.fs.length c) w)
  have HA := Lib.hid (W2.below S (.slice p S.fs.length c) w)
  have HS2 := Lib.hid (W2.size S (.slice p S.fs.length c) w)
  have HH := Lib.hid h
  have HFI := Lib.hid hF
  have hlen := hF.len
  have hb := begin_fs S
  have hfit : S.fits n b ↔ named n ∧ ¬ ((b.length : Int) > S.begin.room - used S.fs) ∧ ¬ (lookF S.fs n = none ∧ 256 ≤ S.fs.length) := by rw [begin_room]; exact Iff.rfl
  have hroom := begin_room S
  have hmm := part_le S b hp.1
  have hmd := part_mod S b hp.1
  have hm0 : S.how = 0 → S.part' b = b.length := fun h => by unfold Ds.part'; rw [if_neg (by omega)]
  rw [append_def]
  unfold Ds.appendE
  generalize S.part' b = mm at *
  have hts : (bs n).size = n.length := by simp [bs, ByteArray.size]
  have K40 := Lib.hid (fun w' => c40 (bs n) w' (by omega))
  rw [hts] at K40
  generalize S.begin = T at *
  obtain ⟨room, fs, down, falls, fused, fuse, part⟩ := T
  simp only at hb
  subst hb
  clear h hF
  generalize S.how = hw at *
  have K31 := Lib.hid (fun m w' (hF : FsAt w' p S.fs) => c31 ⟨room, S.fs, down, falls, fused, fuse, part⟩ p c m w' hF (by show S.fs.length ≤ 1000; omega))
  unfold MV at K K31
  simp only at K K31
  unfold DOut
  simp only at hroom hfit
  rw [← hroom] at hR
  have K41 := Lib.hid (fun w' (hF : FsAt w' p S.fs) => c41 ⟨room, S.fs, down, falls, fused, fuse, part⟩ p c w' hF (by show S.fs.length ≤ 1000; omega) hU)
  unfold MV at K41
  simp only at K41
  have HBB := Lib.hid hbb
  obtain ⟨hp0, hp1⟩ := hp
  obtain ⟨hr0, hr1⟩ := hR
  clear hbb hroom
  subst hhw
  rw [if_pos (by decide), if_pos rfl]
  simp only [MV]
  go_enter Try.func23, Try.ntmps23
  go_wp2_with (fail)
  go_at_call 39; (refine K.out.mono ?_); rintro e w2 ⟨rfl, hB2⟩; have hsz := hB2.size; rw [HS2.out] at hsz; have hT2 := HT.out.keep (hB2.mono (by have := HS2.out; omega)); have y0 := cellof hT2.a 0; have y1 := cellof hT2.a 1; have y2 := cellof hT2.a 2; have y3 := cellof hT2.a 3; have y4 := cellof hT2.a 4; have y5 := cellof hT2.a 5; have y6 := cellof hT2.a 6; have fy := fun o => frozenof hT2.a o; simp only [List.getElem?_toArray, List.getElem?_cons_zero, List.getElem?_cons_succ] at y0 y1 y2 y3 y4 y5 y6; have HB2 := Lib.hid hB2; have HT2 := Lib.hid hT2; clear hB2 hT2
  iterate 20 first | go_values | go_skip | go_guarded | go_step | go_upon | go_in | go_back | (simp only [Int.not_lt, Int.not_le] at *; go_simp)
  have hT3 := HT2.out.put (S' := ⟨room, S.fs, down, falls, fused, fuse, part⟩) (v' := .slice p S.fs.length c)
  have hB3 := put7_below (N := w.heap.size) (S := ⟨room, S.fs, down, falls, fused, fuse, part⟩) (v := .slice p S.fs.length c) (b := w.heap.size) (HA.out.trans (HB2.out.mono (by have := HS2.out; omega))) (Nat.le_refl _)
  have hs7 := put7_size ⟨room, S.fs, down, falls, fused, fuse, part⟩ (.slice p S.fs.length c) w.heap.size w2
  change Code.wp _ _ _ _ (put7 ⟨room, S.fs, down, falls, fused, fuse, part⟩ (.slice p S.fs.length c) w.heap.size w2)
  obtain ⟨w3, hw3⟩ : ∃ w3, w3 = put7 ⟨room, S.fs, down, falls, fused, fuse, part⟩ (.slice p S.fs.length c) w.heap.size w2 := ⟨_, rfl⟩
  rw [← hw3] at hT3 hB3 hs7 ⊢
  rw [← hs7] at hsz
  clear hw3 hs7 y0 y1 y2 y3 y4 y5 y6 fy
  have y0 := cellof hT3.a 0; have y1 := cellof hT3.a 1; have y2 := cellof hT3.a 2; have y3 := cellof hT3.a 3; have y4 := cellof hT3.a 4; have y5 := cellof hT3.a 5; have y6 := cellof hT3.a 6; have q0 := cellof hT3.z 0; have q1 := cellof hT3.z 1; have q2 := cellof hT3.z 2; have q3 := cellof hT3.z 3; have q4 := cellof hT3.z 4; have q5 := cellof hT3.z 5; have q6 := cellof hT3.z 6; have fy := fun o => frozenof hT3.a o; have fq := fun o => frozenof hT3.z o; simp only [List.getElem?_toArray, List.getElem?_cons_zero, List.getElem?_cons_succ] at y0 y1 y2 y3 y4 y5 y6 q0 q1 q2 q3 q4 q5 q6
  have hl0 : w.heap.size < w3.heap.size := (by omega); have hn0 : w.heap.size ≠ w3.heap.size := (by omega); have hl1 : w.heap.size + 1 < w3.heap.size := (by omega); have hn1 : w.heap.size + 1 ≠ w3.heap.size := (by omega)
  have hF3 := HH.out.mono hB3
  have HT3 := Lib.hid hT3; have HB3 := Lib.hid hB3; have HF3 := Lib.hid hF3
  clear hT3 hB3 hF3
  go_wp2
  go_region_held (fun w' => w'.cell? ⟨w.heap.size, 0, none⟩ = some (.int .i64 room) ∧ w'.cell? ⟨w.heap.size, 1, none⟩ = some (.slice p S.fs.length c) ∧ w'.cell? ⟨w.heap.size, 2, none⟩ = some (.bool down) ∧ w'.cell? ⟨w.heap.size, 3, none⟩ = some (.int .i64 falls) ∧ w'.cell? ⟨w.heap.size, 4, none⟩ = some (.bool fused) ∧ w'.cell? ⟨w.heap.size, 5, none⟩ = some (.int .i64 fuse) ∧ w'.cell? ⟨w.heap.size, 6, none⟩ = some (.int .i64 part)) (go_keep) (fail)
  all_goals go_wp2
  all_goals refine bodyPost_ret (v := .tuple #[.int .i64 9, .agg #[.int .i64 room, .slice p S.fs.length c, .bool down, .int .i64 falls, .bool fused, .int .i64 fuse, .int .i64 part]]) (by simp [results, Try.results23, go_sem, q0, q1, q2, q3, q4, q5, q6]) rfl ⟨p, c, rfl, HH.out.mono ?_, ?_⟩
  all_goals refine Below.drew ?_
  all_goals iterate 7 refine Below.setCell ?_ (by simp <;> omega) _
  all_goals exact HB3.out
end Go.Proofs.DK
