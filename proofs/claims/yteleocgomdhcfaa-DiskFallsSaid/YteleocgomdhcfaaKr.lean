/- Proved: what the document's 'Append' comes to. Each theorem says its own conditions. -/
import Derived.Test.YteleocgomdhcfaaKq
set_option linter.unusedVariables false
set_option linter.unusedSimpArgs false
set_option linter.unusedSectionVars false
namespace Go.Proofs.DK
open Go.RowKit
variable [Okb]
theorem begin_room (S : Ds) : S.begin.room = S.room := by
  unfold Ds.begin Ds.crash
  split
  · rfl
  · split
    · rfl
    · split <;> rfl
theorem begin_down {S : Ds} (h : S.how = 2) : S.begin = S := by
  rcases how_cases S with ⟨_, hd⟩ | ⟨h1, _⟩ | ⟨h1, _⟩
  · unfold Ds.begin; rw [if_pos hd]
  · omega
  · omega
def Ds.appendE (S : Ds) (n b : List UInt8) : Int := if S.how ≠ 0 then 9 else if ¬ named n then 1 else if S.fits n b then 0 else 7
def fileOf (S : Ds) (n : List UInt8) : Fl := (lookF S.fs n).getD ⟨n, [], 0⟩
/-- How many bytes of an append come to stand. -/
def Ds.part' (S : Ds) (b : List UInt8) : Nat := if S.how = 1 then (S.part % ((b.length : Int) + 1)).toNat else b.length
theorem append_def (S : Ds) (n b : List UInt8) : S.append n b = if S.how = 2 then S.begin else if S.fits n b then { S.begin with fs := wiF S.fs ⟨(fileOf S n).n, (fileOf S n).b ++ b.take (S.part' b), (fileOf S n).s⟩ } else S.begin := by
  unfold Ds.append
  split
  · rename_i h; rw [begin_down h]
  · rfl
theorem part_le (S : Ds) (b : List UInt8) (hp : 0 ≤ S.part) : S.part' b ≤ b.length := by
  unfold Ds.part'
  split
  · have h1 : (0 : Int) < (b.length : Int) + 1 := by omega
    have h2 := Int.emod_nonneg S.part (Int.ne_of_gt h1)
    have h3 := Int.emod_lt_of_pos S.part h1
    omega
  · exact Nat.le_refl _
theorem part_mod (S : Ds) (b : List UInt8) (hp : 0 ≤ S.part) (h : S.how = 1) : S.part.tmod ((b.length : Int) + 1) = S.part' b := by
  unfold Ds.part'
  rw [if_pos h, Int.tmod_eq_emod_of_nonneg hp, Int.toNat_of_nonneg (Int.emod_nonneg _ (by omega))]
theorem used_mem {fs : List Fl} {f : Fl} (h : f ∈ fs) : f.b.length ≤ used fs := by
  have := used_wo h
  omega
set_option maxRecDepth 100000 in
set_option maxHeartbeats 4000000 in
theorem c23_0 (S : Ds) (p : Option Addr) (c : Nat) (n b : List UInt8) (pb : Option Addr) (cb : Nat) (w : World) (hF : Fine S) (h : FsAt w p S.fs) (hbb : Rd w (.slice pb b.length cb) b) (hR : 0 ≤ S.room ∧ S.room ≤ 2000000) (hU : used S.fs ≤ 1000000) (hbl : b.length ≤ 500000) (hnl : n.length ≤ 1000000) (hp : 0 ≤ S.part ∧ S.part ≤ 9223372036854775807) (hokn : Okb.n0 ≤ w.heap.size) (hhw : S.how = 0) : Calls Try.prog 23 #[MV S (.slice p S.fs.length c), .string (bs n), .slice pb b.length cb] w (DOut (S.appendE n b) (S.append n b) w) := by
  have K := Lib.hid (c39 S p S.fs.length c (W2 S (.slice p S.fs.length c) w) hF.f0 hF.f1 hF.f2 hF.f3)
  have HT := Lib.hid (Two.at S (.slice p S.fs.length c) w)
  have HA := Lib.hid (W2.below S (.slice p S.fs.length c) w)
  have HS2 := Lib.hid (W2.size S (.slice p S.fs.length c) w)
  have HH := Lib.hid h
  have HFI := Lib.hid hF
  have hlen := hF.len
  have hb := begin_fs S
  have hfit : S.fits n b ↔ named n ∧ ¬ ((b.length : Int) > S.begin.room - used S.fs) ∧ ¬ (lookF S.fs n = none ∧ 256 ≤ S.fs.length) := by rw [begin_room]; exact Iff.rfl
  have hroom := begin_room S
  have hmm := part_le S b hp.1
  have hmd := part_mod S b hp.1
  have hm0 : S.how = 0 → S.part' b = b.length := fun h => by unfold Ds.part'; rw [if_neg (by omega)]
  rw [append_def]
  unfold Ds.appendE
  generalize S.part' b = mm at *
  have hts : (bs n).size = n.length := by simp [bs, ByteArray.size]
  have K40 := Lib.hid (fun w' => c40 (bs n) w' (by omega))
  rw [hts] at K40
  generalize S.begin = T at *
  obtain ⟨room, fs, down, falls, fused, fuse, part⟩ := T
  simp only at hb
  subst hb
  clear h hF
  generalize S.how = hw at *
  have K31 := Lib.hid (fun m w' (hF : FsAt w' p S.fs) => c31 ⟨room, S.fs, down, falls, fused, fuse, part⟩ p c m w' hF (by show S.fs.length ≤ 1000; omega))
  unfold MV at K K31
  simp only at K K31
  unfold DOut
  simp only at hroom hfit
  rw [← hroom] at hR
  have K41 := Lib.hid (fun w' (hF : FsAt w' p S.fs) => c41 ⟨room, S.fs, down, falls, fused, fuse, part⟩ p c w' hF (by show S.fs.length ≤ 1000; omega) hU)
  unfold MV at K41
  simp only at K41
  have HBB := Lib.hid hbb
  obtain ⟨hp0, hp1⟩ := hp
  obtain ⟨hr0, hr1⟩ := hR
  clear hbb hroom
  subst hhw
  · have hmx := hm0 rfl
    clear hm0 hmd
    subst hmx
    rw [if_neg (show ¬ ((0 : Nat) = 2) by decide)]
    cases hlk : lookF S.fs n with
    | none =>
      have hfo : fileOf S n = ⟨n, [], 0⟩ := by unfold fileOf; rw [hlk]; rfl
      rw [hfo]
      by_cases hnm : named n
      · have ht1 : decide (1 ≤ n.length ∧ n.length ≤ 32) = true := decide_eq_true hnm
        rw [ht1] at K40
        have hwr : IntKind.i64.wrap (room - (used S.fs : Int)) = room - (used S.fs : Int) := IntWalk.i64_in _ (by omega)
        by_cases hfu1 : (b.length : Int) > room - used S.fs
        · have hfd : decide (room - (used S.fs : Int) < (b.length : Int)) = true := decide_eq_true hfu1
          have hnf : ¬ S.fits n b := fun h => (hfit.1 h).2.1 hfu1
          rw [if_neg hnf]
          simp only [MV, hnm, hnf, ne_eq, not_true_eq_false, not_false_eq_true, if_true, if_false]
          clear hfit hnf
          go_enter Try.func23, Try.ntmps23
          go_wp2_with (fail)
          go_at_call 39; (refine K.out.mono ?_); rintro e w2 ⟨rfl, hB2⟩; have hsz := hB2.size; rw [HS2.out] at hsz; have hT2 := HT.out.keep (hB2.mono (by have := HS2.out; omega)); have y0 := cellof hT2.a 0; have y1 := cellof hT2.a 1; have y2 := cellof hT2.a 2; have y3 := cellof hT2.a 3; have y4 := cellof hT2.a 4; have y5 := cellof hT2.a 5; have y6 := cellof hT2.a 6; have fy := fun o => frozenof hT2.a o; simp only [List.getElem?_toArray, List.getElem?_cons_zero, List.getElem?_cons_succ] at y0 y1 y2 y3 y4 y5 y6; have HB2 := Lib.hid hB2; have HT2 := Lib.hid hT2; clear hB2 hT2
          iterate 20 first | go_values | go_skip | go_guarded | go_step | go_upon | go_in | go_back | (simp only [Int.not_lt, Int.not_le] at *; go_simp)
          have hT3 := HT2.out.put (S' := ⟨room, S.fs, down, falls, fused, fuse, part⟩) (v' := .slice p S.fs.length c)
          have hB3 := put7_below (N := w.heap.size) (S := ⟨room, S.fs, down, falls, fused, fuse, part⟩) (v := .slice p S.fs.length c) (b := w.heap.size) (HA.out.trans (HB2.out.mono (by have := HS2.out; omega))) (Nat.le_refl _)
          have hs7 := put7_size ⟨room, S.fs, down, falls, fused, fuse, part⟩ (.slice p S.fs.length c) w.heap.size w2
          change Code.wp _ _ _ _ (put7 ⟨room, S.fs, down, falls, fused, fuse, part⟩ (.slice p S.fs.length c) w.heap.size w2)
          obtain ⟨w3, hw3⟩ : ∃ w3, w3 = put7 ⟨room, S.fs, down, falls, fused, fuse, part⟩ (.slice p S.fs.length c) w.heap.size w2 := ⟨_, rfl⟩
          rw [← hw3] at hT3 hB3 hs7 ⊢
          rw [← hs7] at hsz
          clear hw3 hs7 y0 y1 y2 y3 y4 y5 y6 fy
          have y0 := cellof hT3.a 0; have y1 := cellof hT3.a 1; have y2 := cellof hT3.a 2; have y3 := cellof hT3.a 3; have y4 := cellof hT3.a 4; have y5 := cellof hT3.a 5; have y6 := cellof hT3.a 6; have q0 := cellof hT3.z 0; have q1 := cellof hT3.z 1; have q2 := cellof hT3.z 2; have q3 := cellof hT3.z 3; have q4 := cellof hT3.z 4; have q5 := cellof hT3.z 5; have q6 := cellof hT3.z 6; have fy := fun o => frozenof hT3.a o; have fq := fun o => frozenof hT3.z o; simp only [List.getElem?_toArray, List.getElem?_cons_zero, List.getElem?_cons_succ] at y0 y1 y2 y3 y4 y5 y6 q0 q1 q2 q3 q4 q5 q6
          have hl0 : w.heap.size < w3.heap.size := (by omega); have hn0 : w.heap.size ≠ w3.heap.size := (by omega); have hl1 : w.heap.size + 1 < w3.heap.size := (by omega); have hn1 : w.heap.size + 1 ≠ w3.heap.size := (by omega)
          have hF3 := HH.out.mono hB3
          have HT3 := Lib.hid hT3; have HB3 := Lib.hid hB3; have HF3 := Lib.hid hF3
          clear hT3 hB3 hF3
          go_wp2_with (first | (go_at_call 40; (with_reducible refine (K40.out _).mono ?_); rintro e w9 ⟨rfl, rfl⟩) | (go_at_call 31; (refine (K31.out n _ (by first | exact HF3.out | exact HF4.out)).mono ?_); rintro e w4 hfo; obtain ⟨hB4, rfl⟩ := find_none hlk hfo; have hT4 := HT3.out.keep (hB4.mono (by omega)); have hsz4 := hB4.size; have hl4 : w.heap.size < w4.heap.size := (by omega); have hn4 : w.heap.size ≠ w4.heap.size := (by omega); have hl5 : w.heap.size + 1 < w4.heap.size := (by omega); have hn5 : w.heap.size + 1 ≠ w4.heap.size := (by omega); clear y0 y1 y2 y3 y4 y5 y6 q0 q1 q2 q3 q4 q5 q6 fy fq; have y0 := cellof hT4.a 0; have y1 := cellof hT4.a 1; have y2 := cellof hT4.a 2; have y3 := cellof hT4.a 3; have y4 := cellof hT4.a 4; have y5 := cellof hT4.a 5; have y6 := cellof hT4.a 6; have q0 := cellof hT4.z 0; have q1 := cellof hT4.z 1; have q2 := cellof hT4.z 2; have q3 := cellof hT4.z 3; have q4 := cellof hT4.z 4; have q5 := cellof hT4.z 5; have q6 := cellof hT4.z 6; have fy := fun o => frozenof hT4.a o; have fq := fun o => frozenof hT4.z o; simp only [List.getElem?_toArray, List.getElem?_cons_zero, List.getElem?_cons_succ] at y0 y1 y2 y3 y4 y5 y6 q0 q1 q2 q3 q4 q5 q6; have hB5 : Below w.heap.size w w4 := HB3.out.trans (hB4.mono (by omega)); have hF4 := HH.out.mono hB5; have HT4 := Lib.hid hT4; have HB5 := Lib.hid hB5; have HF4 := Lib.hid hF4; clear hT4 hB4 hB5 hF4))
          change Code.wp _ _ _ _ (w4.alloc (bf ⟨n, [], 0⟩ (.slice none 0 0)))
          obtain ⟨w5, hw5⟩ : ∃ w5, w5 = w4.alloc (bf ⟨n, [], 0⟩ (.slice none 0 0)) := ⟨_, rfl⟩
          have hg : w5.heap[w4.heap.size]? = some (bf ⟨n, [], 0⟩ (.slice none 0 0)) := by rw [hw5]; exact heap_alloc_new w4 _
          have hB45 : Below w4.heap.size w4 w5 := by rw [hw5]; exact (Below.refl _ _).alloc (Nat.le_refl _) _
          have hs5 : w5.heap.size = w4.heap.size + 1 := by rw [hw5, World.size_alloc]
          have hsz4 : w.heap.size + 2 ≤ w4.heap.size := by omega
          have HL5 := Lib.hid (show w4.heap.size < w5.heap.size by omega)
          rw [← hw5]
          clear hw5
          have hT5 := HT4.out.keep (hB45.mono hsz4)
          clear y0 y1 y2 y3 y4 y5 y6 q0 q1 q2 q3 q4 q5 q6 fy fq
          have y0 := cellof hT5.a 0; have y1 := cellof hT5.a 1; have y2 := cellof hT5.a 2; have y3 := cellof hT5.a 3; have y4 := cellof hT5.a 4; have y5 := cellof hT5.a 5; have y6 := cellof hT5.a 6; have q0 := cellof hT5.z 0; have q1 := cellof hT5.z 1; have q2 := cellof hT5.z 2; have q3 := cellof hT5.z 3; have q4 := cellof hT5.z 4; have q5 := cellof hT5.z 5; have q6 := cellof hT5.z 6; have fy := fun o => frozenof hT5.a o; have fq := fun o => frozenof hT5.z o; simp only [List.getElem?_toArray, List.getElem?_cons_zero, List.getElem?_cons_succ] at y0 y1 y2 y3 y4 y5 y6 q0 q1 q2 q3 q4 q5 q6
          have g0 := cellof hg 0; have g1 := cellof hg 1; have g2 := cellof hg 2
          simp only [List.getElem?_toArray, List.getElem?_cons_zero, List.getElem?_cons_succ] at g0 g1 g2
          have G0 := Lib.hid g0; have G1 := Lib.hid g1; have G2 := Lib.hid g2
          have hB6 : Below w.heap.size w w5 := HB5.out.trans (hB45.mono (by omega))
          have HK41 := Lib.hid (K41.out w5.drew (HH.out.mono hB6.drew))
          have HT5 := Lib.hid hT5; have HB6 := Lib.hid hB6; have HG5 := Lib.hid hg
          have hne4 : w4.heap.size ≠ w.heap.size + 1 := by omega
          have hne5 : w.heap.size + 1 ≠ w4.heap.size := by omega
          clear hT5 hB6 hB45 hg
          refine wp_region_held_drew (S := (fun w' => w'.cell? ⟨w.heap.size, 0, none⟩ = some (.int .i64 room) ∧ w'.cell? ⟨w.heap.size, 1, none⟩ = some (.slice p S.fs.length c) ∧ w'.cell? ⟨w.heap.size, 2, none⟩ = some (.bool down) ∧ w'.cell? ⟨w.heap.size, 3, none⟩ = some (.int .i64 falls) ∧ w'.cell? ⟨w.heap.size, 4, none⟩ = some (.bool fused) ∧ w'.cell? ⟨w.heap.size, 5, none⟩ = some (.int .i64 fuse) ∧ w'.cell? ⟨w.heap.size, 6, none⟩ = some (.int .i64 part) ∧ w'.cell? ⟨w4.heap.size, 0, none⟩ = some (.string (bs n)) ∧ w'.cell? ⟨w4.heap.size, 1, none⟩ = some (.slice none 0 0) ∧ w'.cell? ⟨w4.heap.size, 2, none⟩ = some (.int .i64 0))) (by kernel_rfl) ?_ (fun hHeld => ?_)
          · (try dsimp only)
            go_keep
          refine wpAnyH_take (i := 0) (oi := { dst := some 40, op := Op.move (Operand.tmp 2), type := 33, pos := "ref.go:104", after := #[], guard := none }) (v := ?_) rfl (by kernel_rfl) (by kernel_rfl) (by kernel_rfl) (fun _ _ _ h => h) (Or.inl ⟨by rfl, ?_⟩) hHeld ?_
          rotate_left
          · intro w' hSw
            (try dsimp only at hSw)
            go_simp
            all_goals with_reducible rfl
          try simp only [Act.put, List.setIfInBounds_toArray, List.set_cons_zero, List.set_cons_succ]
          refine wpAnyH_take (i := 1) (oi := { dst := some 41, op := Op.call { callee := Callee.builtin Builtin.len, args := #[Operand.tmp 40], argTypes := #[33] }, type := 3, pos := "ref.go:104", after := #[{ on := 0, ground := Ground.data }], guard := none }) (v := ?_) rfl (by kernel_rfl) (by kernel_rfl) (by kernel_rfl) (fun _ _ _ h => h) (Or.inl ⟨by rfl, ?_⟩) hHeld ?_
          rotate_left
          · intro w' hSw
            (try dsimp only at hSw)
            go_simp
            all_goals with_reducible rfl
          try simp only [Act.put, List.setIfInBounds_toArray, List.set_cons_zero, List.set_cons_succ]
          refine wpAnyH_take (i := 2) (oi := { dst := some 42, op := Op.fieldAddr 31 (Operand.tmp 3) 0, type := 0, pos := "ref.go:104", after := #[], guard := none }) (v := ?_) rfl (by kernel_rfl) (by kernel_rfl) (by kernel_rfl) (fun _ _ _ h => h) (Or.inl ⟨by rfl, ?_⟩) hHeld ?_
          rotate_left
          · intro w' hSw
            (try dsimp only at hSw)
            go_simp
            all_goals with_reducible rfl
          try simp only [Act.put, List.setIfInBounds_toArray, List.set_cons_zero, List.set_cons_succ]
          refine wpAnyH_take (i := 3) (oi := { dst := some 43, op := Op.load 3 (Operand.tmp 42), type := 3, pos := "ref.go:104", after := #[{ on := 2, ground := Ground.data }], guard := none }) (v := ?_) rfl (by kernel_rfl) (by kernel_rfl) (by kernel_rfl) (fun _ _ _ h => h) (Or.inl ⟨by rfl, ?_⟩) hHeld ?_
          rotate_left
          · intro w' hSw
            (try dsimp only at hSw)
            go_simp
            all_goals with_reducible rfl
          try simp only [Act.put, List.setIfInBounds_toArray, List.set_cons_zero, List.set_cons_succ]
          refine wpAnyH_take (i := 4) (oi := { dst := some 44, op := Op.load 31 (Operand.tmp 3), type := 31, pos := "ref.go:104", after := #[], guard := none }) (v := ?_) rfl (by kernel_rfl) (by kernel_rfl) (by kernel_rfl) (fun _ _ _ h => h) (Or.inl ⟨by rfl, ?_⟩) hHeld ?_
          rotate_left
          · intro w' hSw
            (try dsimp only at hSw)
            go_simp
            all_goals with_reducible rfl
          try simp only [Act.put, List.setIfInBounds_toArray, List.set_cons_zero, List.set_cons_succ]
          refine wpAnyH_ready (rs := [5]) (by kernel_rfl) (by simp) ?_
          refine AllReadyH.cons (o := { dst := some 45, op := Op.call { callee := Callee.value (Operand.func 41), args := #[Operand.tmp 44], argTypes := #[31] }, type := 3, pos := "ref.go:104", after := #[{ on := 4, ground := Ground.data }], guard := none }) rfl (fun K hK => ?_) AllReadyH.nil
          go_simp
          go_at_call 41; (refine HK41.out.mono ?_); rintro e w6 ⟨rfl, hB56⟩; have hB56 : Below w5.heap.size w5 w6 := (Below.refl _ w5).drew.trans hB56; clear y0 y1 y2 y3 y4 y5 y6 q0 q1 q2 q3 q4 q5 q6 g0 g1 g2 fy fq; have hT9 := HT5.out.keep (hB56.mono (by omega)); have y0 := cellof hT9.a 0; have y1 := cellof hT9.a 1; have y2 := cellof hT9.a 2; have y3 := cellof hT9.a 3; have y4 := cellof hT9.a 4; have y5 := cellof hT9.a 5; have y6 := cellof hT9.a 6; have q0 := cellof hT9.z 0; have q1 := cellof hT9.z 1; have q2 := cellof hT9.z 2; have q3 := cellof hT9.z 3; have q4 := cellof hT9.z 4; have q5 := cellof hT9.z 5; have q6 := cellof hT9.z 6; have fy := fun o => frozenof hT9.a o; have fq := fun o => frozenof hT9.z o; simp only [List.getElem?_toArray, List.getElem?_cons_zero, List.getElem?_cons_succ] at y0 y1 y2 y3 y4 y5 y6 q0 q1 q2 q3 q4 q5 q6; have g0 := (hB56.cell (p := ⟨w4.heap.size, 0, none⟩) HL5.out).trans G0.out; have g1 := (hB56.cell (p := ⟨w4.heap.size, 1, none⟩) HL5.out).trans G1.out; have g2 := (hB56.cell (p := ⟨w4.heap.size, 2, none⟩) HL5.out).trans G2.out; have hT6 := Lib.hid hT9; clear hT9; have hs6 := hB56.size; have HB56 := Lib.hid hB56; clear hB56
          go_wp2_with fail
          refine hK.out _ _ ?_ (fun hHeld2 => ?_)
          · (try dsimp only)
            first
              | go_keep
              | (rw [World.cell?_setCell_other]; (· assumption); (· simp))
          clear hK K hHeld
          have hHeld := hHeld2
          clear hHeld2
          try simp only [Act.put, List.setIfInBounds_toArray, List.set_cons_zero, List.set_cons_succ]
          refine wpAnyH_take (i := 6) (oi := { dst := some 46, op := Op.binOp BinOp.sub 3 (Operand.tmp 43) (Operand.tmp 45) 3, type := 3, pos := "ref.go:104", after := #[{ on := 3, ground := Ground.data }, { on := 5, ground := Ground.data }], guard := none }) (v := ?_) rfl (by kernel_rfl) (by kernel_rfl) (by kernel_rfl) (fun _ _ _ h => h) (Or.inl ⟨by rfl, ?_⟩) hHeld ?_
          rotate_left
          · intro w' hSw
            (try dsimp only at hSw)
            go_simp
            all_goals with_reducible rfl
          try simp only [Act.put, List.setIfInBounds_toArray, List.set_cons_zero, List.set_cons_succ]
          refine wpAnyH_take (i := 7) (oi := { dst := some 47, op := Op.binOp BinOp.gtr 3 (Operand.tmp 41) (Operand.tmp 46) 3, type := 4, pos := "ref.go:104", after := #[{ on := 1, ground := Ground.data }, { on := 6, ground := Ground.data }], guard := none }) (v := ?_) rfl (by kernel_rfl) (by kernel_rfl) (by kernel_rfl) (fun _ _ _ h => h) (Or.inl ⟨by rfl, ?_⟩) hHeld ?_
          rotate_left
          · intro w' hSw
            (try dsimp only at hSw)
            go_simp
            all_goals with_reducible rfl
          try simp only [Act.put, List.setIfInBounds_toArray, List.set_cons_zero, List.set_cons_succ]
          refine wpAnyH_take (i := 8) (oi := { dst := some 48, op := Op.move (Operand.tmp 47), type := 4, pos := "ref.go:104", after := #[{ on := 7, ground := Ground.data }, { on := 5, ground := Ground.chain }], guard := none }) (v := ?_) rfl (by kernel_rfl) (by kernel_rfl) (by kernel_rfl) (fun _ _ _ h => h) (Or.inl ⟨by rfl, ?_⟩) hHeld ?_
          rotate_left
          · intro w' hSw
            (try dsimp only at hSw)
            go_simp
            all_goals with_reducible rfl
          try simp only [Act.put, List.setIfInBounds_toArray, List.set_cons_zero, List.set_cons_succ]
          refine wpAnyH_take (i := 9) (oi := { dst := some 49, op := Op.move (Operand.tmp 11), type := 3, pos := "ref.go:104", after := #[{ on := 8, ground := Ground.guard }], guard := some (8, false) }) (v := undef) rfl (by kernel_rfl) (by kernel_rfl) (by kernel_rfl) (fun _ _ _ h => h) (Or.inr ⟨by rfl, rfl⟩) hHeld ?_
          try simp only [Act.put, List.setIfInBounds_toArray, List.set_cons_zero, List.set_cons_succ]
          refine wpAnyH_take (i := 10) (oi := { dst := some 50, op := Op.binOp BinOp.lss 3 (Operand.tmp 49) (Operand.const (Value.int IntKind.i64 0)) 3, type := 4, pos := "ref.go:104", after := #[{ on := 9, ground := Ground.data }, { on := 8, ground := Ground.guard }], guard := some (8, false) }) (v := undef) rfl (by kernel_rfl) (by kernel_rfl) (by kernel_rfl) (fun _ _ _ h => h) (Or.inr ⟨by rfl, rfl⟩) hHeld ?_
          try simp only [Act.put, List.setIfInBounds_toArray, List.set_cons_zero, List.set_cons_succ]
          refine wpAnyH_take (i := 11) (oi := { dst := some 51, op := Op.move (Operand.tmp 50), type := 4, pos := "ref.go:104", after := #[{ on := 10, ground := Ground.data }, { on := 8, ground := Ground.chain }, { on := 8, ground := Ground.guard }], guard := some (8, false) }) (v := undef) rfl (by kernel_rfl) (by kernel_rfl) (by kernel_rfl) (fun _ _ _ h => h) (Or.inr ⟨by rfl, rfl⟩) hHeld ?_
          try simp only [Act.put, List.setIfInBounds_toArray, List.set_cons_zero, List.set_cons_succ]
          refine wpAnyH_take (i := 12) (oi := { dst := some 52, op := Op.fieldAddr 31 (Operand.tmp 3) 1, type := 0, pos := "ref.go:104", after := #[{ on := 11, ground := Ground.guard }], guard := some (11, true) }) (v := undef) rfl (by kernel_rfl) (by kernel_rfl) (by kernel_rfl) (fun _ _ _ h => h) (Or.inr ⟨by rfl, rfl⟩) hHeld ?_
          try simp only [Act.put, List.setIfInBounds_toArray, List.set_cons_zero, List.set_cons_succ]
          refine wpAnyH_take (i := 13) (oi := { dst := some 53, op := Op.load 29 (Operand.tmp 52), type := 29, pos := "ref.go:104", after := #[{ on := 12, ground := Ground.data }, { on := 11, ground := Ground.guard }], guard := some (11, true) }) (v := undef) rfl (by kernel_rfl) (by kernel_rfl) (by kernel_rfl) (fun _ _ _ h => h) (Or.inr ⟨by rfl, rfl⟩) hHeld ?_
          try simp only [Act.put, List.setIfInBounds_toArray, List.set_cons_zero, List.set_cons_succ]
          refine wpAnyH_take (i := 14) (oi := { dst := some 54, op := Op.call { callee := Callee.builtin Builtin.len, args := #[Operand.tmp 53], argTypes := #[29] }, type := 3, pos := "ref.go:104", after := #[{ on := 13, ground := Ground.data }, { on := 11, ground := Ground.guard }], guard := some (11, true) }) (v := undef) rfl (by kernel_rfl) (by kernel_rfl) (by kernel_rfl) (fun _ _ _ h => h) (Or.inr ⟨by rfl, rfl⟩) hHeld ?_
          try simp only [Act.put, List.setIfInBounds_toArray, List.set_cons_zero, List.set_cons_succ]
          refine wpAnyH_take (i := 15) (oi := { dst := some 55, op := Op.binOp BinOp.geq 3 (Operand.tmp 54) (Operand.const (Value.int IntKind.i64 256)) 3, type := 4, pos := "ref.go:104", after := #[{ on := 14, ground := Ground.data }, { on := 11, ground := Ground.guard }], guard := some (11, true) }) (v := undef) rfl (by kernel_rfl) (by kernel_rfl) (by kernel_rfl) (fun _ _ _ h => h) (Or.inr ⟨by rfl, rfl⟩) hHeld ?_
          try simp only [Act.put, List.setIfInBounds_toArray, List.set_cons_zero, List.set_cons_succ]
          refine wpAnyH_take (i := 16) (oi := { dst := some 56, op := Op.pick (Operand.tmp 51) (Operand.tmp 55) (Operand.const (Value.bool false)), type := 4, pos := "ref.go:104", after := #[{ on := 11, ground := Ground.data }, { on := 15, ground := Ground.data }, { on := 8, ground := Ground.guard }], guard := some (8, false) }) (v := undef) rfl (by kernel_rfl) (by kernel_rfl) (by kernel_rfl) (fun _ _ _ h => h) (Or.inr ⟨by rfl, rfl⟩) hHeld ?_
          try simp only [Act.put, List.setIfInBounds_toArray, List.set_cons_zero, List.set_cons_succ]
          refine wpAnyH_take (i := 17) (oi := { dst := some 57, op := Op.pick (Operand.tmp 48) (Operand.const (Value.bool true)) (Operand.tmp 56), type := 4, pos := "ref.go:104", after := #[{ on := 8, ground := Ground.data }, { on := 16, ground := Ground.data }], guard := none }) (v := ?_) rfl (by kernel_rfl) (by kernel_rfl) (by kernel_rfl) (fun _ _ _ h => h) (Or.inl ⟨by rfl, ?_⟩) hHeld ?_
          rotate_left
          · intro w' hSw
            (try dsimp only at hSw)
            go_simp
            all_goals with_reducible rfl
          try simp only [Act.put, List.setIfInBounds_toArray, List.set_cons_zero, List.set_cons_succ]
          refine wpAnyH_done (by kernel_rfl) ?_ _
          have hB9 : Below w.heap.size w w6 := HB6.out.trans (HB56.out.mono (by omega))
          have HB9 := Lib.hid hB9
          clear hB9
          go_wp2
          go_region_held (fun w' => w'.cell? ⟨w.heap.size, 0, none⟩ = some (.int .i64 room) ∧ w'.cell? ⟨w.heap.size, 1, none⟩ = some (.slice p S.fs.length c) ∧ w'.cell? ⟨w.heap.size, 2, none⟩ = some (.bool down) ∧ w'.cell? ⟨w.heap.size, 3, none⟩ = some (.int .i64 falls) ∧ w'.cell? ⟨w.heap.size, 4, none⟩ = some (.bool fused) ∧ w'.cell? ⟨w.heap.size, 5, none⟩ = some (.int .i64 fuse) ∧ w'.cell? ⟨w.heap.size, 6, none⟩ = some (.int .i64 part)) (go_keep) (fail)
          all_goals go_wp2
          all_goals refine bodyPost_ret (v := .tuple #[.int .i64 7, .agg #[.int .i64 room, .slice p S.fs.length c, .bool down, .int .i64 falls, .bool fused, .int .i64 fuse, .int .i64 part]]) (by simp [results, Try.results23, go_sem, q0, q1, q2, q3, q4, q5, q6]) rfl ⟨p, c, rfl, HH.out.mono ?_, ?_⟩
          all_goals refine Below.drew ?_
          all_goals iterate 7 refine Below.setCell ?_ (by simp <;> omega) _
          all_goals exact HB9.out
        · have hfd : decide (room - (used S.fs : Int) < (b.length : Int)) = false := decide_eq_false hfu1
          by_cases h256 : 256 ≤ S.fs.length
          · have hfd2 : decide ((256 : Int) ≤ (S.fs.length : Int)) = true := decide_eq_true (by omega)
            have hnf : ¬ S.fits n b := fun h => (hfit.1 h).2.2 ⟨hlk, h256⟩
            rw [if_neg hnf]
            simp only [MV, hnm, hnf, ne_eq, not_true_eq_false, not_false_eq_true, if_true, if_false]
            clear hfit hnf
            go_enter Try.func23, Try.ntmps23
            go_wp2_with (fail)
            go_at_call 39; (refine K.out.mono ?_); rintro e w2 ⟨rfl, hB2⟩; have hsz := hB2.size; rw [HS2.out] at hsz; have hT2 := HT.out.keep (hB2.mono (by have := HS2.out; omega)); have y0 := cellof hT2.a 0; have y1 := cellof hT2.a 1; have y2 := cellof hT2.a 2; have y3 := cellof hT2.a 3; have y4 := cellof hT2.a 4; have y5 := cellof hT2.a 5; have y6 := cellof hT2.a 6; have fy := fun o => frozenof hT2.a o; simp only [List.getElem?_toArray, List.getElem?_cons_zero, List.getElem?_cons_succ] at y0 y1 y2 y3 y4 y5 y6; have HB2 := Lib.hid hB2; have HT2 := Lib.hid hT2; clear hB2 hT2
            iterate 20 first | go_values | go_skip | go_guarded | go_step | go_upon | go_in | go_back | (simp only [Int.not_lt, Int.not_le] at *; go_simp)
            have hT3 := HT2.out.put (S' := ⟨room, S.fs, down, falls, fused, fuse, part⟩) (v' := .slice p S.fs.length c)
            have hB3 := put7_below (N := w.heap.size) (S := ⟨room, S.fs, down, falls, fused, fuse, part⟩) (v := .slice p S.fs.length c) (b := w.heap.size) (HA.out.trans (HB2.out.mono (by have := HS2.out; omega))) (Nat.le_refl _)
            have hs7 := put7_size ⟨room, S.fs, down, falls, fused, fuse, part⟩ (.slice p S.fs.length c) w.heap.size w2
            change Code.wp _ _ _ _ (put7 ⟨room, S.fs, down, falls, fused, fuse, part⟩ (.slice p S.fs.length c) w.heap.size w2)
            obtain ⟨w3, hw3⟩ : ∃ w3, w3 = put7 ⟨room, S.fs, down, falls, fused, fuse, part⟩ (.slice p S.fs.length c) w.heap.size w2 := ⟨_, rfl⟩
            rw [← hw3] at hT3 hB3 hs7 ⊢
            rw [← hs7] at hsz
            clear hw3 hs7 y0 y1 y2 y3 y4 y5 y6 fy
            have y0 := cellof hT3.a 0; have y1 := cellof hT3.a 1; have y2 := cellof hT3.a 2; have y3 := cellof hT3.a 3; have y4 := cellof hT3.a 4; have y5 := cellof hT3.a 5; have y6 := cellof hT3.a 6; have q0 := cellof hT3.z 0; have q1 := cellof hT3.z 1; have q2 := cellof hT3.z 2; have q3 := cellof hT3.z 3; have q4 := cellof hT3.z 4; have q5 := cellof hT3.z 5; have q6 := cellof hT3.z 6; have fy := fun o => frozenof hT3.a o; have fq := fun o => frozenof hT3.z o; simp only [List.getElem?_toArray, List.getElem?_cons_zero, List.getElem?_cons_succ] at y0 y1 y2 y3 y4 y5 y6 q0 q1 q2 q3 q4 q5 q6
            have hl0 : w.heap.size < w3.heap.size := (by omega); have hn0 : w.heap.size ≠ w3.heap.size := (by omega); have hl1 : w.heap.size + 1 < w3.heap.size := (by omega); have hn1 : w.heap.size + 1 ≠ w3.heap.size := (by omega)
            have hF3 := HH.out.mono hB3
            have HT3 := Lib.hid hT3; have HB3 := Lib.hid hB3; have HF3 := Lib.hid hF3
            clear hT3 hB3 hF3
            go_wp2_with (first | (go_at_call 40; (with_reducible refine (K40.out _).mono ?_); rintro e w9 ⟨rfl, rfl⟩) | (go_at_call 31; (refine (K31.out n _ (by first | exact HF3.out | exact HF4.out)).mono ?_); rintro e w4 hfo; obtain ⟨hB4, rfl⟩ := find_none hlk hfo; have hT4 := HT3.out.keep (hB4.mono (by omega)); have hsz4 := hB4.size; have hl4 : w.heap.size < w4.heap.size := (by omega); have hn4 : w.heap.size ≠ w4.heap.size := (by omega); have hl5 : w.heap.size + 1 < w4.heap.size := (by omega); have hn5 : w.heap.size + 1 ≠ w4.heap.size := (by omega); clear y0 y1 y2 y3 y4 y5 y6 q0 q1 q2 q3 q4 q5 q6 fy fq; have y0 := cellof hT4.a 0; have y1 := cellof hT4.a 1; have y2 := cellof hT4.a 2; have y3 := cellof hT4.a 3; have y4 := cellof hT4.a 4; have y5 := cellof hT4.a 5; have y6 := cellof hT4.a 6; have q0 := cellof hT4.z 0; have q1 := cellof hT4.z 1; have q2 := cellof hT4.z 2; have q3 := cellof hT4.z 3; have q4 := cellof hT4.z 4; have q5 := cellof hT4.z 5; have q6 := cellof hT4.z 6; have fy := fun o => frozenof hT4.a o; have fq := fun o => frozenof hT4.z o; simp only [List.getElem?_toArray, List.getElem?_cons_zero, List.getElem?_cons_succ] at y0 y1 y2 y3 y4 y5 y6 q0 q1 q2 q3 q4 q5 q6; have hB5 : Below w.heap.size w w4 := HB3.out.trans (hB4.mono (by omega)); have hF4 := HH.out.mono hB5; have HT4 := Lib.hid hT4; have HB5 := Lib.hid hB5; have HF4 := Lib.hid hF4; clear hT4 hB4 hB5 hF4))
            change Code.wp _ _ _ _ (w4.alloc (bf ⟨n, [], 0⟩ (.slice none 0 0)))
            obtain ⟨w5, hw5⟩ : ∃ w5, w5 = w4.alloc (bf ⟨n, [], 0⟩ (.slice none 0 0)) := ⟨_, rfl⟩
            have hg : w5.heap[w4.heap.size]? = some (bf ⟨n, [], 0⟩ (.slice none 0 0)) := by rw [hw5]; exact heap_alloc_new w4 _
            have hB45 : Below w4.heap.size w4 w5 := by rw [hw5]; exact (Below.refl _ _).alloc (Nat.le_refl _) _
            have hs5 : w5.heap.size = w4.heap.size + 1 := by rw [hw5, World.size_alloc]
            have hsz4 : w.heap.size + 2 ≤ w4.heap.size := by omega
            have HL5 := Lib.hid (show w4.heap.size < w5.heap.size by omega)
            rw [← hw5]
            clear hw5
            have hT5 := HT4.out.keep (hB45.mono hsz4)
            clear y0 y1 y2 y3 y4 y5 y6 q0 q1 q2 q3 q4 q5 q6 fy fq
            have y0 := cellof hT5.a 0; have y1 := cellof hT5.a 1; have y2 := cellof hT5.a 2; have y3 := cellof hT5.a 3; have y4 := cellof hT5.a 4; have y5 := cellof hT5.a 5; have y6 := cellof hT5.a 6; have q0 := cellof hT5.z 0; have q1 := cellof hT5.z 1; have q2 := cellof hT5.z 2; have q3 := cellof hT5.z 3; have q4 := cellof hT5.z 4; have q5 := cellof hT5.z 5; have q6 := cellof hT5.z 6; have fy := fun o => frozenof hT5.a o; have fq := fun o => frozenof hT5.z o; simp only [List.getElem?_toArray, List.getElem?_cons_zero, List.getElem?_cons_succ] at y0 y1 y2 y3 y4 y5 y6 q0 q1 q2 q3 q4 q5 q6
            have g0 := cellof hg 0; have g1 := cellof hg 1; have g2 := cellof hg 2
            simp only [List.getElem?_toArray, List.getElem?_cons_zero, List.getElem?_cons_succ] at g0 g1 g2
            have G0 := Lib.hid g0; have G1 := Lib.hid g1; have G2 := Lib.hid g2
            have hB6 : Below w.heap.size w w5 := HB5.out.trans (hB45.mono (by omega))
            have HK41 := Lib.hid (K41.out w5.drew (HH.out.mono hB6.drew))
            have HT5 := Lib.hid hT5; have HB6 := Lib.hid hB6; have HG5 := Lib.hid hg
            have hne4 : w4.heap.size ≠ w.heap.size + 1 := by omega
            have hne5 : w.heap.size + 1 ≠ w4.heap.size := by omega
            clear hT5 hB6 hB45 hg
            refine wp_region_held_drew (S := (fun w' => w'.cell? ⟨w.heap.size, 0, none⟩ = some (.int .i64 room) ∧ w'.cell? ⟨w.heap.size, 1, none⟩ = some (.slice p S.fs.length c) ∧ w'.cell? ⟨w.heap.size, 2, none⟩ = some (.bool down) ∧ w'.cell? ⟨w.heap.size, 3, none⟩ = some (.int .i64 falls) ∧ w'.cell? ⟨w.heap.size, 4, none⟩ = some (.bool fused) ∧ w'.cell? ⟨w.heap.size, 5, none⟩ = some (.int .i64 fuse) ∧ w'.cell? ⟨w.heap.size, 6, none⟩ = some (.int .i64 part) ∧ w'.cell? ⟨w4.heap.size, 0, none⟩ = some (.string (bs n)) ∧ w'.cell? ⟨w4.heap.size, 1, none⟩ = some (.slice none 0 0) ∧ w'.cell? ⟨w4.heap.size, 2, none⟩ = some (.int .i64 0))) (by kernel_rfl) ?_ (fun hHeld => ?_)
            · (try dsimp only)
              go_keep
            refine wpAnyH_take (i := 0) (oi := { dst := some 40, op := Op.move (Operand.tmp 2), type := 33, pos := "ref.go:104", after := #[], guard := none }) (v := ?_) rfl (by kernel_rfl) (by kernel_rfl) (by kernel_rfl) (fun _ _ _ h => h) (Or.inl ⟨by rfl, ?_⟩) hHeld ?_
            rotate_left
            · intro w' hSw
              (try dsimp only at hSw)
              go_simp
              all_goals with_reducible rfl
            try simp only [Act.put, List.setIfInBounds_toArray, List.set_cons_zero, List.set_cons_succ]
            refine wpAnyH_take (i := 1) (oi := { dst := some 41, op := Op.call { callee := Callee.builtin Builtin.len, args := #[Operand.tmp 40], argTypes := #[33] }, type := 3, pos := "ref.go:104", after := #[{ on := 0, ground := Ground.data }], guard := none }) (v := ?_) rfl (by kernel_rfl) (by kernel_rfl) (by kernel_rfl) (fun _ _ _ h => h) (Or.inl ⟨by rfl, ?_⟩) hHeld ?_
            rotate_left
            · intro w' hSw
              (try dsimp only at hSw)
              go_simp
              all_goals with_reducible rfl
            try simp only [Act.put, List.setIfInBounds_toArray, List.set_cons_zero, List.set_cons_succ]
            refine wpAnyH_take (i := 2) (oi := { dst := some 42, op := Op.fieldAddr 31 (Operand.tmp 3) 0, type := 0, pos := "ref.go:104", after := #[], guard := none }) (v := ?_) rfl (by kernel_rfl) (by kernel_rfl) (by kernel_rfl) (fun _ _ _ h => h) (Or.inl ⟨by rfl, ?_⟩) hHeld ?_
            rotate_left
            · intro w' hSw
              (try dsimp only at hSw)
              go_simp
              all_goals with_reducible rfl
            try simp only [Act.put, List.setIfInBounds_toArray, List.set_cons_zero, List.set_cons_succ]
            refine wpAnyH_take (i := 3) (oi := { dst := some 43, op := Op.load 3 (Operand.tmp 42), type := 3, pos := "ref.go:104", after := #[{ on := 2, ground := Ground.data }], guard := none }) (v := ?_) rfl (by kernel_rfl) (by kernel_rfl) (by kernel_rfl) (fun _ _ _ h => h) (Or.inl ⟨by rfl, ?_⟩) hHeld ?_
            rotate_left
            · intro w' hSw
              (try dsimp only at hSw)
              go_simp
              all_goals with_reducible rfl
            try simp only [Act.put, List.setIfInBounds_toArray, List.set_cons_zero, List.set_cons_succ]
            refine wpAnyH_take (i := 4) (oi := { dst := some 44, op := Op.load 31 (Operand.tmp 3), type := 31, pos := "ref.go:104", after := #[], guard := none }) (v := ?_) rfl (by kernel_rfl) (by kernel_rfl) (by kernel_rfl) (fun _ _ _ h => h) (Or.inl ⟨by rfl, ?_⟩) hHeld ?_
            rotate_left
            · intro w' hSw
              (try dsimp only at hSw)
              go_simp
              all_goals with_reducible rfl
            try simp only [Act.put, List.setIfInBounds_toArray, List.set_cons_zero, List.set_cons_succ]
            refine wpAnyH_ready (rs := [5]) (by kernel_rfl) (by simp) ?_
            refine AllReadyH.cons (o := { dst := some 45, op := Op.call { callee := Callee.value (Operand.func 41), args := #[Operand.tmp 44], argTypes := #[31] }, type := 3, pos := "ref.go:104", after := #[{ on := 4, ground := Ground.data }], guard := none }) rfl (fun K hK => ?_) AllReadyH.nil
            go_simp
            go_at_call 41; (refine HK41.out.mono ?_); rintro e w6 ⟨rfl, hB56⟩; have hB56 : Below w5.heap.size w5 w6 := (Below.refl _ w5).drew.trans hB56; clear y0 y1 y2 y3 y4 y5 y6 q0 q1 q2 q3 q4 q5 q6 g0 g1 g2 fy fq; have hT9 := HT5.out.keep (hB56.mono (by omega)); have y0 := cellof hT9.a 0; have y1 := cellof hT9.a 1; have y2 := cellof hT9.a 2; have y3 := cellof hT9.a 3; have y4 := cellof hT9.a 4; have y5 := cellof hT9.a 5; have y6 := cellof hT9.a 6; have q0 := cellof hT9.z 0; have q1 := cellof hT9.z 1; have q2 := cellof hT9.z 2; have q3 := cellof hT9.z 3; have q4 := cellof hT9.z 4; have q5 := cellof hT9.z 5; have q6 := cellof hT9.z 6; have fy := fun o => frozenof hT9.a o; have fq := fun o => frozenof hT9.z o; simp only [List.getElem?_toArray, List.getElem?_cons_zero, List.getElem?_cons_succ] at y0 y1 y2 y3 y4 y5 y6 q0 q1 q2 q3 q4 q5 q6; have g0 := (hB56.cell (p := ⟨w4.heap.size, 0, none⟩) HL5.out).trans G0.out; have g1 := (hB56.cell (p := ⟨w4.heap.size, 1, none⟩) HL5.out).trans G1.out; have g2 := (hB56.cell (p := ⟨w4.heap.size, 2, none⟩) HL5.out).trans G2.out; have hT6 := Lib.hid hT9; clear hT9; have hs6 := hB56.size; have HB56 := Lib.hid hB56; clear hB56
            go_wp2_with fail
            refine hK.out _ _ ?_ (fun hHeld2 => ?_)
            · (try dsimp only)
              first
                | go_keep
                | (rw [World.cell?_setCell_other]; (· assumption); (· simp))
            clear hK K hHeld
            have hHeld := hHeld2
            clear hHeld2
            try simp only [Act.put, List.setIfInBounds_toArray, List.set_cons_zero, List.set_cons_succ]
            refine wpAnyH_take (i := 6) (oi := { dst := some 46, op := Op.binOp BinOp.sub 3 (Operand.tmp 43) (Operand.tmp 45) 3, type := 3, pos := "ref.go:104", after := #[{ on := 3, ground := Ground.data }, { on := 5, ground := Ground.data }], guard := none }) (v := ?_) rfl (by kernel_rfl) (by kernel_rfl) (by kernel_rfl) (fun _ _ _ h => h) (Or.inl ⟨by rfl, ?_⟩) hHeld ?_
            rotate_left
            · intro w' hSw
              (try dsimp only at hSw)
              go_simp
              all_goals with_reducible rfl
            try simp only [Act.put, List.setIfInBounds_toArray, List.set_cons_zero, List.set_cons_succ]
            refine wpAnyH_take (i := 7) (oi := { dst := some 47, op := Op.binOp BinOp.gtr 3 (Operand.tmp 41) (Operand.tmp 46) 3, type := 4, pos := "ref.go:104", after := #[{ on := 1, ground := Ground.data }, { on := 6, ground := Ground.data }], guard := none }) (v := ?_) rfl (by kernel_rfl) (by kernel_rfl) (by kernel_rfl) (fun _ _ _ h => h) (Or.inl ⟨by rfl, ?_⟩) hHeld ?_
            rotate_left
            · intro w' hSw
              (try dsimp only at hSw)
              go_simp
              all_goals with_reducible rfl
            try simp only [Act.put, List.setIfInBounds_toArray, List.set_cons_zero, List.set_cons_succ]
            refine wpAnyH_take (i := 8) (oi := { dst := some 48, op := Op.move (Operand.tmp 47), type := 4, pos := "ref.go:104", after := #[{ on := 7, ground := Ground.data }, { on := 5, ground := Ground.chain }], guard := none }) (v := ?_) rfl (by kernel_rfl) (by kernel_rfl) (by kernel_rfl) (fun _ _ _ h => h) (Or.inl ⟨by rfl, ?_⟩) hHeld ?_
            rotate_left
            · intro w' hSw
              (try dsimp only at hSw)
              go_simp
              all_goals with_reducible rfl
            try simp only [Act.put, List.setIfInBounds_toArray, List.set_cons_zero, List.set_cons_succ]
            refine wpAnyH_take (i := 9) (oi := { dst := some 49, op := Op.move (Operand.tmp 11), type := 3, pos := "ref.go:104", after := #[{ on := 8, ground := Ground.guard }], guard := some (8, false) }) (v := ?_) rfl (by kernel_rfl) (by kernel_rfl) (by kernel_rfl) (fun _ _ _ h => h) (Or.inl ⟨by rfl, ?_⟩) hHeld ?_
            rotate_left
            · intro w' hSw
              (try dsimp only at hSw)
              go_simp
              all_goals with_reducible rfl
            try simp only [Act.put, List.setIfInBounds_toArray, List.set_cons_zero, List.set_cons_succ]
            refine wpAnyH_take (i := 10) (oi := { dst := some 50, op := Op.binOp BinOp.lss 3 (Operand.tmp 49) (Operand.const (Value.int IntKind.i64 0)) 3, type := 4, pos := "ref.go:104", after := #[{ on := 9, ground := Ground.data }, { on := 8, ground := Ground.guard }], guard := some (8, false) }) (v := ?_) rfl (by kernel_rfl) (by kernel_rfl) (by kernel_rfl) (fun _ _ _ h => h) (Or.inl ⟨by rfl, ?_⟩) hHeld ?_
            rotate_left
            · intro w' hSw
              (try dsimp only at hSw)
              go_simp
              all_goals with_reducible rfl
            try simp only [Act.put, List.setIfInBounds_toArray, List.set_cons_zero, List.set_cons_succ]
            refine wpAnyH_take (i := 11) (oi := { dst := some 51, op := Op.move (Operand.tmp 50), type := 4, pos := "ref.go:104", after := #[{ on := 10, ground := Ground.data }, { on := 8, ground := Ground.chain }, { on := 8, ground := Ground.guard }], guard := some (8, false) }) (v := ?_) rfl (by kernel_rfl) (by kernel_rfl) (by kernel_rfl) (fun _ _ _ h => h) (Or.inl ⟨by rfl, ?_⟩) hHeld ?_
            rotate_left
            · intro w' hSw
              (try dsimp only at hSw)
              go_simp
              all_goals with_reducible rfl
            try simp only [Act.put, List.setIfInBounds_toArray, List.set_cons_zero, List.set_cons_succ]
            refine wpAnyH_take (i := 12) (oi := { dst := some 52, op := Op.fieldAddr 31 (Operand.tmp 3) 1, type := 0, pos := "ref.go:104", after := #[{ on := 11, ground := Ground.guard }], guard := some (11, true) }) (v := ?_) rfl (by kernel_rfl) (by kernel_rfl) (by kernel_rfl) (fun _ _ _ h => h) (Or.inl ⟨by rfl, ?_⟩) hHeld ?_
            rotate_left
            · intro w' hSw
              (try dsimp only at hSw)
              go_simp
              all_goals with_reducible rfl
            try simp only [Act.put, List.setIfInBounds_toArray, List.set_cons_zero, List.set_cons_succ]
            refine wpAnyH_take (i := 13) (oi := { dst := some 53, op := Op.load 29 (Operand.tmp 52), type := 29, pos := "ref.go:104", after := #[{ on := 12, ground := Ground.data }, { on := 11, ground := Ground.guard }], guard := some (11, true) }) (v := ?_) rfl (by kernel_rfl) (by kernel_rfl) (by kernel_rfl) (fun _ _ _ h => h) (Or.inl ⟨by rfl, ?_⟩) hHeld ?_
            rotate_left
            · intro w' hSw
              (try dsimp only at hSw)
              go_simp
              all_goals with_reducible rfl
            try simp only [Act.put, List.setIfInBounds_toArray, List.set_cons_zero, List.set_cons_succ]
            refine wpAnyH_take (i := 14) (oi := { dst := some 54, op := Op.call { callee := Callee.builtin Builtin.len, args := #[Operand.tmp 53], argTypes := #[29] }, type := 3, pos := "ref.go:104", after := #[{ on := 13, ground := Ground.data }, { on := 11, ground := Ground.guard }], guard := some (11, true) }) (v := ?_) rfl (by kernel_rfl) (by kernel_rfl) (by kernel_rfl) (fun _ _ _ h => h) (Or.inl ⟨by rfl, ?_⟩) hHeld ?_
            rotate_left
            · intro w' hSw
              (try dsimp only at hSw)
              go_simp
              all_goals with_reducible rfl
            try simp only [Act.put, List.setIfInBounds_toArray, List.set_cons_zero, List.set_cons_succ]
            refine wpAnyH_take (i := 15) (oi := { dst := some 55, op := Op.binOp BinOp.geq 3 (Operand.tmp 54) (Operand.const (Value.int IntKind.i64 256)) 3, type := 4, pos := "ref.go:104", after := #[{ on := 14, ground := Ground.data }, { on := 11, ground := Ground.guard }], guard := some (11, true) }) (v := ?_) rfl (by kernel_rfl) (by kernel_rfl) (by kernel_rfl) (fun _ _ _ h => h) (Or.inl ⟨by rfl, ?_⟩) hHeld ?_
            rotate_left
            · intro w' hSw
              (try dsimp only at hSw)
              go_simp
              all_goals with_reducible rfl
            try simp only [Act.put, List.setIfInBounds_toArray, List.set_cons_zero, List.set_cons_succ]
            refine wpAnyH_take (i := 16) (oi := { dst := some 56, op := Op.pick (Operand.tmp 51) (Operand.tmp 55) (Operand.const (Value.bool false)), type := 4, pos := "ref.go:104", after := #[{ on := 11, ground := Ground.data }, { on := 15, ground := Ground.data }, { on := 8, ground := Ground.guard }], guard := some (8, false) }) (v := ?_) rfl (by kernel_rfl) (by kernel_rfl) (by kernel_rfl) (fun _ _ _ h => h) (Or.inl ⟨by rfl, ?_⟩) hHeld ?_
            rotate_left
            · intro w' hSw
              (try dsimp only at hSw)
              go_simp
              all_goals with_reducible rfl
            try simp only [Act.put, List.setIfInBounds_toArray, List.set_cons_zero, List.set_cons_succ]
            refine wpAnyH_take (i := 17) (oi := { dst := some 57, op := Op.pick (Operand.tmp 48) (Operand.const (Value.bool true)) (Operand.tmp 56), type := 4, pos := "ref.go:104", after := #[{ on := 8, ground := Ground.data }, { on := 16, ground := Ground.data }], guard := none }) (v := ?_) rfl (by kernel_rfl) (by kernel_rfl) (by kernel_rfl) (fun _ _ _ h => h) (Or.inl ⟨by rfl, ?_⟩) hHeld ?_
            rotate_left
            · intro w' hSw
              (try dsimp only at hSw)
              go_simp
              all_goals with_reducible rfl
            try simp only [Act.put, List.setIfInBounds_toArray, List.set_cons_zero, List.set_cons_succ]
            refine wpAnyH_done (by kernel_rfl) ?_ _
            have hB9 : Below w.heap.size w w6 := HB6.out.trans (HB56.out.mono (by omega))
            have HB9 := Lib.hid hB9
            clear hB9
            go_wp2
            go_region_held (fun w' => w'.cell? ⟨w.heap.size, 0, none⟩ = some (.int .i64 room) ∧ w'.cell? ⟨w.heap.size, 1, none⟩ = some (.slice p S.fs.length c) ∧ w'.cell? ⟨w.heap.size, 2, none⟩ = some (.bool down) ∧ w'.cell? ⟨w.heap.size, 3, none⟩ = some (.int .i64 falls) ∧ w'.cell? ⟨w.heap.size, 4, none⟩ = some (.bool fused) ∧ w'.cell? ⟨w.heap.size, 5, none⟩ = some (.int .i64 fuse) ∧ w'.cell? ⟨w.heap.size, 6, none⟩ = some (.int .i64 part)) (go_keep) (fail)
            all_goals go_wp2
            all_goals refine bodyPost_ret (v := .tuple #[.int .i64 7, .agg #[.int .i64 room, .slice p S.fs.length c, .bool down, .int .i64 falls, .bool fused, .int .i64 fuse, .int .i64 part]]) (by simp [results, Try.results23, go_sem, q0, q1, q2, q3, q4, q5, q6]) rfl ⟨p, c, rfl, HH.out.mono ?_, ?_⟩
            all_goals refine Below.drew ?_
            all_goals iterate 7 refine Below.setCell ?_ (by simp <;> omega) _
            all_goals exact HB9.out
          · have hfd2 : decide ((256 : Int) ≤ (S.fs.length : Int)) = false := decide_eq_false (by omega)
            have hfv : S.fits n b := hfit.2 ⟨hnm, hfu1, fun h => h256 h.2⟩
            rw [if_pos hfv]
            simp only [MV, hnm, hfv, ne_eq, not_true_eq_false, not_false_eq_true, if_true, if_false]
            clear hfit hfv
            go_enter Try.func23, Try.ntmps23
            go_wp2_with (fail)
            go_at_call 39; (refine K.out.mono ?_); rintro e w2 ⟨rfl, hB2⟩; have hsz := hB2.size; rw [HS2.out] at hsz; have hT2 := HT.out.keep (hB2.mono (by have := HS2.out; omega)); have y0 := cellof hT2.a 0; have y1 := cellof hT2.a 1; have y2 := cellof hT2.a 2; have y3 := cellof hT2.a 3; have y4 := cellof hT2.a 4; have y5 := cellof hT2.a 5; have y6 := cellof hT2.a 6; have fy := fun o => frozenof hT2.a o; simp only [List.getElem?_toArray, List.getElem?_cons_zero, List.getElem?_cons_succ] at y0 y1 y2 y3 y4 y5 y6; have HB2 := Lib.hid hB2; have HT2 := Lib.hid hT2; clear hB2 hT2
            iterate 20 first | go_values | go_skip | go_guarded | go_step | go_upon | go_in | go_back | (simp only [Int.not_lt, Int.not_le] at *; go_simp)
            have hT3 := HT2.out.put (S' := ⟨room, S.fs, down, falls, fused, fuse, part⟩) (v' := .slice p S.fs.length c)
            have hB3 := put7_below (N := w.heap.size) (S := ⟨room, S.fs, down, falls, fused, fuse, part⟩) (v := .slice p S.fs.length c) (b := w.heap.size) (HA.out.trans (HB2.out.mono (by have := HS2.out; omega))) (Nat.le_refl _)
            have hs7 := put7_size ⟨room, S.fs, down, falls, fused, fuse, part⟩ (.slice p S.fs.length c) w.heap.size w2
            change Code.wp _ _ _ _ (put7 ⟨room, S.fs, down, falls, fused, fuse, part⟩ (.slice p S.fs.length c) w.heap.size w2)
            obtain ⟨w3, hw3⟩ : ∃ w3, w3 = put7 ⟨room, S.fs, down, falls, fused, fuse, part⟩ (.slice p S.fs.length c) w.heap.size w2 := ⟨_, rfl⟩
            rw [← hw3] at hT3 hB3 hs7 ⊢
            rw [← hs7] at hsz
            clear hw3 hs7 y0 y1 y2 y3 y4 y5 y6 fy
            have y0 := cellof hT3.a 0; have y1 := cellof hT3.a 1; have y2 := cellof hT3.a 2; have y3 := cellof hT3.a 3; have y4 := cellof hT3.a 4; have y5 := cellof hT3.a 5; have y6 := cellof hT3.a 6; have q0 := cellof hT3.z 0; have q1 := cellof hT3.z 1; have q2 := cellof hT3.z 2; have q3 := cellof hT3.z 3; have q4 := cellof hT3.z 4; have q5 := cellof hT3.z 5; have q6 := cellof hT3.z 6; have fy := fun o => frozenof hT3.a o; have fq := fun o => frozenof hT3.z o; simp only [List.getElem?_toArray, List.getElem?_cons_zero, List.getElem?_cons_succ] at y0 y1 y2 y3 y4 y5 y6 q0 q1 q2 q3 q4 q5 q6
            have hl0 : w.heap.size < w3.heap.size := (by omega); have hn0 : w.heap.size ≠ w3.heap.size := (by omega); have hl1 : w.heap.size + 1 < w3.heap.size := (by omega); have hn1 : w.heap.size + 1 ≠ w3.heap.size := (by omega)
            have hF3 := HH.out.mono hB3
            have HT3 := Lib.hid hT3; have HB3 := Lib.hid hB3; have HF3 := Lib.hid hF3
            clear hT3 hB3 hF3
            go_wp2_with (first | (go_at_call 40; (with_reducible refine (K40.out _).mono ?_); rintro e w9 ⟨rfl, rfl⟩) | (go_at_call 31; (refine (K31.out n _ (by first | exact HF3.out | exact HF4.out)).mono ?_); rintro e w4 hfo; obtain ⟨hB4, rfl⟩ := find_none hlk hfo; have hT4 := HT3.out.keep (hB4.mono (by omega)); have hsz4 := hB4.size; have hl4 : w.heap.size < w4.heap.size := (by omega); have hn4 : w.heap.size ≠ w4.heap.size := (by omega); have hl5 : w.heap.size + 1 < w4.heap.size := (by omega); have hn5 : w.heap.size + 1 ≠ w4.heap.size := (by omega); clear y0 y1 y2 y3 y4 y5 y6 q0 q1 q2 q3 q4 q5 q6 fy fq; have y0 := cellof hT4.a 0; have y1 := cellof hT4.a 1; have y2 := cellof hT4.a 2; have y3 := cellof hT4.a 3; have y4 := cellof hT4.a 4; have y5 := cellof hT4.a 5; have y6 := cellof hT4.a 6; have q0 := cellof hT4.z 0; have q1 := cellof hT4.z 1; have q2 := cellof hT4.z 2; have q3 := cellof hT4.z 3; have q4 := cellof hT4.z 4; have q5 := cellof hT4.z 5; have q6 := cellof hT4.z 6; have fy := fun o => frozenof hT4.a o; have fq := fun o => frozenof hT4.z o; simp only [List.getElem?_toArray, List.getElem?_cons_zero, List.getElem?_cons_succ] at y0 y1 y2 y3 y4 y5 y6 q0 q1 q2 q3 q4 q5 q6; have hB5 : Below w.heap.size w w4 := HB3.out.trans (hB4.mono (by omega)); have hF4 := HH.out.mono hB5; have HT4 := Lib.hid hT4; have HB5 := Lib.hid hB5; have HF4 := Lib.hid hF4; clear hT4 hB4 hB5 hF4))
            change Code.wp _ _ _ _ (w4.alloc (bf ⟨n, [], 0⟩ (.slice none 0 0)))
            obtain ⟨w5, hw5⟩ : ∃ w5, w5 = w4.alloc (bf ⟨n, [], 0⟩ (.slice none 0 0)) := ⟨_, rfl⟩
            have hg : w5.heap[w4.heap.size]? = some (bf ⟨n, [], 0⟩ (.slice none 0 0)) := by rw [hw5]; exact heap_alloc_new w4 _
            have hB45 : Below w4.heap.size w4 w5 := by rw [hw5]; exact (Below.refl _ _).alloc (Nat.le_refl _) _
            have hs5 : w5.heap.size = w4.heap.size + 1 := by rw [hw5, World.size_alloc]
            have hsz4 : w.heap.size + 2 ≤ w4.heap.size := by omega
            have HL5 := Lib.hid (show w4.heap.size < w5.heap.size by omega)
            rw [← hw5]
            clear hw5
            have hT5 := HT4.out.keep (hB45.mono hsz4)
            clear y0 y1 y2 y3 y4 y5 y6 q0 q1 q2 q3 q4 q5 q6 fy fq
            have y0 := cellof hT5.a 0; have y1 := cellof hT5.a 1; have y2 := cellof hT5.a 2; have y3 := cellof hT5.a 3; have y4 := cellof hT5.a 4; have y5 := cellof hT5.a 5; have y6 := cellof hT5.a 6; have q0 := cellof hT5.z 0; have q1 := cellof hT5.z 1; have q2 := cellof hT5.z 2; have q3 := cellof hT5.z 3; have q4 := cellof hT5.z 4; have q5 := cellof hT5.z 5; have q6 := cellof hT5.z 6; have fy := fun o => frozenof hT5.a o; have fq := fun o => frozenof hT5.z o; simp only [List.getElem?_toArray, List.getElem?_cons_zero, List.getElem?_cons_succ] at y0 y1 y2 y3 y4 y5 y6 q0 q1 q2 q3 q4 q5 q6
            have g0 := cellof hg 0; have g1 := cellof hg 1; have g2 := cellof hg 2
            simp only [List.getElem?_toArray, List.getElem?_cons_zero, List.getElem?_cons_succ] at g0 g1 g2
            have G0 := Lib.hid g0; have G1 := Lib.hid g1; have G2 := Lib.hid g2
            have hB6 : Below w.heap.size w w5 := HB5.out.trans (hB45.mono (by omega))
            have HK41 := Lib.hid (K41.out w5.drew (HH.out.mono hB6.drew))
            have HT5 := Lib.hid hT5; have HB6 := Lib.hid hB6; have HG5 := Lib.hid hg
            have hne4 : w4.heap.size ≠ w.heap.size + 1 := by omega
            have hne5 : w.heap.size + 1 ≠ w4.heap.size := by omega
            clear hT5 hB6 hB45 hg
            refine wp_region_held_drew (S := (fun w' => w'.cell? ⟨w.heap.size, 0, none⟩ = some (.int .i64 room) ∧ w'.cell? ⟨w.heap.size, 1, none⟩ = some (.slice p S.fs.length c) ∧ w'.cell? ⟨w.heap.size, 2, none⟩ = some (.bool down) ∧ w'.cell? ⟨w.heap.size, 3, none⟩ = some (.int .i64 falls) ∧ w'.cell? ⟨w.heap.size, 4, none⟩ = some (.bool fused) ∧ w'.cell? ⟨w.heap.size, 5, none⟩ = some (.int .i64 fuse) ∧ w'.cell? ⟨w.heap.size, 6, none⟩ = some (.int .i64 part) ∧ w'.cell? ⟨w4.heap.size, 0, none⟩ = some (.string (bs n)) ∧ w'.cell? ⟨w4.heap.size, 1, none⟩ = some (.slice none 0 0) ∧ w'.cell? ⟨w4.heap.size, 2, none⟩ = some (.int .i64 0))) (by kernel_rfl) ?_ (fun hHeld => ?_)
            · (try dsimp only)
              go_keep
            refine wpAnyH_take (i := 0) (oi := { dst := some 40, op := Op.move (Operand.tmp 2), type := 33, pos := "ref.go:104", after := #[], guard := none }) (v := ?_) rfl (by kernel_rfl) (by kernel_rfl) (by kernel_rfl) (fun _ _ _ h => h) (Or.inl ⟨by rfl, ?_⟩) hHeld ?_
            rotate_left
            · intro w' hSw
              (try dsimp only at hSw)
              go_simp
              all_goals with_reducible rfl
            try simp only [Act.put, List.setIfInBounds_toArray, List.set_cons_zero, List.set_cons_succ]
            refine wpAnyH_take (i := 1) (oi := { dst := some 41, op := Op.call { callee := Callee.builtin Builtin.len, args := #[Operand.tmp 40], argTypes := #[33] }, type := 3, pos := "ref.go:104", after := #[{ on := 0, ground := Ground.data }], guard := none }) (v := ?_) rfl (by kernel_rfl) (by kernel_rfl) (by kernel_rfl) (fun _ _ _ h => h) (Or.inl ⟨by rfl, ?_⟩) hHeld ?_
            rotate_left
            · intro w' hSw
              (try dsimp only at hSw)
              go_simp
              all_goals with_reducible rfl
            try simp only [Act.put, List.setIfInBounds_toArray, List.set_cons_zero, List.set_cons_succ]
            refine wpAnyH_take (i := 2) (oi := { dst := some 42, op := Op.fieldAddr 31 (Operand.tmp 3) 0, type := 0, pos := "ref.go:104", after := #[], guard := none }) (v := ?_) rfl (by kernel_rfl) (by kernel_rfl) (by kernel_rfl) (fun _ _ _ h => h) (Or.inl ⟨by rfl, ?_⟩) hHeld ?_
            rotate_left
            · intro w' hSw
              (try dsimp only at hSw)
              go_simp
              all_goals with_reducible rfl
            try simp only [Act.put, List.setIfInBounds_toArray, List.set_cons_zero, List.set_cons_succ]
            refine wpAnyH_take (i := 3) (oi := { dst := some 43, op := Op.load 3 (Operand.tmp 42), type := 3, pos := "ref.go:104", after := #[{ on := 2, ground := Ground.data }], guard := none }) (v := ?_) rfl (by kernel_rfl) (by kernel_rfl) (by kernel_rfl) (fun _ _ _ h => h) (Or.inl ⟨by rfl, ?_⟩) hHeld ?_
            rotate_left
            · intro w' hSw
              (try dsimp only at hSw)
              go_simp
              all_goals with_reducible rfl
            try simp only [Act.put, List.setIfInBounds_toArray, List.set_cons_zero, List.set_cons_succ]
            refine wpAnyH_take (i := 4) (oi := { dst := some 44, op := Op.load 31 (Operand.tmp 3), type := 31, pos := "ref.go:104", after := #[], guard := none }) (v := ?_) rfl (by kernel_rfl) (by kernel_rfl) (by kernel_rfl) (fun _ _ _ h => h) (Or.inl ⟨by rfl, ?_⟩) hHeld ?_
            rotate_left
            · intro w' hSw
              (try dsimp only at hSw)
              go_simp
              all_goals with_reducible rfl
            try simp only [Act.put, List.setIfInBounds_toArray, List.set_cons_zero, List.set_cons_succ]
            refine wpAnyH_ready (rs := [5]) (by kernel_rfl) (by simp) ?_
            refine AllReadyH.cons (o := { dst := some 45, op := Op.call { callee := Callee.value (Operand.func 41), args := #[Operand.tmp 44], argTypes := #[31] }, type := 3, pos := "ref.go:104", after := #[{ on := 4, ground := Ground.data }], guard := none }) rfl (fun K hK => ?_) AllReadyH.nil
            go_simp
            go_at_call 41; (refine HK41.out.mono ?_); rintro e w6 ⟨rfl, hB56⟩; have hB56 : Below w5.heap.size w5 w6 := (Below.refl _ w5).drew.trans hB56; clear y0 y1 y2 y3 y4 y5 y6 q0 q1 q2 q3 q4 q5 q6 g0 g1 g2 fy fq; have hT9 := HT5.out.keep (hB56.mono (by omega)); have y0 := cellof hT9.a 0; have y1 := cellof hT9.a 1; have y2 := cellof hT9.a 2; have y3 := cellof hT9.a 3; have y4 := cellof hT9.a 4; have y5 := cellof hT9.a 5; have y6 := cellof hT9.a 6; have q0 := cellof hT9.z 0; have q1 := cellof hT9.z 1; have q2 := cellof hT9.z 2; have q3 := cellof hT9.z 3; have q4 := cellof hT9.z 4; have q5 := cellof hT9.z 5; have q6 := cellof hT9.z 6; have fy := fun o => frozenof hT9.a o; have fq := fun o => frozenof hT9.z o; simp only [List.getElem?_toArray, List.getElem?_cons_zero, List.getElem?_cons_succ] at y0 y1 y2 y3 y4 y5 y6 q0 q1 q2 q3 q4 q5 q6; have g0 := (hB56.cell (p := ⟨w4.heap.size, 0, none⟩) HL5.out).trans G0.out; have g1 := (hB56.cell (p := ⟨w4.heap.size, 1, none⟩) HL5.out).trans G1.out; have g2 := (hB56.cell (p := ⟨w4.heap.size, 2, none⟩) HL5.out).trans G2.out; have hT6 := Lib.hid hT9; clear hT9; have hs6 := hB56.size; have HB56 := Lib.hid hB56; clear hB56
            go_wp2_with fail
            refine hK.out _ _ ?_ (fun hHeld2 => ?_)
            · (try dsimp only)
              first
                | go_keep
                | (rw [World.cell?_setCell_other]; (· assumption); (· simp))
            clear hK K hHeld
            have hHeld := hHeld2
            clear hHeld2
            try simp only [Act.put, List.setIfInBounds_toArray, List.set_cons_zero, List.set_cons_succ]
            refine wpAnyH_take (i := 6) (oi := { dst := some 46, op := Op.binOp BinOp.sub 3 (Operand.tmp 43) (Operand.tmp 45) 3, type := 3, pos := "ref.go:104", after := #[{ on := 3, ground := Ground.data }, { on := 5, ground := Ground.data }], guard := none }) (v := ?_) rfl (by kernel_rfl) (by kernel_rfl) (by kernel_rfl) (fun _ _ _ h => h) (Or.inl ⟨by rfl, ?_⟩) hHeld ?_
            rotate_left
            · intro w' hSw
              (try dsimp only at hSw)
              go_simp
              all_goals with_reducible rfl
            try simp only [Act.put, List.setIfInBounds_toArray, List.set_cons_zero, List.set_cons_succ]
            refine wpAnyH_take (i := 7) (oi := { dst := some 47, op := Op.binOp BinOp.gtr 3 (Operand.tmp 41) (Operand.tmp 46) 3, type := 4, pos := "ref.go:104", after := #[{ on := 1, ground := Ground.data }, { on := 6, ground := Ground.data }], guard := none }) (v := ?_) rfl (by kernel_rfl) (by kernel_rfl) (by kernel_rfl) (fun _ _ _ h => h) (Or.inl ⟨by rfl, ?_⟩) hHeld ?_
            rotate_left
            · intro w' hSw
              (try dsimp only at hSw)
              go_simp
              all_goals with_reducible rfl
            try simp only [Act.put, List.setIfInBounds_toArray, List.set_cons_zero, List.set_cons_succ]
            refine wpAnyH_take (i := 8) (oi := { dst := some 48, op := Op.move (Operand.tmp 47), type := 4, pos := "ref.go:104", after := #[{ on := 7, ground := Ground.data }, { on := 5, ground := Ground.chain }], guard := none }) (v := ?_) rfl (by kernel_rfl) (by kernel_rfl) (by kernel_rfl) (fun _ _ _ h => h) (Or.inl ⟨by rfl, ?_⟩) hHeld ?_
            rotate_left
            · intro w' hSw
              (try dsimp only at hSw)
              go_simp
              all_goals with_reducible rfl
            try simp only [Act.put, List.setIfInBounds_toArray, List.set_cons_zero, List.set_cons_succ]
            refine wpAnyH_take (i := 9) (oi := { dst := some 49, op := Op.move (Operand.tmp 11), type := 3, pos := "ref.go:104", after := #[{ on := 8, ground := Ground.guard }], guard := some (8, false) }) (v := ?_) rfl (by kernel_rfl) (by kernel_rfl) (by kernel_rfl) (fun _ _ _ h => h) (Or.inl ⟨by rfl, ?_⟩) hHeld ?_
            rotate_left
            · intro w' hSw
              (try dsimp only at hSw)
              go_simp
              all_goals with_reducible rfl
            try simp only [Act.put, List.setIfInBounds_toArray, List.set_cons_zero, List.set_cons_succ]
            refine wpAnyH_take (i := 10) (oi := { dst := some 50, op := Op.binOp BinOp.lss 3 (Operand.tmp 49) (Operand.const (Value.int IntKind.i64 0)) 3, type := 4, pos := "ref.go:104", after := #[{ on := 9, ground := Ground.data }, { on := 8, ground := Ground.guard }], guard := some (8, false) }) (v := ?_) rfl (by kernel_rfl) (by kernel_rfl) (by kernel_rfl) (fun _ _ _ h => h) (Or.inl ⟨by rfl, ?_⟩) hHeld ?_
            rotate_left
            · intro w' hSw
              (try dsimp only at hSw)
              go_simp
              all_goals with_reducible rfl
            try simp only [Act.put, List.setIfInBounds_toArray, List.set_cons_zero, List.set_cons_succ]
            refine wpAnyH_take (i := 11) (oi := { dst := some 51, op := Op.move (Operand.tmp 50), type := 4, pos := "ref.go:104", after := #[{ on := 10, ground := Ground.data }, { on := 8, ground := Ground.chain }, { on := 8, ground := Ground.guard }], guard := some (8, false) }) (v := ?_) rfl (by kernel_rfl) (by kernel_rfl) (by kernel_rfl) (fun _ _ _ h => h) (Or.inl ⟨by rfl, ?_⟩) hHeld ?_
            rotate_left
            · intro w' hSw
              (try dsimp only at hSw)
              go_simp
              all_goals with_reducible rfl
            try simp only [Act.put, List.setIfInBounds_toArray, List.set_cons_zero, List.set_cons_succ]
            refine wpAnyH_take (i := 12) (oi := { dst := some 52, op := Op.fieldAddr 31 (Operand.tmp 3) 1, type := 0, pos := "ref.go:104", after := #[{ on := 11, ground := Ground.guard }], guard := some (11, true) }) (v := ?_) rfl (by kernel_rfl) (by kernel_rfl) (by kernel_rfl) (fun _ _ _ h => h) (Or.inl ⟨by rfl, ?_⟩) hHeld ?_
            rotate_left
            · intro w' hSw
              (try dsimp only at hSw)
              go_simp
              all_goals with_reducible rfl
            try simp only [Act.put, List.setIfInBounds_toArray, List.set_cons_zero, List.set_cons_succ]
            refine wpAnyH_take (i := 13) (oi := { dst := some 53, op := Op.load 29 (Operand.tmp 52), type := 29, pos := "ref.go:104", after := #[{ on := 12, ground := Ground.data }, { on := 11, ground := Ground.guard }], guard := some (11, true) }) (v := ?_) rfl (by kernel_rfl) (by kernel_rfl) (by kernel_rfl) (fun _ _ _ h => h) (Or.inl ⟨by rfl, ?_⟩) hHeld ?_
            rotate_left
            · intro w' hSw
              (try dsimp only at hSw)
              go_simp
              all_goals with_reducible rfl
            try simp only [Act.put, List.setIfInBounds_toArray, List.set_cons_zero, List.set_cons_succ]
            refine wpAnyH_take (i := 14) (oi := { dst := some 54, op := Op.call { callee := Callee.builtin Builtin.len, args := #[Operand.tmp 53], argTypes := #[29] }, type := 3, pos := "ref.go:104", after := #[{ on := 13, ground := Ground.data }, { on := 11, ground := Ground.guard }], guard := some (11, true) }) (v := ?_) rfl (by kernel_rfl) (by kernel_rfl) (by kernel_rfl) (fun _ _ _ h => h) (Or.inl ⟨by rfl, ?_⟩) hHeld ?_
            rotate_left
            · intro w' hSw
              (try dsimp only at hSw)
              go_simp
              all_goals with_reducible rfl
            try simp only [Act.put, List.setIfInBounds_toArray, List.set_cons_zero, List.set_cons_succ]
            refine wpAnyH_take (i := 15) (oi := { dst := some 55, op := Op.binOp BinOp.geq 3 (Operand.tmp 54) (Operand.const (Value.int IntKind.i64 256)) 3, type := 4, pos := "ref.go:104", after := #[{ on := 14, ground := Ground.data }, { on := 11, ground := Ground.guard }], guard := some (11, true) }) (v := ?_) rfl (by kernel_rfl) (by kernel_rfl) (by kernel_rfl) (fun _ _ _ h => h) (Or.inl ⟨by rfl, ?_⟩) hHeld ?_
            rotate_left
            · intro w' hSw
              (try dsimp only at hSw)
              go_simp
              all_goals with_reducible rfl
            try simp only [Act.put, List.setIfInBounds_toArray, List.set_cons_zero, List.set_cons_succ]
            refine wpAnyH_take (i := 16) (oi := { dst := some 56, op := Op.pick (Operand.tmp 51) (Operand.tmp 55) (Operand.const (Value.bool false)), type := 4, pos := "ref.go:104", after := #[{ on := 11, ground := Ground.data }, { on := 15, ground := Ground.data }, { on := 8, ground := Ground.guard }], guard := some (8, false) }) (v := ?_) rfl (by kernel_rfl) (by kernel_rfl) (by kernel_rfl) (fun _ _ _ h => h) (Or.inl ⟨by rfl, ?_⟩) hHeld ?_
            rotate_left
            · intro w' hSw
              (try dsimp only at hSw)
              go_simp
              all_goals with_reducible rfl
            try simp only [Act.put, List.setIfInBounds_toArray, List.set_cons_zero, List.set_cons_succ]
            refine wpAnyH_take (i := 17) (oi := { dst := some 57, op := Op.pick (Operand.tmp 48) (Operand.const (Value.bool true)) (Operand.tmp 56), type := 4, pos := "ref.go:104", after := #[{ on := 8, ground := Ground.data }, { on := 16, ground := Ground.data }], guard := none }) (v := ?_) rfl (by kernel_rfl) (by kernel_rfl) (by kernel_rfl) (fun _ _ _ h => h) (Or.inl ⟨by rfl, ?_⟩) hHeld ?_
            rotate_left
            · intro w' hSw
              (try dsimp only at hSw)
              go_simp
              all_goals with_reducible rfl
            try simp only [Act.put, List.setIfInBounds_toArray, List.set_cons_zero, List.set_cons_succ]
            refine wpAnyH_done (by kernel_rfl) ?_ _
            have hB9 : Below w.heap.size w w6 := HB6.out.trans (HB56.out.mono (by omega))
            have HB9 := Lib.hid hB9
            clear hB9
            have fg := fun o => frozenof (((HB56.out.block w4.heap.size HL5.out)).trans HG5.out) o
            have hl46 : w4.heap.size < w6.heap.size := Nat.lt_of_lt_of_le HL5.out hs6
            have hn46 : w4.heap.size ≠ w6.heap.size := Nat.ne_of_lt hl46
            obtain ⟨_, cb', hcv, hcb, _⟩ := HBB.out
            cases hcv
            go_wp2_with (first | (go_at_call 42; (refine HK42.out.mono ?_); rintro e w10 ⟨p10, c10, X, rfl, hX10, hrd10, hXf10, hB10⟩; have hT10 := HT9.out.keep (hB10.mono (by have := HS8.out; omega)); have hs10 := hB10.size; rw [HS8.out] at hs10; clear y0 y1 y2 y3 y4 y5 y6 q0 q1 q2 q3 q4 q5 q6 g0 g1 g2 fy fq fg; have y0 := cellof hT10.a 0; have y1 := cellof hT10.a 1; have y2 := cellof hT10.a 2; have y3 := cellof hT10.a 3; have y4 := cellof hT10.a 4; have y5 := cellof hT10.a 5; have y6 := cellof hT10.a 6; have q0 := cellof hT10.z 0; have q1 := cellof hT10.z 1; have q2 := cellof hT10.z 2; have q3 := cellof hT10.z 3; have q4 := cellof hT10.z 4; have q5 := cellof hT10.z 5; have q6 := cellof hT10.z 6; have fy := fun o => frozenof hT10.a o; have fq := fun o => frozenof hT10.z o; simp only [List.getElem?_toArray, List.getElem?_cons_zero, List.getElem?_cons_succ] at y0 y1 y2 y3 y4 y5 y6 q0 q1 q2 q3 q4 q5 q6; have HX10 := Lib.hid hX10; have HRD10 := Lib.hid hrd10; have HXF10 := Lib.hid hXf10; have HB10 := Lib.hid hB10; have HT10 := Lib.hid hT10; clear hX10 hrd10 hXf10 hB10 hT10; generalize hXl : X.length = xl at *; have HXL := Lib.hid hXl; clear hXl) | (at_builtin; refine wpList_app_rd rfl rfl _ _ rfl b.length (by rw [List.length_take, Nat.min_eq_left hmm]; exact Nat.zero_add _) (by rfl) (by rfl) HO7.out hs67 (bl := (b.take b.length)) HR7.out (by rw [List.length_take, Nat.min_eq_left hmm]; omega) ?_; intro g8 c8 w8 ho8 hgr8; have hB68 : Below w6.heap.size w6 w8 := grown_below HB67.out hs67 ((World.ownsRow.lt HO7.out _ rfl).1) hgr8; have hB58 : Below w5.heap.size w5 w8 := HB56.out.trans (hB68.mono hs6); have hs68 := hB68.size; clear y0 y1 y2 y3 y4 y5 y6 q0 q1 q2 q3 q4 q5 q6 g0 g1 g2 fy fq fg; have hT9 := HT5.out.keep (hB58.mono (by omega)); have y0 := cellof hT9.a 0; have y1 := cellof hT9.a 1; have y2 := cellof hT9.a 2; have y3 := cellof hT9.a 3; have y4 := cellof hT9.a 4; have y5 := cellof hT9.a 5; have y6 := cellof hT9.a 6; have q0 := cellof hT9.z 0; have q1 := cellof hT9.z 1; have q2 := cellof hT9.z 2; have q3 := cellof hT9.z 3; have q4 := cellof hT9.z 4; have q5 := cellof hT9.z 5; have q6 := cellof hT9.z 6; have fy := fun o => frozenof hT9.a o; have fq := fun o => frozenof hT9.z o; simp only [List.getElem?_toArray, List.getElem?_cons_zero, List.getElem?_cons_succ] at y0 y1 y2 y3 y4 y5 y6 q0 q1 q2 q3 q4 q5 q6; have hg9 := (hB58.block w4.heap.size HL5.out).trans HG5.out; have g0 := cellof hg9 0; have g1 := cellof hg9 1; have g2 := cellof hg9 2; have fg := fun o => frozenof hg9 o; simp only [List.getElem?_toArray, List.getElem?_cons_zero, List.getElem?_cons_succ] at g0 g1 g2; have hT8 := hT9; have hB8 : Below w.heap.size w (w8.setCell ⟨w4.heap.size, 1, none⟩ (.slice (some ⟨g8, 0, none⟩) b.length c8)) := Below.setCell (HB9.out.trans (hB68.mono HB9.out.size)) (by simp; omega) _; have hl8 : w4.heap.size < w6.heap.size := Nat.lt_of_lt_of_le HL5.out hs6; have ho9 : (w8.setCell ⟨w4.heap.size, 1, none⟩ (.slice (some ⟨g8, 0, none⟩) b.length c8)).ownsRow w6.heap.size 5 1 (.slice (some ⟨g8, 0, none⟩) b.length c8) (b.take b.length).length (B (b.take b.length)) := ownsRow_setCell_below (by rw [List.length_take, Nat.min_eq_left hmm]; simpa [B] using ho8) hl8 _; have K42 := c42r (Tag w.heap.size (w8.setCell ⟨w4.heap.size, 1, none⟩ (.slice (some ⟨g8, 0, none⟩) b.length c8))) (fun v l h => h.1) ⟨room, S.fs, down, falls, fused, fuse, part⟩ p c ⟨n, b.take b.length, 0⟩ (some ⟨g8, 0, none⟩) b.length c8 (w8.setCell ⟨w4.heap.size, 1, none⟩ (.slice (some ⟨g8, 0, none⟩) b.length c8)) ((HH.out.inn.mono hB8).weaken fun v l h => tag_old h hB8) (by show S.fs.length ≤ 1000; omega) (tag_new ho9 (by omega) (fun g hg => Okb.big g (Nat.le_trans hokn (Nat.le_trans HB9.out.size hg)))); unfold WoOut MV at K42; simp only at K42; have hT9' : Two ⟨room, S.fs, down, falls, fused, fuse, part⟩ (.slice p S.fs.length c) w.heap.size (w8.setCell ⟨w4.heap.size, 1, none⟩ (.slice (some ⟨g8, 0, none⟩) b.length c8)) := ⟨(setCell_ne _ (by omega)).trans hT8.a, (setCell_ne _ (by omega)).trans hT8.z⟩; have HK42 := Lib.hid K42; have HT9 := Lib.hid hT9'; have HB8 := Lib.hid hB8; have hs8 : (w8.setCell ⟨w4.heap.size, 1, none⟩ (.slice (some ⟨g8, 0, none⟩) b.length c8)).heap.size = w8.heap.size := World.size_setCell _ _ _; have HS8 := Lib.hid hs8; clear ho8 hgr8 hB58 hB68 hT8 hT9 hT9' hg9 ho9 K42 hB8 hs8) | (at_builtin; refine wpList_app_rd rfl rfl _ _ rfl (0) (by simp) (by rfl) (by rfl) (own_empty5 w6 w6.heap.size (Nat.le_refl _)) (by simp) (bl := []) (rd_nil _) (by simp <;> omega) ?_; intro g7 c7 w7 ho7 hgr7; have hB67 : Below w6.heap.size w6 w7 := grown_below ((Below.refl w6.heap.size w6).alloc (Nat.le_refl _) _) (by simp) (Nat.le_refl _) hgr7; have hB57 : Below w5.heap.size w5 w7 := HB56.out.trans (hB67.mono hs6); have hs67 := hB67.size; clear y0 y1 y2 y3 y4 y5 y6 q0 q1 q2 q3 q4 q5 q6 g0 g1 g2 fy fq fg; have hT9 := HT5.out.keep (hB57.mono (by omega)); have y0 := cellof hT9.a 0; have y1 := cellof hT9.a 1; have y2 := cellof hT9.a 2; have y3 := cellof hT9.a 3; have y4 := cellof hT9.a 4; have y5 := cellof hT9.a 5; have y6 := cellof hT9.a 6; have q0 := cellof hT9.z 0; have q1 := cellof hT9.z 1; have q2 := cellof hT9.z 2; have q3 := cellof hT9.z 3; have q4 := cellof hT9.z 4; have q5 := cellof hT9.z 5; have q6 := cellof hT9.z 6; have fy := fun o => frozenof hT9.a o; have fq := fun o => frozenof hT9.z o; simp only [List.getElem?_toArray, List.getElem?_cons_zero, List.getElem?_cons_succ] at y0 y1 y2 y3 y4 y5 y6 q0 q1 q2 q3 q4 q5 q6; have hg9 := (hB57.block w4.heap.size HL5.out).trans HG5.out; have g0 := cellof hg9 0; have g1 := cellof hg9 1; have g2 := cellof hg9 2; have fg := fun o => frozenof hg9 o; simp only [List.getElem?_toArray, List.getElem?_cons_zero, List.getElem?_cons_succ] at g0 g1 g2; have hr7 : Rd w7 (.slice pb b.length cb) (b.take b.length) := (HBB.out.take hmm).mono (HB9.out.trans (hB67.mono HB9.out.size)); have HR7 := Lib.hid hr7; have HO7 := Lib.hid ho7; have HB67 := Lib.hid hB67; clear ho7 hgr7 hB67 hB57 hT9 hg9 hr7))
            have hw9s := HS8.out
            have hB8s := HB8.out.size
            have hT11 := HT10.out.put (S' := ⟨room, S.fs, down, falls, fused, fuse, part⟩) (v' := .slice p10 xl c10)
            have hX11 := put7_own (S := ⟨room, S.fs, down, falls, fused, fuse, part⟩) (v := .slice p10 xl c10) (b := w.heap.size) HX10.out (by omega)
            have hk11 : ∀ bb, bb < (w8.setCell ⟨w4.heap.size, 1, none⟩ (.slice (some ⟨g8, 0, none⟩) b.length c8)).heap.size → bb ≠ w.heap.size → (put7 ⟨room, S.fs, down, falls, fused, fuse, part⟩ (.slice p10 xl c10) w.heap.size w10).heap[bb]? = _ := fun bb hb h => (put7_ne h).trans (HB10.out.block bb hb)
            have hB11 := put7_below (S := ⟨room, S.fs, down, falls, fused, fuse, part⟩) (v := .slice p10 xl c10) (b := w.heap.size) (HB8.out.trans (HB10.out.mono hB8s)) (Nat.le_refl _)
            have hz11 := put7_size ⟨room, S.fs, down, falls, fused, fuse, part⟩ (.slice p10 xl c10) w.heap.size w10
            change Code.wp _ _ _ _ (put7 ⟨room, S.fs, down, falls, fused, fuse, part⟩ (.slice p10 xl c10) w.heap.size w10)
            obtain ⟨w11, hw11⟩ : ∃ w11, w11 = put7 ⟨room, S.fs, down, falls, fused, fuse, part⟩ (.slice p10 xl c10) w.heap.size w10 := ⟨_, rfl⟩
            rw [← hw11] at hT11 hX11 hB11 hz11 ⊢
            simp only [← hw11] at hk11
            clear hw11 y0 y1 y2 y3 y4 y5 y6 q0 q1 q2 q3 q4 q5 q6 fy fq
            have y0 := cellof hT11.a 0; have y1 := cellof hT11.a 1; have y2 := cellof hT11.a 2; have y3 := cellof hT11.a 3; have y4 := cellof hT11.a 4; have y5 := cellof hT11.a 5; have y6 := cellof hT11.a 6; have q0 := cellof hT11.z 0; have q1 := cellof hT11.z 1; have q2 := cellof hT11.z 2; have q3 := cellof hT11.z 3; have q4 := cellof hT11.z 4; have q5 := cellof hT11.z 5; have q6 := cellof hT11.z 6; have fy := fun o => frozenof hT11.a o; have fq := fun o => frozenof hT11.z o; simp only [List.getElem?_toArray, List.getElem?_cons_zero, List.getElem?_cons_succ] at y0 y1 y2 y3 y4 y5 y6 q0 q1 q2 q3 q4 q5 q6
            have HK11 := Lib.hid hk11; have HX11 := Lib.hid hX11; have HB11 := Lib.hid hB11; have HZ11 := Lib.hid hz11
            clear hk11 hX11 hB11 hz11 hT11
            go_region_held (fun w' => w'.cell? ⟨w.heap.size, 0, none⟩ = some (.int .i64 room) ∧ w'.cell? ⟨w.heap.size, 1, none⟩ = some (.slice p10 xl c10) ∧ w'.cell? ⟨w.heap.size, 2, none⟩ = some (.bool down) ∧ w'.cell? ⟨w.heap.size, 3, none⟩ = some (.int .i64 falls) ∧ w'.cell? ⟨w.heap.size, 4, none⟩ = some (.bool fused) ∧ w'.cell? ⟨w.heap.size, 5, none⟩ = some (.int .i64 fuse) ∧ w'.cell? ⟨w.heap.size, 6, none⟩ = some (.int .i64 part)) (go_keep) (fail)
            all_goals go_wp2
            all_goals refine bodyPost_ret (v := .tuple #[.int .i64 0, .agg #[.int .i64 room, .slice p10 xl c10, .bool down, .int .i64 falls, .bool fused, .int .i64 fuse, .int .i64 part]]) (by simp [results, Try.results23, go_sem, q0, q1, q2, q3, q4, q5, q6]) rfl ⟨p10, c10, by rw [← HXF10.out, List.length_map, HXL.out], ?_, ?_⟩
            · rw [← HXF10.out]
              change FsAt (put7 ⟨room, S.fs, down, falls, fused, fuse, part⟩ (.slice p10 xl c10) (w.heap.size + 1) w11).drew _ _
              exact fin_files HX11.out HRD10.out HK11.out (by have := HZ11.out; omega) (by omega) put7_drew_ne put7_drew_size
            · refine Below.drew ?_
              iterate 7 refine Below.setCell ?_ (by simp <;> omega) _
              exact HB11.out
      · have ht1 : decide (1 ≤ n.length ∧ n.length ≤ 32) = false := decide_eq_false hnm
        rw [ht1] at K40
        have hnf : ¬ S.fits n b := fun h => hnm (hfit.1 h).1
        rw [if_neg hnf]
        simp only [MV, hnm, hnf, ne_eq, not_true_eq_false, not_false_eq_true, if_true, if_false]
        clear hfit hnf
        go_enter Try.func23, Try.ntmps23
        go_wp2_with (fail)
        go_at_call 39; (refine K.out.mono ?_); rintro e w2 ⟨rfl, hB2⟩; have hsz := hB2.size; rw [HS2.out] at hsz; have hT2 := HT.out.keep (hB2.mono (by have := HS2.out; omega)); have y0 := cellof hT2.a 0; have y1 := cellof hT2.a 1; have y2 := cellof hT2.a 2; have y3 := cellof hT2.a 3; have y4 := cellof hT2.a 4; have y5 := cellof hT2.a 5; have y6 := cellof hT2.a 6; have fy := fun o => frozenof hT2.a o; simp only [List.getElem?_toArray, List.getElem?_cons_zero, List.getElem?_cons_succ] at y0 y1 y2 y3 y4 y5 y6; have HB2 := Lib.hid hB2; have HT2 := Lib.hid hT2; clear hB2 hT2
        iterate 20 first | go_values | go_skip | go_guarded | go_step | go_upon | go_in | go_back | (simp only [Int.not_lt, Int.not_le] at *; go_simp)
        have hT3 := HT2.out.put (S' := ⟨room, S.fs, down, falls, fused, fuse, part⟩) (v' := .slice p S.fs.length c)
        have hB3 := put7_below (N := w.heap.size) (S := ⟨room, S.fs, down, falls, fused, fuse, part⟩) (v := .slice p S.fs.length c) (b := w.heap.size) (HA.out.trans (HB2.out.mono (by have := HS2.out; omega))) (Nat.le_refl _)
        have hs7 := put7_size ⟨room, S.fs, down, falls, fused, fuse, part⟩ (.slice p S.fs.length c) w.heap.size w2
        change Code.wp _ _ _ _ (put7 ⟨room, S.fs, down, falls, fused, fuse, part⟩ (.slice p S.fs.length c) w.heap.size w2)
        obtain ⟨w3, hw3⟩ : ∃ w3, w3 = put7 ⟨room, S.fs, down, falls, fused, fuse, part⟩ (.slice p S.fs.length c) w.heap.size w2 := ⟨_, rfl⟩
        rw [← hw3] at hT3 hB3 hs7 ⊢
        rw [← hs7] at hsz
        clear hw3 hs7 y0 y1 y2 y3 y4 y5 y6 fy
        have y0 := cellof hT3.a 0; have y1 := cellof hT3.a 1; have y2 := cellof hT3.a 2; have y3 := cellof hT3.a 3; have y4 := cellof hT3.a 4; have y5 := cellof hT3.a 5; have y6 := cellof hT3.a 6; have q0 := cellof hT3.z 0; have q1 := cellof hT3.z 1; have q2 := cellof hT3.z 2; have q3 := cellof hT3.z 3; have q4 := cellof hT3.z 4; have q5 := cellof hT3.z 5; have q6 := cellof hT3.z 6; have fy := fun o => frozenof hT3.a o; have fq := fun o => frozenof hT3.z o; simp only [List.getElem?_toArray, List.getElem?_cons_zero, List.getElem?_cons_succ] at y0 y1 y2 y3 y4 y5 y6 q0 q1 q2 q3 q4 q5 q6
        have hl0 : w.heap.size < w3.heap.size := (by omega); have hn0 : w.heap.size ≠ w3.heap.size := (by omega); have hl1 : w.heap.size + 1 < w3.heap.size := (by omega); have hn1 : w.heap.size + 1 ≠ w3.heap.size := (by omega)
        have hF3 := HH.out.mono hB3
        have HT3 := Lib.hid hT3; have HB3 := Lib.hid hB3; have HF3 := Lib.hid hF3
        clear hT3 hB3 hF3
        go_wp2_with (first | (go_at_call 40; (with_reducible refine (K40.out _).mono ?_); rintro e w9 ⟨rfl, rfl⟩) | (go_at_call 31; (refine (K31.out n _ (by first | exact HF3.out | exact HF4.out)).mono ?_); rintro e w4 hfo; obtain ⟨hB4, rfl⟩ := find_none hlk hfo; have hT4 := HT3.out.keep (hB4.mono (by omega)); have hsz4 := hB4.size; have hl4 : w.heap.size < w4.heap.size := (by omega); have hn4 : w.heap.size ≠ w4.heap.size := (by omega); have hl5 : w.heap.size + 1 < w4.heap.size := (by omega); have hn5 : w.heap.size + 1 ≠ w4.heap.size := (by omega); clear y0 y1 y2 y3 y4 y5 y6 q0 q1 q2 q3 q4 q5 q6 fy fq; have y0 := cellof hT4.a 0; have y1 := cellof hT4.a 1; have y2 := cellof hT4.a 2; have y3 := cellof hT4.a 3; have y4 := cellof hT4.a 4; have y5 := cellof hT4.a 5; have y6 := cellof hT4.a 6; have q0 := cellof hT4.z 0; have q1 := cellof hT4.z 1; have q2 := cellof hT4.z 2; have q3 := cellof hT4.z 3; have q4 := cellof hT4.z 4; have q5 := cellof hT4.z 5; have q6 := cellof hT4.z 6; have fy := fun o => frozenof hT4.a o; have fq := fun o => frozenof hT4.z o; simp only [List.getElem?_toArray, List.getElem?_cons_zero, List.getElem?_cons_succ] at y0 y1 y2 y3 y4 y5 y6 q0 q1 q2 q3 q4 q5 q6; have hB5 : Below w.heap.size w w4 := HB3.out.trans (hB4.mono (by omega)); have hF4 := HH.out.mono hB5; have HT4 := Lib.hid hT4; have HB5 := Lib.hid hB5; have HF4 := Lib.hid hF4; clear hT4 hB4 hB5 hF4))
        go_region_held (fun w' => w'.cell? ⟨w.heap.size, 0, none⟩ = some (.int .i64 room) ∧ w'.cell? ⟨w.heap.size, 1, none⟩ = some (.slice p S.fs.length c) ∧ w'.cell? ⟨w.heap.size, 2, none⟩ = some (.bool down) ∧ w'.cell? ⟨w.heap.size, 3, none⟩ = some (.int .i64 falls) ∧ w'.cell? ⟨w.heap.size, 4, none⟩ = some (.bool fused) ∧ w'.cell? ⟨w.heap.size, 5, none⟩ = some (.int .i64 fuse) ∧ w'.cell? ⟨w.heap.size, 6, none⟩ = some (.int .i64 part)) (go_keep) (fail)
        all_goals go_wp2
        all_goals refine bodyPost_ret (v := .tuple #[.int .i64 1, .agg #[.int .i64 room, .slice p S.fs.length c, .bool down, .int .i64 falls, .bool fused, .int .i64 fuse, .int .i64 part]]) (by simp [results, Try.results23, go_sem, World.cell?_alloc_lt, hl5, q0, q1, q2, q3, q4, q5, q6]) rfl ⟨p, c, rfl, HH.out.mono ?_, ?_⟩
        all_goals refine Below.drew ?_
        all_goals refine Below.alloc ?_ (by simp <;> omega) _
        all_goals iterate 7 refine Below.setCell ?_ (by simp <;> omega) _
        all_goals exact HB5.out
    | some f =>
      obtain ⟨hfm, hfn⟩ := look_some hlk
      have hfu := used_mem hfm
      obtain ⟨j0, hj0⟩ := List.getElem?_of_mem hfm
      obtain ⟨bq, rfl, hbq, _⟩ := HH.out j0 f hj0
      clear hfm hfn hj0
      have hfo : fileOf S n = f := by unfold fileOf; rw [hlk]; rfl
      rw [hfo]
      by_cases hnm : named n
      · have ht1 : decide (1 ≤ n.length ∧ n.length ≤ 32) = true := decide_eq_true hnm
        rw [ht1] at K40
        have hwr : IntKind.i64.wrap (room - (used S.fs : Int)) = room - (used S.fs : Int) := IntWalk.i64_in _ (by omega)
        by_cases hfu1 : (b.length : Int) > room - used S.fs
        · have hfd : decide (room - (used S.fs : Int) < (b.length : Int)) = true := decide_eq_true hfu1
          have hnf : ¬ S.fits n b := fun h => (hfit.1 h).2.1 hfu1
          rw [if_neg hnf]
          simp only [MV, hnm, hnf, ne_eq, not_true_eq_false, not_false_eq_true, if_true, if_false]
          clear hfit hnf
          go_enter Try.func23, Try.ntmps23
          go_wp2_with (fail)
          go_at_call 39; (refine K.out.mono ?_); rintro e w2 ⟨rfl, hB2⟩; have hsz := hB2.size; rw [HS2.out] at hsz; have hT2 := HT.out.keep (hB2.mono (by have := HS2.out; omega)); have y0 := cellof hT2.a 0; have y1 := cellof hT2.a 1; have y2 := cellof hT2.a 2; have y3 := cellof hT2.a 3; have y4 := cellof hT2.a 4; have y5 := cellof hT2.a 5; have y6 := cellof hT2.a 6; have fy := fun o => frozenof hT2.a o; simp only [List.getElem?_toArray, List.getElem?_cons_zero, List.getElem?_cons_succ] at y0 y1 y2 y3 y4 y5 y6; have HB2 := Lib.hid hB2; have HT2 := Lib.hid hT2; clear hB2 hT2
          iterate 20 first | go_values | go_skip | go_guarded | go_step | go_upon | go_in | go_back | (simp only [Int.not_lt, Int.not_le] at *; go_simp)
          have hT3 := HT2.out.put (S' := ⟨room, S.fs, down, falls, fused, fuse, part⟩) (v' := .slice (some ⟨bq, 0, none⟩) S.fs.length c)
          have hB3 := put7_below (N := w.heap.size) (S := ⟨room, S.fs, down, falls, fused, fuse, part⟩) (v := .slice (some ⟨bq, 0, none⟩) S.fs.length c) (b := w.heap.size) (HA.out.trans (HB2.out.mono (by have := HS2.out; omega))) (Nat.le_refl _)
          have hs7 := put7_size ⟨room, S.fs, down, falls, fused, fuse, part⟩ (.slice (some ⟨bq, 0, none⟩) S.fs.length c) w.heap.size w2
          change Code.wp _ _ _ _ (put7 ⟨room, S.fs, down, falls, fused, fuse, part⟩ (.slice (some ⟨bq, 0, none⟩) S.fs.length c) w.heap.size w2)
          obtain ⟨w3, hw3⟩ : ∃ w3, w3 = put7 ⟨room, S.fs, down, falls, fused, fuse, part⟩ (.slice (some ⟨bq, 0, none⟩) S.fs.length c) w.heap.size w2 := ⟨_, rfl⟩
          rw [← hw3] at hT3 hB3 hs7 ⊢
          rw [← hs7] at hsz
          clear hw3 hs7 y0 y1 y2 y3 y4 y5 y6 fy
          have y0 := cellof hT3.a 0; have y1 := cellof hT3.a 1; have y2 := cellof hT3.a 2; have y3 := cellof hT3.a 3; have y4 := cellof hT3.a 4; have y5 := cellof hT3.a 5; have y6 := cellof hT3.a 6; have q0 := cellof hT3.z 0; have q1 := cellof hT3.z 1; have q2 := cellof hT3.z 2; have q3 := cellof hT3.z 3; have q4 := cellof hT3.z 4; have q5 := cellof hT3.z 5; have q6 := cellof hT3.z 6; have fy := fun o => frozenof hT3.a o; have fq := fun o => frozenof hT3.z o; simp only [List.getElem?_toArray, List.getElem?_cons_zero, List.getElem?_cons_succ] at y0 y1 y2 y3 y4 y5 y6 q0 q1 q2 q3 q4 q5 q6
          have hl0 : w.heap.size < w3.heap.size := (by omega); have hn0 : w.heap.size ≠ w3.heap.size := (by omega); have hl1 : w.heap.size + 1 < w3.heap.size := (by omega); have hn1 : w.heap.size + 1 ≠ w3.heap.size := (by omega)
          have hF3 := HH.out.mono hB3
          have HT3 := Lib.hid hT3; have HB3 := Lib.hid hB3; have HF3 := Lib.hid hF3
          clear hT3 hB3 hF3
          go_wp2_with (first | (go_at_call 40; (with_reducible refine (K40.out _).mono ?_); rintro e w9 ⟨rfl, rfl⟩) | (go_at_call 31; (refine (K31.out n _ (by first | exact HF3.out | exact HF4.out)).mono ?_); rintro e w4 hfo; obtain ⟨hB4, j, rfl, hj⟩ := find_some HFI.out.srt hlk hfo; have hT4 := HT3.out.keep (hB4.mono (by omega)); have hsz4 := hB4.size; have hl4 : w.heap.size < w4.heap.size := (by omega); have hn4 : w.heap.size ≠ w4.heap.size := (by omega); have hl5 : w.heap.size + 1 < w4.heap.size := (by omega); have hn5 : w.heap.size + 1 ≠ w4.heap.size := (by omega); clear y0 y1 y2 y3 y4 y5 y6 q0 q1 q2 q3 q4 q5 q6 fy fq; have y0 := cellof hT4.a 0; have y1 := cellof hT4.a 1; have y2 := cellof hT4.a 2; have y3 := cellof hT4.a 3; have y4 := cellof hT4.a 4; have y5 := cellof hT4.a 5; have y6 := cellof hT4.a 6; have q0 := cellof hT4.z 0; have q1 := cellof hT4.z 1; have q2 := cellof hT4.z 2; have q3 := cellof hT4.z 3; have q4 := cellof hT4.z 4; have q5 := cellof hT4.z 5; have q6 := cellof hT4.z 6; have fy := fun o => frozenof hT4.a o; have fq := fun o => frozenof hT4.z o; simp only [List.getElem?_toArray, List.getElem?_cons_zero, List.getElem?_cons_succ] at y0 y1 y2 y3 y4 y5 y6 q0 q1 q2 q3 q4 q5 q6; have hB5 : Below w.heap.size w w4 := HB3.out.trans (hB4.mono (by omega)); have hc := HH.out j f hj; obtain ⟨b', hp', hb', e0, ⟨v, e1, hv⟩, e2, _⟩ := hc; cases hp'; have HV := Lib.hid hv; obtain ⟨pv, cv, rfl, hcap, _⟩ := hv; have e0 := (hB5.cell (p := ⟨bq, _, none⟩) hb').trans e0; have e1 := (hB5.cell (p := ⟨bq, _, none⟩) hb').trans e1; have e2 := (hB5.cell (p := ⟨bq, _, none⟩) hb').trans e2; have hjl : j < S.fs.length := (List.getElem?_eq_some_iff.1 hj).1; have hbl : bq < w4.heap.size := (by omega); have hbn : bq ≠ w4.heap.size := (by omega); have hF4 := HH.out.mono hB5; have HT4 := Lib.hid hT4; have HB5 := Lib.hid hB5; have HF4 := Lib.hid hF4; clear hT4 hB4 hB5 hF4 hj))
          change Code.wp _ _ _ _ (w4.alloc (bf f (.slice pv f.b.length cv)))
          obtain ⟨w5, hw5⟩ : ∃ w5, w5 = w4.alloc (bf f (.slice pv f.b.length cv)) := ⟨_, rfl⟩
          have hg : w5.heap[w4.heap.size]? = some (bf f (.slice pv f.b.length cv)) := by rw [hw5]; exact heap_alloc_new w4 _
          have hB45 : Below w4.heap.size w4 w5 := by rw [hw5]; exact (Below.refl _ _).alloc (Nat.le_refl _) _
          have hs5 : w5.heap.size = w4.heap.size + 1 := by rw [hw5, World.size_alloc]
          have hsz4 : w.heap.size + 2 ≤ w4.heap.size := by omega
          have HL5 := Lib.hid (show w4.heap.size < w5.heap.size by omega)
          rw [← hw5]
          clear hw5
          have hT5 := HT4.out.keep (hB45.mono hsz4)
          clear y0 y1 y2 y3 y4 y5 y6 q0 q1 q2 q3 q4 q5 q6 fy fq
          have y0 := cellof hT5.a 0; have y1 := cellof hT5.a 1; have y2 := cellof hT5.a 2; have y3 := cellof hT5.a 3; have y4 := cellof hT5.a 4; have y5 := cellof hT5.a 5; have y6 := cellof hT5.a 6; have q0 := cellof hT5.z 0; have q1 := cellof hT5.z 1; have q2 := cellof hT5.z 2; have q3 := cellof hT5.z 3; have q4 := cellof hT5.z 4; have q5 := cellof hT5.z 5; have q6 := cellof hT5.z 6; have fy := fun o => frozenof hT5.a o; have fq := fun o => frozenof hT5.z o; simp only [List.getElem?_toArray, List.getElem?_cons_zero, List.getElem?_cons_succ] at y0 y1 y2 y3 y4 y5 y6 q0 q1 q2 q3 q4 q5 q6
          have g0 := cellof hg 0; have g1 := cellof hg 1; have g2 := cellof hg 2
          simp only [List.getElem?_toArray, List.getElem?_cons_zero, List.getElem?_cons_succ] at g0 g1 g2
          have G0 := Lib.hid g0; have G1 := Lib.hid g1; have G2 := Lib.hid g2
          have hB6 : Below w.heap.size w w5 := HB5.out.trans (hB45.mono (by omega))
          have HK41 := Lib.hid (K41.out w5.drew (HH.out.mono hB6.drew))
          have HT5 := Lib.hid hT5; have HB6 := Lib.hid hB6; have HG5 := Lib.hid hg
          have hne4 : w4.heap.size ≠ w.heap.size + 1 := by omega
          have hne5 : w.heap.size + 1 ≠ w4.heap.size := by omega
          clear hT5 hB6 hB45 hg
          refine wp_region_held_drew (S := (fun w' => w'.cell? ⟨w.heap.size, 0, none⟩ = some (.int .i64 room) ∧ w'.cell? ⟨w.heap.size, 1, none⟩ = some (.slice (some ⟨bq, 0, none⟩) S.fs.length c) ∧ w'.cell? ⟨w.heap.size, 2, none⟩ = some (.bool down) ∧ w'.cell? ⟨w.heap.size, 3, none⟩ = some (.int .i64 falls) ∧ w'.cell? ⟨w.heap.size, 4, none⟩ = some (.bool fused) ∧ w'.cell? ⟨w.heap.size, 5, none⟩ = some (.int .i64 fuse) ∧ w'.cell? ⟨w.heap.size, 6, none⟩ = some (.int .i64 part) ∧ w'.cell? ⟨w4.heap.size, 0, none⟩ = some (.string (bs f.n)) ∧ w'.cell? ⟨w4.heap.size, 1, none⟩ = some (.slice pv f.b.length cv) ∧ w'.cell? ⟨w4.heap.size, 2, none⟩ = some (.int .i64 f.s))) (by kernel_rfl) ?_ (fun hHeld => ?_)
          · (try dsimp only)
            go_keep
          refine wpAnyH_take (i := 0) (oi := { dst := some 40, op := Op.move (Operand.tmp 2), type := 33, pos := "ref.go:104", after := #[], guard := none }) (v := ?_) rfl (by kernel_rfl) (by kernel_rfl) (by kernel_rfl) (fun _ _ _ h => h) (Or.inl ⟨by rfl, ?_⟩) hHeld ?_
          rotate_left
          · intro w' hSw
            (try dsimp only at hSw)
            go_simp
            all_goals with_reducible rfl
          try simp only [Act.put, List.setIfInBounds_toArray, List.set_cons_zero, List.set_cons_succ]
          refine wpAnyH_take (i := 1) (oi := { dst := some 41, op := Op.call { callee := Callee.builtin Builtin.len, args := #[Operand.tmp 40], argTypes := #[33] }, type := 3, pos := "ref.go:104", after := #[{ on := 0, ground := Ground.data }], guard := none }) (v := ?_) rfl (by kernel_rfl) (by kernel_rfl) (by kernel_rfl) (fun _ _ _ h => h) (Or.inl ⟨by rfl, ?_⟩) hHeld ?_
          rotate_left
          · intro w' hSw
            (try dsimp only at hSw)
            go_simp
            all_goals with_reducible rfl
          try simp only [Act.put, List.setIfInBounds_toArray, List.set_cons_zero, List.set_cons_succ]
          refine wpAnyH_take (i := 2) (oi := { dst := some 42, op := Op.fieldAddr 31 (Operand.tmp 3) 0, type := 0, pos := "ref.go:104", after := #[], guard := none }) (v := ?_) rfl (by kernel_rfl) (by kernel_rfl) (by kernel_rfl) (fun _ _ _ h => h) (Or.inl ⟨by rfl, ?_⟩) hHeld ?_
          rotate_left
          · intro w' hSw
            (try dsimp only at hSw)
            go_simp
            all_goals with_reducible rfl
          try simp only [Act.put, List.setIfInBounds_toArray, List.set_cons_zero, List.set_cons_succ]
          refine wpAnyH_take (i := 3) (oi := { dst := some 43, op := Op.load 3 (Operand.tmp 42), type := 3, pos := "ref.go:104", after := #[{ on := 2, ground := Ground.data }], guard := none }) (v := ?_) rfl (by kernel_rfl) (by kernel_rfl) (by kernel_rfl) (fun _ _ _ h => h) (Or.inl ⟨by rfl, ?_⟩) hHeld ?_
          rotate_left
          · intro w' hSw
            (try dsimp only at hSw)
            go_simp
            all_goals with_reducible rfl
          try simp only [Act.put, List.setIfInBounds_toArray, List.set_cons_zero, List.set_cons_succ]
          refine wpAnyH_take (i := 4) (oi := { dst := some 44, op := Op.load 31 (Operand.tmp 3), type := 31, pos := "ref.go:104", after := #[], guard := none }) (v := ?_) rfl (by kernel_rfl) (by kernel_rfl) (by kernel_rfl) (fun _ _ _ h => h) (Or.inl ⟨by rfl, ?_⟩) hHeld ?_
          rotate_left
          · intro w' hSw
            (try dsimp only at hSw)
            go_simp
            all_goals with_reducible rfl
          try simp only [Act.put, List.setIfInBounds_toArray, List.set_cons_zero, List.set_cons_succ]
          refine wpAnyH_ready (rs := [5]) (by kernel_rfl) (by simp) ?_
          refine AllReadyH.cons (o := { dst := some 45, op := Op.call { callee := Callee.value (Operand.func 41), args := #[Operand.tmp 44], argTypes := #[31] }, type := 3, pos := "ref.go:104", after := #[{ on := 4, ground := Ground.data }], guard := none }) rfl (fun K hK => ?_) AllReadyH.nil
          go_simp
          go_at_call 41; (refine HK41.out.mono ?_); rintro e w6 ⟨rfl, hB56⟩; have hB56 : Below w5.heap.size w5 w6 := (Below.refl _ w5).drew.trans hB56; clear y0 y1 y2 y3 y4 y5 y6 q0 q1 q2 q3 q4 q5 q6 g0 g1 g2 fy fq; have hT9 := HT5.out.keep (hB56.mono (by omega)); have y0 := cellof hT9.a 0; have y1 := cellof hT9.a 1; have y2 := cellof hT9.a 2; have y3 := cellof hT9.a 3; have y4 := cellof hT9.a 4; have y5 := cellof hT9.a 5; have y6 := cellof hT9.a 6; have q0 := cellof hT9.z 0; have q1 := cellof hT9.z 1; have q2 := cellof hT9.z 2; have q3 := cellof hT9.z 3; have q4 := cellof hT9.z 4; have q5 := cellof hT9.z 5; have q6 := cellof hT9.z 6; have fy := fun o => frozenof hT9.a o; have fq := fun o => frozenof hT9.z o; simp only [List.getElem?_toArray, List.getElem?_cons_zero, List.getElem?_cons_succ] at y0 y1 y2 y3 y4 y5 y6 q0 q1 q2 q3 q4 q5 q6; have g0 := (hB56.cell (p := ⟨w4.heap.size, 0, none⟩) HL5.out).trans G0.out; have g1 := (hB56.cell (p := ⟨w4.heap.size, 1, none⟩) HL5.out).trans G1.out; have g2 := (hB56.cell (p := ⟨w4.heap.size, 2, none⟩) HL5.out).trans G2.out; have hT6 := Lib.hid hT9; clear hT9; have hs6 := hB56.size; have HB56 := Lib.hid hB56; clear hB56
          go_wp2_with fail
          refine hK.out _ _ ?_ (fun hHeld2 => ?_)
          · (try dsimp only)
            first
              | go_keep
              | (rw [World.cell?_setCell_other]; (· assumption); (· simp))
          clear hK K hHeld
          have hHeld := hHeld2
          clear hHeld2
          try simp only [Act.put, List.setIfInBounds_toArray, List.set_cons_zero, List.set_cons_succ]
          refine wpAnyH_take (i := 6) (oi := { dst := some 46, op := Op.binOp BinOp.sub 3 (Operand.tmp 43) (Operand.tmp 45) 3, type := 3, pos := "ref.go:104", after := #[{ on := 3, ground := Ground.data }, { on := 5, ground := Ground.data }], guard := none }) (v := ?_) rfl (by kernel_rfl) (by kernel_rfl) (by kernel_rfl) (fun _ _ _ h => h) (Or.inl ⟨by rfl, ?_⟩) hHeld ?_
          rotate_left
          · intro w' hSw
            (try dsimp only at hSw)
            go_simp
            all_goals with_reducible rfl
          try simp only [Act.put, List.setIfInBounds_toArray, List.set_cons_zero, List.set_cons_succ]
          refine wpAnyH_take (i := 7) (oi := { dst := some 47, op := Op.binOp BinOp.gtr 3 (Operand.tmp 41) (Operand.tmp 46) 3, type := 4, pos := "ref.go:104", after := #[{ on := 1, ground := Ground.data }, { on := 6, ground := Ground.data }], guard := none }) (v := ?_) rfl (by kernel_rfl) (by kernel_rfl) (by kernel_rfl) (fun _ _ _ h => h) (Or.inl ⟨by rfl, ?_⟩) hHeld ?_
          rotate_left
          · intro w' hSw
            (try dsimp only at hSw)
            go_simp
            all_goals with_reducible rfl
          try simp only [Act.put, List.setIfInBounds_toArray, List.set_cons_zero, List.set_cons_succ]
          refine wpAnyH_take (i := 8) (oi := { dst := some 48, op := Op.move (Operand.tmp 47), type := 4, pos := "ref.go:104", after := #[{ on := 7, ground := Ground.data }, { on := 5, ground := Ground.chain }], guard := none }) (v := ?_) rfl (by kernel_rfl) (by kernel_rfl) (by kernel_rfl) (fun _ _ _ h => h) (Or.inl ⟨by rfl, ?_⟩) hHeld ?_
          rotate_left
          · intro w' hSw
            (try dsimp only at hSw)
            go_simp
            all_goals with_reducible rfl
          try simp only [Act.put, List.setIfInBounds_toArray, List.set_cons_zero, List.set_cons_succ]
          refine wpAnyH_take (i := 9) (oi := { dst := some 49, op := Op.move (Operand.tmp 11), type := 3, pos := "ref.go:104", after := #[{ on := 8, ground := Ground.guard }], guard := some (8, false) }) (v := undef) rfl (by kernel_rfl) (by kernel_rfl) (by kernel_rfl) (fun _ _ _ h => h) (Or.inr ⟨by rfl, rfl⟩) hHeld ?_
          try simp only [Act.put, List.setIfInBounds_toArray, List.set_cons_zero, List.set_cons_succ]
          refine wpAnyH_take (i := 10) (oi := { dst := some 50, op := Op.binOp BinOp.lss 3 (Operand.tmp 49) (Operand.const (Value.int IntKind.i64 0)) 3, type := 4, pos := "ref.go:104", after := #[{ on := 9, ground := Ground.data }, { on := 8, ground := Ground.guard }], guard := some (8, false) }) (v := undef) rfl (by kernel_rfl) (by kernel_rfl) (by kernel_rfl) (fun _ _ _ h => h) (Or.inr ⟨by rfl, rfl⟩) hHeld ?_
          try simp only [Act.put, List.setIfInBounds_toArray, List.set_cons_zero, List.set_cons_succ]
          refine wpAnyH_take (i := 11) (oi := { dst := some 51, op := Op.move (Operand.tmp 50), type := 4, pos := "ref.go:104", after := #[{ on := 10, ground := Ground.data }, { on := 8, ground := Ground.chain }, { on := 8, ground := Ground.guard }], guard := some (8, false) }) (v := undef) rfl (by kernel_rfl) (by kernel_rfl) (by kernel_rfl) (fun _ _ _ h => h) (Or.inr ⟨by rfl, rfl⟩) hHeld ?_
          try simp only [Act.put, List.setIfInBounds_toArray, List.set_cons_zero, List.set_cons_succ]
          refine wpAnyH_take (i := 12) (oi := { dst := some 52, op := Op.fieldAddr 31 (Operand.tmp 3) 1, type := 0, pos := "ref.go:104", after := #[{ on := 11, ground := Ground.guard }], guard := some (11, true) }) (v := undef) rfl (by kernel_rfl) (by kernel_rfl) (by kernel_rfl) (fun _ _ _ h => h) (Or.inr ⟨by rfl, rfl⟩) hHeld ?_
          try simp only [Act.put, List.setIfInBounds_toArray, List.set_cons_zero, List.set_cons_succ]
          refine wpAnyH_take (i := 13) (oi := { dst := some 53, op := Op.load 29 (Operand.tmp 52), type := 29, pos := "ref.go:104", after := #[{ on := 12, ground := Ground.data }, { on := 11, ground := Ground.guard }], guard := some (11, true) }) (v := undef) rfl (by kernel_rfl) (by kernel_rfl) (by kernel_rfl) (fun _ _ _ h => h) (Or.inr ⟨by rfl, rfl⟩) hHeld ?_
          try simp only [Act.put, List.setIfInBounds_toArray, List.set_cons_zero, List.set_cons_succ]
          refine wpAnyH_take (i := 14) (oi := { dst := some 54, op := Op.call { callee := Callee.builtin Builtin.len, args := #[Operand.tmp 53], argTypes := #[29] }, type := 3, pos := "ref.go:104", after := #[{ on := 13, ground := Ground.data }, { on := 11, ground := Ground.guard }], guard := some (11, true) }) (v := undef) rfl (by kernel_rfl) (by kernel_rfl) (by kernel_rfl) (fun _ _ _ h => h) (Or.inr ⟨by rfl, rfl⟩) hHeld ?_
          try simp only [Act.put, List.setIfInBounds_toArray, List.set_cons_zero, List.set_cons_succ]
          refine wpAnyH_take (i := 15) (oi := { dst := some 55, op := Op.binOp BinOp.geq 3 (Operand.tmp 54) (Operand.const (Value.int IntKind.i64 256)) 3, type := 4, pos := "ref.go:104", after := #[{ on := 14, ground := Ground.data }, { on := 11, ground := Ground.guard }], guard := some (11, true) }) (v := undef) rfl (by kernel_rfl) (by kernel_rfl) (by kernel_rfl) (fun _ _ _ h => h) (Or.inr ⟨by rfl, rfl⟩) hHeld ?_
          try simp only [Act.put, List.setIfInBounds_toArray, List.set_cons_zero, List.set_cons_succ]
          refine wpAnyH_take (i := 16) (oi := { dst := some 56, op := Op.pick (Operand.tmp 51) (Operand.tmp 55) (Operand.const (Value.bool false)), type := 4, pos := "ref.go:104", after := #[{ on := 11, ground := Ground.data }, { on := 15, ground := Ground.data }, { on := 8, ground := Ground.guard }], guard := some (8, false) }) (v := undef) rfl (by kernel_rfl) (by kernel_rfl) (by kernel_rfl) (fun _ _ _ h => h) (Or.inr ⟨by rfl, rfl⟩) hHeld ?_
          try simp only [Act.put, List.setIfInBounds_toArray, List.set_cons_zero, List.set_cons_succ]
          refine wpAnyH_take (i := 17) (oi := { dst := some 57, op := Op.pick (Operand.tmp 48) (Operand.const (Value.bool true)) (Operand.tmp 56), type := 4, pos := "ref.go:104", after := #[{ on := 8, ground := Ground.data }, { on := 16, ground := Ground.data }], guard := none }) (v := ?_) rfl (by kernel_rfl) (by kernel_rfl) (by kernel_rfl) (fun _ _ _ h => h) (Or.inl ⟨by rfl, ?_⟩) hHeld ?_
          rotate_left
          · intro w' hSw
            (try dsimp only at hSw)
            go_simp
            all_goals with_reducible rfl
          try simp only [Act.put, List.setIfInBounds_toArray, List.set_cons_zero, List.set_cons_succ]
          refine wpAnyH_done (by kernel_rfl) ?_ _
          have hB9 : Below w.heap.size w w6 := HB6.out.trans (HB56.out.mono (by omega))
          have HB9 := Lib.hid hB9
          clear hB9
          go_wp2
          go_region_held (fun w' => w'.cell? ⟨w.heap.size, 0, none⟩ = some (.int .i64 room) ∧ w'.cell? ⟨w.heap.size, 1, none⟩ = some (.slice (some ⟨bq, 0, none⟩) S.fs.length c) ∧ w'.cell? ⟨w.heap.size, 2, none⟩ = some (.bool down) ∧ w'.cell? ⟨w.heap.size, 3, none⟩ = some (.int .i64 falls) ∧ w'.cell? ⟨w.heap.size, 4, none⟩ = some (.bool fused) ∧ w'.cell? ⟨w.heap.size, 5, none⟩ = some (.int .i64 fuse) ∧ w'.cell? ⟨w.heap.size, 6, none⟩ = some (.int .i64 part)) (go_keep) (fail)
          all_goals go_wp2
          all_goals refine bodyPost_ret (v := .tuple #[.int .i64 7, .agg #[.int .i64 room, .slice (some ⟨bq, 0, none⟩) S.fs.length c, .bool down, .int .i64 falls, .bool fused, .int .i64 fuse, .int .i64 part]]) (by simp [results, Try.results23, go_sem, q0, q1, q2, q3, q4, q5, q6]) rfl ⟨_, c, rfl, HH.out.mono ?_, ?_⟩
          all_goals refine Below.drew ?_
          all_goals iterate 7 refine Below.setCell ?_ (by simp <;> omega) _
          all_goals exact HB9.out
        · have hfd : decide (room - (used S.fs : Int) < (b.length : Int)) = false := decide_eq_false hfu1
          have hfv : S.fits n b := hfit.2 ⟨hnm, hfu1, fun h => by rw [hlk] at h; exact absurd h.1 (by simp)⟩
          rw [if_pos hfv]
          simp only [MV, hnm, hfv, ne_eq, not_true_eq_false, not_false_eq_true, if_true, if_false]
          clear hfit hfv
          go_enter Try.func23, Try.ntmps23
          go_wp2_with (fail)
          go_at_call 39; (refine K.out.mono ?_); rintro e w2 ⟨rfl, hB2⟩; have hsz := hB2.size; rw [HS2.out] at hsz; have hT2 := HT.out.keep (hB2.mono (by have := HS2.out; omega)); have y0 := cellof hT2.a 0; have y1 := cellof hT2.a 1; have y2 := cellof hT2.a 2; have y3 := cellof hT2.a 3; have y4 := cellof hT2.a 4; have y5 := cellof hT2.a 5; have y6 := cellof hT2.a 6; have fy := fun o => frozenof hT2.a o; simp only [List.getElem?_toArray, List.getElem?_cons_zero, List.getElem?_cons_succ] at y0 y1 y2 y3 y4 y5 y6; have HB2 := Lib.hid hB2; have HT2 := Lib.hid hT2; clear hB2 hT2
          iterate 20 first | go_values | go_skip | go_guarded | go_step | go_upon | go_in | go_back | (simp only [Int.not_lt, Int.not_le] at *; go_simp)
          have hT3 := HT2.out.put (S' := ⟨room, S.fs, down, falls, fused, fuse, part⟩) (v' := .slice (some ⟨bq, 0, none⟩) S.fs.length c)
          have hB3 := put7_below (N := w.heap.size) (S := ⟨room, S.fs, down, falls, fused, fuse, part⟩) (v := .slice (some ⟨bq, 0, none⟩) S.fs.length c) (b := w.heap.size) (HA.out.trans (HB2.out.mono (by have := HS2.out; omega))) (Nat.le_refl _)
          have hs7 := put7_size ⟨room, S.fs, down, falls, fused, fuse, part⟩ (.slice (some ⟨bq, 0, none⟩) S.fs.length c) w.heap.size w2
          change Code.wp _ _ _ _ (put7 ⟨room, S.fs, down, falls, fused, fuse, part⟩ (.slice (some ⟨bq, 0, none⟩) S.fs.length c) w.heap.size w2)
          obtain ⟨w3, hw3⟩ : ∃ w3, w3 = put7 ⟨room, S.fs, down, falls, fused, fuse, part⟩ (.slice (some ⟨bq, 0, none⟩) S.fs.length c) w.heap.size w2 := ⟨_, rfl⟩
          rw [← hw3] at hT3 hB3 hs7 ⊢
          rw [← hs7] at hsz
          clear hw3 hs7 y0 y1 y2 y3 y4 y5 y6 fy
          have y0 := cellof hT3.a 0; have y1 := cellof hT3.a 1; have y2 := cellof hT3.a 2; have y3 := cellof hT3.a 3; have y4 := cellof hT3.a 4; have y5 := cellof hT3.a 5; have y6 := cellof hT3.a 6; have q0 := cellof hT3.z 0; have q1 := cellof hT3.z 1; have q2 := cellof hT3.z 2; have q3 := cellof hT3.z 3; have q4 := cellof hT3.z 4; have q5 := cellof hT3.z 5; have q6 := cellof hT3.z 6; have fy := fun o => frozenof hT3.a o; have fq := fun o => frozenof hT3.z o; simp only [List.getElem?_toArray, List.getElem?_cons_zero, List.getElem?_cons_succ] at y0 y1 y2 y3 y4 y5 y6 q0 q1 q2 q3 q4 q5 q6
          have hl0 : w.heap.size < w3.heap.size := (by omega); have hn0 : w.heap.size ≠ w3.heap.size := (by omega); have hl1 : w.heap.size + 1 < w3.heap.size := (by omega); have hn1 : w.heap.size + 1 ≠ w3.heap.size := (by omega)
          have hF3 := HH.out.mono hB3
          have HT3 := Lib.hid hT3; have HB3 := Lib.hid hB3; have HF3 := Lib.hid hF3
          clear hT3 hB3 hF3
          go_wp2_with (first | (go_at_call 40; (with_reducible refine (K40.out _).mono ?_); rintro e w9 ⟨rfl, rfl⟩) | (go_at_call 31; (refine (K31.out n _ (by first | exact HF3.out | exact HF4.out)).mono ?_); rintro e w4 hfo; obtain ⟨hB4, j, rfl, hj⟩ := find_some HFI.out.srt hlk hfo; have hT4 := HT3.out.keep (hB4.mono (by omega)); have hsz4 := hB4.size; have hl4 : w.heap.size < w4.heap.size := (by omega); have hn4 : w.heap.size ≠ w4.heap.size := (by omega); have hl5 : w.heap.size + 1 < w4.heap.size := (by omega); have hn5 : w.heap.size + 1 ≠ w4.heap.size := (by omega); clear y0 y1 y2 y3 y4 y5 y6 q0 q1 q2 q3 q4 q5 q6 fy fq; have y0 := cellof hT4.a 0; have y1 := cellof hT4.a 1; have y2 := cellof hT4.a 2; have y3 := cellof hT4.a 3; have y4 := cellof hT4.a 4; have y5 := cellof hT4.a 5; have y6 := cellof hT4.a 6; have q0 := cellof hT4.z 0; have q1 := cellof hT4.z 1; have q2 := cellof hT4.z 2; have q3 := cellof hT4.z 3; have q4 := cellof hT4.z 4; have q5 := cellof hT4.z 5; have q6 := cellof hT4.z 6; have fy := fun o => frozenof hT4.a o; have fq := fun o => frozenof hT4.z o; simp only [List.getElem?_toArray, List.getElem?_cons_zero, List.getElem?_cons_succ] at y0 y1 y2 y3 y4 y5 y6 q0 q1 q2 q3 q4 q5 q6; have hB5 : Below w.heap.size w w4 := HB3.out.trans (hB4.mono (by omega)); have hc := HH.out j f hj; obtain ⟨b', hp', hb', e0, ⟨v, e1, hv⟩, e2, _⟩ := hc; cases hp'; have HV := Lib.hid hv; obtain ⟨pv, cv, rfl, hcap, _⟩ := hv; have e0 := (hB5.cell (p := ⟨bq, _, none⟩) hb').trans e0; have e1 := (hB5.cell (p := ⟨bq, _, none⟩) hb').trans e1; have e2 := (hB5.cell (p := ⟨bq, _, none⟩) hb').trans e2; have hjl : j < S.fs.length := (List.getElem?_eq_some_iff.1 hj).1; have hbl : bq < w4.heap.size := (by omega); have hbn : bq ≠ w4.heap.size := (by omega); have hF4 := HH.out.mono hB5; have HT4 := Lib.hid hT4; have HB5 := Lib.hid hB5; have HF4 := Lib.hid hF4; clear hT4 hB4 hB5 hF4 hj))
          change Code.wp _ _ _ _ (w4.alloc (bf f (.slice pv f.b.length cv)))
          obtain ⟨w5, hw5⟩ : ∃ w5, w5 = w4.alloc (bf f (.slice pv f.b.length cv)) := ⟨_, rfl⟩
          have hg : w5.heap[w4.heap.size]? = some (bf f (.slice pv f.b.length cv)) := by rw [hw5]; exact heap_alloc_new w4 _
          have hB45 : Below w4.heap.size w4 w5 := by rw [hw5]; exact (Below.refl _ _).alloc (Nat.le_refl _) _
          have hs5 : w5.heap.size = w4.heap.size + 1 := by rw [hw5, World.size_alloc]
          have hsz4 : w.heap.size + 2 ≤ w4.heap.size := by omega
          have HL5 := Lib.hid (show w4.heap.size < w5.heap.size by omega)
          rw [← hw5]
          clear hw5
          have hT5 := HT4.out.keep (hB45.mono hsz4)
          clear y0 y1 y2 y3 y4 y5 y6 q0 q1 q2 q3 q4 q5 q6 fy fq
          have y0 := cellof hT5.a 0; have y1 := cellof hT5.a 1; have y2 := cellof hT5.a 2; have y3 := cellof hT5.a 3; have y4 := cellof hT5.a 4; have y5 := cellof hT5.a 5; have y6 := cellof hT5.a 6; have q0 := cellof hT5.z 0; have q1 := cellof hT5.z 1; have q2 := cellof hT5.z 2; have q3 := cellof hT5.z 3; have q4 := cellof hT5.z 4; have q5 := cellof hT5.z 5; have q6 := cellof hT5.z 6; have fy := fun o => frozenof hT5.a o; have fq := fun o => frozenof hT5.z o; simp only [List.getElem?_toArray, List.getElem?_cons_zero, List.getElem?_cons_succ] at y0 y1 y2 y3 y4 y5 y6 q0 q1 q2 q3 q4 q5 q6
          have g0 := cellof hg 0; have g1 := cellof hg 1; have g2 := cellof hg 2
          simp only [List.getElem?_toArray, List.getElem?_cons_zero, List.getElem?_cons_succ] at g0 g1 g2
          have G0 := Lib.hid g0; have G1 := Lib.hid g1; have G2 := Lib.hid g2
          have hB6 : Below w.heap.size w w5 := HB5.out.trans (hB45.mono (by omega))
          have HK41 := Lib.hid (K41.out w5.drew (HH.out.mono hB6.drew))
          have HT5 := Lib.hid hT5; have HB6 := Lib.hid hB6; have HG5 := Lib.hid hg
          have hne4 : w4.heap.size ≠ w.heap.size + 1 := by omega
          have hne5 : w.heap.size + 1 ≠ w4.heap.size := by omega
          clear hT5 hB6 hB45 hg
          refine wp_region_held_drew (S := (fun w' => w'.cell? ⟨w.heap.size, 0, none⟩ = some (.int .i64 room) ∧ w'.cell? ⟨w.heap.size, 1, none⟩ = some (.slice (some ⟨bq, 0, none⟩) S.fs.length c) ∧ w'.cell? ⟨w.heap.size, 2, none⟩ = some (.bool down) ∧ w'.cell? ⟨w.heap.size, 3, none⟩ = some (.int .i64 falls) ∧ w'.cell? ⟨w.heap.size, 4, none⟩ = some (.bool fused) ∧ w'.cell? ⟨w.heap.size, 5, none⟩ = some (.int .i64 fuse) ∧ w'.cell? ⟨w.heap.size, 6, none⟩ = some (.int .i64 part) ∧ w'.cell? ⟨w4.heap.size, 0, none⟩ = some (.string (bs f.n)) ∧ w'.cell? ⟨w4.heap.size, 1, none⟩ = some (.slice pv f.b.length cv) ∧ w'.cell? ⟨w4.heap.size, 2, none⟩ = some (.int .i64 f.s))) (by kernel_rfl) ?_ (fun hHeld => ?_)
          · (try dsimp only)
            go_keep
          refine wpAnyH_take (i := 0) (oi := { dst := some 40, op := Op.move (Operand.tmp 2), type := 33, pos := "ref.go:104", after := #[], guard := none }) (v := ?_) rfl (by kernel_rfl) (by kernel_rfl) (by kernel_rfl) (fun _ _ _ h => h) (Or.inl ⟨by rfl, ?_⟩) hHeld ?_
          rotate_left
          · intro w' hSw
            (try dsimp only at hSw)
            go_simp
            all_goals with_reducible rfl
          try simp only [Act.put, List.setIfInBounds_toArray, List.set_cons_zero, List.set_cons_succ]
          refine wpAnyH_take (i := 1) (oi := { dst := some 41, op := Op.call { callee := Callee.builtin Builtin.len, args := #[Operand.tmp 40], argTypes := #[33] }, type := 3, pos := "ref.go:104", after := #[{ on := 0, ground := Ground.data }], guard := none }) (v := ?_) rfl (by kernel_rfl) (by kernel_rfl) (by kernel_rfl) (fun _ _ _ h => h) (Or.inl ⟨by rfl, ?_⟩) hHeld ?_
          rotate_left
          · intro w' hSw
            (try dsimp only at hSw)
            go_simp
            all_goals with_reducible rfl
          try simp only [Act.put, List.setIfInBounds_toArray, List.set_cons_zero, List.set_cons_succ]
          refine wpAnyH_take (i := 2) (oi := { dst := some 42, op := Op.fieldAddr 31 (Operand.tmp 3) 0, type := 0, pos := "ref.go:104", after := #[], guard := none }) (v := ?_) rfl (by kernel_rfl) (by kernel_rfl) (by kernel_rfl) (fun _ _ _ h => h) (Or.inl ⟨by rfl, ?_⟩) hHeld ?_
          rotate_left
          · intro w' hSw
            (try dsimp only at hSw)
            go_simp
            all_goals with_reducible rfl
          try simp only [Act.put, List.setIfInBounds_toArray, List.set_cons_zero, List.set_cons_succ]
          refine wpAnyH_take (i := 3) (oi := { dst := some 43, op := Op.load 3 (Operand.tmp 42), type := 3, pos := "ref.go:104", after := #[{ on := 2, ground := Ground.data }], guard := none }) (v := ?_) rfl (by kernel_rfl) (by kernel_rfl) (by kernel_rfl) (fun _ _ _ h => h) (Or.inl ⟨by rfl, ?_⟩) hHeld ?_
          rotate_left
          · intro w' hSw
            (try dsimp only at hSw)
            go_simp
            all_goals with_reducible rfl
          try simp only [Act.put, List.setIfInBounds_toArray, List.set_cons_zero, List.set_cons_succ]
          refine wpAnyH_take (i := 4) (oi := { dst := some 44, op := Op.load 31 (Operand.tmp 3), type := 31, pos := "ref.go:104", after := #[], guard := none }) (v := ?_) rfl (by kernel_rfl) (by kernel_rfl) (by kernel_rfl) (fun _ _ _ h => h) (Or.inl ⟨by rfl, ?_⟩) hHeld ?_
          rotate_left
          · intro w' hSw
            (try dsimp only at hSw)
            go_simp
            all_goals with_reducible rfl
          try simp only [Act.put, List.setIfInBounds_toArray, List.set_cons_zero, List.set_cons_succ]
          refine wpAnyH_ready (rs := [5]) (by kernel_rfl) (by simp) ?_
          refine AllReadyH.cons (o := { dst := some 45, op := Op.call { callee := Callee.value (Operand.func 41), args := #[Operand.tmp 44], argTypes := #[31] }, type := 3, pos := "ref.go:104", after := #[{ on := 4, ground := Ground.data }], guard := none }) rfl (fun K hK => ?_) AllReadyH.nil
          go_simp
          go_at_call 41; (refine HK41.out.mono ?_); rintro e w6 ⟨rfl, hB56⟩; have hB56 : Below w5.heap.size w5 w6 := (Below.refl _ w5).drew.trans hB56; clear y0 y1 y2 y3 y4 y5 y6 q0 q1 q2 q3 q4 q5 q6 g0 g1 g2 fy fq; have hT9 := HT5.out.keep (hB56.mono (by omega)); have y0 := cellof hT9.a 0; have y1 := cellof hT9.a 1; have y2 := cellof hT9.a 2; have y3 := cellof hT9.a 3; have y4 := cellof hT9.a 4; have y5 := cellof hT9.a 5; have y6 := cellof hT9.a 6; have q0 := cellof hT9.z 0; have q1 := cellof hT9.z 1; have q2 := cellof hT9.z 2; have q3 := cellof hT9.z 3; have q4 := cellof hT9.z 4; have q5 := cellof hT9.z 5; have q6 := cellof hT9.z 6; have fy := fun o => frozenof hT9.a o; have fq := fun o => frozenof hT9.z o; simp only [List.getElem?_toArray, List.getElem?_cons_zero, List.getElem?_cons_succ] at y0 y1 y2 y3 y4 y5 y6 q0 q1 q2 q3 q4 q5 q6; have g0 := (hB56.cell (p := ⟨w4.heap.size, 0, none⟩) HL5.out).trans G0.out; have g1 := (hB56.cell (p := ⟨w4.heap.size, 1, none⟩) HL5.out).trans G1.out; have g2 := (hB56.cell (p := ⟨w4.heap.size, 2, none⟩) HL5.out).trans G2.out; have hT6 := Lib.hid hT9; clear hT9; have hs6 := hB56.size; have HB56 := Lib.hid hB56; clear hB56
          go_wp2_with fail
          refine hK.out _ _ ?_ (fun hHeld2 => ?_)
          · (try dsimp only)
            first
              | go_keep
              | (rw [World.cell?_setCell_other]; (· assumption); (· simp))
          clear hK K hHeld
          have hHeld := hHeld2
          clear hHeld2
          try simp only [Act.put, List.setIfInBounds_toArray, List.set_cons_zero, List.set_cons_succ]
          refine wpAnyH_take (i := 6) (oi := { dst := some 46, op := Op.binOp BinOp.sub 3 (Operand.tmp 43) (Operand.tmp 45) 3, type := 3, pos := "ref.go:104", after := #[{ on := 3, ground := Ground.data }, { on := 5, ground := Ground.data }], guard := none }) (v := ?_) rfl (by kernel_rfl) (by kernel_rfl) (by kernel_rfl) (fun _ _ _ h => h) (Or.inl ⟨by rfl, ?_⟩) hHeld ?_
          rotate_left
          · intro w' hSw
            (try dsimp only at hSw)
            go_simp
            all_goals with_reducible rfl
          try simp only [Act.put, List.setIfInBounds_toArray, List.set_cons_zero, List.set_cons_succ]
          refine wpAnyH_take (i := 7) (oi := { dst := some 47, op := Op.binOp BinOp.gtr 3 (Operand.tmp 41) (Operand.tmp 46) 3, type := 4, pos := "ref.go:104", after := #[{ on := 1, ground := Ground.data }, { on := 6, ground := Ground.data }], guard := none }) (v := ?_) rfl (by kernel_rfl) (by kernel_rfl) (by kernel_rfl) (fun _ _ _ h => h) (Or.inl ⟨by rfl, ?_⟩) hHeld ?_
          rotate_left
          · intro w' hSw
            (try dsimp only at hSw)
            go_simp
            all_goals with_reducible rfl
          try simp only [Act.put, List.setIfInBounds_toArray, List.set_cons_zero, List.set_cons_succ]
          refine wpAnyH_take (i := 8) (oi := { dst := some 48, op := Op.move (Operand.tmp 47), type := 4, pos := "ref.go:104", after := #[{ on := 7, ground := Ground.data }, { on := 5, ground := Ground.chain }], guard := none }) (v := ?_) rfl (by kernel_rfl) (by kernel_rfl) (by kernel_rfl) (fun _ _ _ h => h) (Or.inl ⟨by rfl, ?_⟩) hHeld ?_
          rotate_left
          · intro w' hSw
            (try dsimp only at hSw)
            go_simp
            all_goals with_reducible rfl
          try simp only [Act.put, List.setIfInBounds_toArray, List.set_cons_zero, List.set_cons_succ]
          refine wpAnyH_take (i := 9) (oi := { dst := some 49, op := Op.move (Operand.tmp 11), type := 3, pos := "ref.go:104", after := #[{ on := 8, ground := Ground.guard }], guard := some (8, false) }) (v := ?_) rfl (by kernel_rfl) (by kernel_rfl) (by kernel_rfl) (fun _ _ _ h => h) (Or.inl ⟨by rfl, ?_⟩) hHeld ?_
          rotate_left
          · intro w' hSw
            (try dsimp only at hSw)
            go_simp
            all_goals with_reducible rfl
          try simp only [Act.put, List.setIfInBounds_toArray, List.set_cons_zero, List.set_cons_succ]
          refine wpAnyH_take (i := 10) (oi := { dst := some 50, op := Op.binOp BinOp.lss 3 (Operand.tmp 49) (Operand.const (Value.int IntKind.i64 0)) 3, type := 4, pos := "ref.go:104", after := #[{ on := 9, ground := Ground.data }, { on := 8, ground := Ground.guard }], guard := some (8, false) }) (v := ?_) rfl (by kernel_rfl) (by kernel_rfl) (by kernel_rfl) (fun _ _ _ h => h) (Or.inl ⟨by rfl, ?_⟩) hHeld ?_
          rotate_left
          · intro w' hSw
            (try dsimp only at hSw)
            go_simp
            all_goals with_reducible rfl
          try simp only [Act.put, List.setIfInBounds_toArray, List.set_cons_zero, List.set_cons_succ]
          refine wpAnyH_take (i := 11) (oi := { dst := some 51, op := Op.move (Operand.tmp 50), type := 4, pos := "ref.go:104", after := #[{ on := 10, ground := Ground.data }, { on := 8, ground := Ground.chain }, { on := 8, ground := Ground.guard }], guard := some (8, false) }) (v := ?_) rfl (by kernel_rfl) (by kernel_rfl) (by kernel_rfl) (fun _ _ _ h => h) (Or.inl ⟨by rfl, ?_⟩) hHeld ?_
          rotate_left
          · intro w' hSw
            (try dsimp only at hSw)
            go_simp
            all_goals with_reducible rfl
          try simp only [Act.put, List.setIfInBounds_toArray, List.set_cons_zero, List.set_cons_succ]
          refine wpAnyH_take (i := 12) (oi := { dst := some 52, op := Op.fieldAddr 31 (Operand.tmp 3) 1, type := 0, pos := "ref.go:104", after := #[{ on := 11, ground := Ground.guard }], guard := some (11, true) }) (v := undef) rfl (by kernel_rfl) (by kernel_rfl) (by kernel_rfl) (fun _ _ _ h => h) (Or.inr ⟨by rfl, rfl⟩) hHeld ?_
          try simp only [Act.put, List.setIfInBounds_toArray, List.set_cons_zero, List.set_cons_succ]
          refine wpAnyH_take (i := 13) (oi := { dst := some 53, op := Op.load 29 (Operand.tmp 52), type := 29, pos := "ref.go:104", after := #[{ on := 12, ground := Ground.data }, { on := 11, ground := Ground.guard }], guard := some (11, true) }) (v := undef) rfl (by kernel_rfl) (by kernel_rfl) (by kernel_rfl) (fun _ _ _ h => h) (Or.inr ⟨by rfl, rfl⟩) hHeld ?_
          try simp only [Act.put, List.setIfInBounds_toArray, List.set_cons_zero, List.set_cons_succ]
          refine wpAnyH_take (i := 14) (oi := { dst := some 54, op := Op.call { callee := Callee.builtin Builtin.len, args := #[Operand.tmp 53], argTypes := #[29] }, type := 3, pos := "ref.go:104", after := #[{ on := 13, ground := Ground.data }, { on := 11, ground := Ground.guard }], guard := some (11, true) }) (v := undef) rfl (by kernel_rfl) (by kernel_rfl) (by kernel_rfl) (fun _ _ _ h => h) (Or.inr ⟨by rfl, rfl⟩) hHeld ?_
          try simp only [Act.put, List.setIfInBounds_toArray, List.set_cons_zero, List.set_cons_succ]
          refine wpAnyH_take (i := 15) (oi := { dst := some 55, op := Op.binOp BinOp.geq 3 (Operand.tmp 54) (Operand.const (Value.int IntKind.i64 256)) 3, type := 4, pos := "ref.go:104", after := #[{ on := 14, ground := Ground.data }, { on := 11, ground := Ground.guard }], guard := some (11, true) }) (v := undef) rfl (by kernel_rfl) (by kernel_rfl) (by kernel_rfl) (fun _ _ _ h => h) (Or.inr ⟨by rfl, rfl⟩) hHeld ?_
          try simp only [Act.put, List.setIfInBounds_toArray, List.set_cons_zero, List.set_cons_succ]
          refine wpAnyH_take (i := 16) (oi := { dst := some 56, op := Op.pick (Operand.tmp 51) (Operand.tmp 55) (Operand.const (Value.bool false)), type := 4, pos := "ref.go:104", after := #[{ on := 11, ground := Ground.data }, { on := 15, ground := Ground.data }, { on := 8, ground := Ground.guard }], guard := some (8, false) }) (v := ?_) rfl (by kernel_rfl) (by kernel_rfl) (by kernel_rfl) (fun _ _ _ h => h) (Or.inl ⟨by rfl, ?_⟩) hHeld ?_
          rotate_left
          · intro w' hSw
            (try dsimp only at hSw)
            go_simp
            all_goals with_reducible rfl
          try simp only [Act.put, List.setIfInBounds_toArray, List.set_cons_zero, List.set_cons_succ]
          refine wpAnyH_take (i := 17) (oi := { dst := some 57, op := Op.pick (Operand.tmp 48) (Operand.const (Value.bool true)) (Operand.tmp 56), type := 4, pos := "ref.go:104", after := #[{ on := 8, ground := Ground.data }, { on := 16, ground := Ground.data }], guard := none }) (v := ?_) rfl (by kernel_rfl) (by kernel_rfl) (by kernel_rfl) (fun _ _ _ h => h) (Or.inl ⟨by rfl, ?_⟩) hHeld ?_
          rotate_left
          · intro w' hSw
            (try dsimp only at hSw)
            go_simp
            all_goals with_reducible rfl
          try simp only [Act.put, List.setIfInBounds_toArray, List.set_cons_zero, List.set_cons_succ]
          refine wpAnyH_done (by kernel_rfl) ?_ _
          have hB9 : Below w.heap.size w w6 := HB6.out.trans (HB56.out.mono (by omega))
          have HB9 := Lib.hid hB9
          clear hB9
          have fg := fun o => frozenof (((HB56.out.block w4.heap.size HL5.out)).trans HG5.out) o
          have hl46 : w4.heap.size < w6.heap.size := Nat.lt_of_lt_of_le HL5.out hs6
          have hn46 : w4.heap.size ≠ w6.heap.size := Nat.ne_of_lt hl46
          obtain ⟨_, cb', hcv, hcb, _⟩ := HBB.out
          cases hcv
          go_wp2_with (first | (go_at_call 42; (refine HK42.out.mono ?_); rintro e w10 ⟨p10, c10, X, rfl, hX10, hrd10, hXf10, hB10⟩; have hT10 := HT9.out.keep (hB10.mono (by have := HS8.out; omega)); have hs10 := hB10.size; rw [HS8.out] at hs10; clear y0 y1 y2 y3 y4 y5 y6 q0 q1 q2 q3 q4 q5 q6 g0 g1 g2 fy fq fg; have y0 := cellof hT10.a 0; have y1 := cellof hT10.a 1; have y2 := cellof hT10.a 2; have y3 := cellof hT10.a 3; have y4 := cellof hT10.a 4; have y5 := cellof hT10.a 5; have y6 := cellof hT10.a 6; have q0 := cellof hT10.z 0; have q1 := cellof hT10.z 1; have q2 := cellof hT10.z 2; have q3 := cellof hT10.z 3; have q4 := cellof hT10.z 4; have q5 := cellof hT10.z 5; have q6 := cellof hT10.z 6; have fy := fun o => frozenof hT10.a o; have fq := fun o => frozenof hT10.z o; simp only [List.getElem?_toArray, List.getElem?_cons_zero, List.getElem?_cons_succ] at y0 y1 y2 y3 y4 y5 y6 q0 q1 q2 q3 q4 q5 q6; have HX10 := Lib.hid hX10; have HRD10 := Lib.hid hrd10; have HXF10 := Lib.hid hXf10; have HB10 := Lib.hid hB10; have HT10 := Lib.hid hT10; clear hX10 hrd10 hXf10 hB10 hT10; generalize hXl : X.length = xl at *; have HXL := Lib.hid hXl; clear hXl) | (at_builtin; refine wpList_app_rd rfl rfl _ _ rfl (f.b.length + b.length) (by rw [List.length_take, Nat.min_eq_left hmm]) (by rfl) (by rfl) HO7.out hs67 (bl := (b.take b.length)) HR7.out (by rw [List.length_take, Nat.min_eq_left hmm]; omega) ?_; intro g8 c8 w8 ho8 hgr8; have hB68 : Below w6.heap.size w6 w8 := grown_below HB67.out hs67 ((World.ownsRow.lt HO7.out _ rfl).1) hgr8; have hB58 : Below w5.heap.size w5 w8 := HB56.out.trans (hB68.mono hs6); have hs68 := hB68.size; clear y0 y1 y2 y3 y4 y5 y6 q0 q1 q2 q3 q4 q5 q6 g0 g1 g2 fy fq fg; have hT9 := HT5.out.keep (hB58.mono (by omega)); have y0 := cellof hT9.a 0; have y1 := cellof hT9.a 1; have y2 := cellof hT9.a 2; have y3 := cellof hT9.a 3; have y4 := cellof hT9.a 4; have y5 := cellof hT9.a 5; have y6 := cellof hT9.a 6; have q0 := cellof hT9.z 0; have q1 := cellof hT9.z 1; have q2 := cellof hT9.z 2; have q3 := cellof hT9.z 3; have q4 := cellof hT9.z 4; have q5 := cellof hT9.z 5; have q6 := cellof hT9.z 6; have fy := fun o => frozenof hT9.a o; have fq := fun o => frozenof hT9.z o; simp only [List.getElem?_toArray, List.getElem?_cons_zero, List.getElem?_cons_succ] at y0 y1 y2 y3 y4 y5 y6 q0 q1 q2 q3 q4 q5 q6; have hg9 := (hB58.block w4.heap.size HL5.out).trans HG5.out; have g0 := cellof hg9 0; have g1 := cellof hg9 1; have g2 := cellof hg9 2; have fg := fun o => frozenof hg9 o; simp only [List.getElem?_toArray, List.getElem?_cons_zero, List.getElem?_cons_succ] at g0 g1 g2; have hT8 := hT9; have hB8 : Below w.heap.size w (w8.setCell ⟨w4.heap.size, 1, none⟩ (.slice (some ⟨g8, 0, none⟩) (f.b.length + b.length) c8)) := Below.setCell (HB9.out.trans (hB68.mono HB9.out.size)) (by simp; omega) _; have hl8 : w4.heap.size < w6.heap.size := Nat.lt_of_lt_of_le HL5.out hs6; have ho9 : (w8.setCell ⟨w4.heap.size, 1, none⟩ (.slice (some ⟨g8, 0, none⟩) (f.b.length + b.length) c8)).ownsRow w6.heap.size 5 1 (.slice (some ⟨g8, 0, none⟩) (f.b.length + b.length) c8) (f.b ++ (b.take b.length)).length (B (f.b ++ (b.take b.length))) := ownsRow_setCell_below (by rw [List.length_append, List.length_take, Nat.min_eq_left hmm, B_app]; exact ho8) hl8 _; have K42 := c42r (Tag w.heap.size (w8.setCell ⟨w4.heap.size, 1, none⟩ (.slice (some ⟨g8, 0, none⟩) (f.b.length + b.length) c8))) (fun v l h => h.1) ⟨room, S.fs, down, falls, fused, fuse, part⟩ (some ⟨bq, 0, none⟩) c ⟨f.n, f.b ++ b.take b.length, f.s⟩ (some ⟨g8, 0, none⟩) (f.b.length + b.length) c8 (w8.setCell ⟨w4.heap.size, 1, none⟩ (.slice (some ⟨g8, 0, none⟩) (f.b.length + b.length) c8)) ((HH.out.inn.mono hB8).weaken fun v l h => tag_old h hB8) (by show S.fs.length ≤ 1000; omega) (tag_new ho9 (by omega) (fun g hg => Okb.big g (Nat.le_trans hokn (Nat.le_trans HB9.out.size hg)))); unfold WoOut MV at K42; simp only at K42; have hT9' : Two ⟨room, S.fs, down, falls, fused, fuse, part⟩ (.slice (some ⟨bq, 0, none⟩) S.fs.length c) w.heap.size (w8.setCell ⟨w4.heap.size, 1, none⟩ (.slice (some ⟨g8, 0, none⟩) (f.b.length + b.length) c8)) := ⟨(setCell_ne _ (by omega)).trans hT8.a, (setCell_ne _ (by omega)).trans hT8.z⟩; have HK42 := Lib.hid K42; have HT9 := Lib.hid hT9'; have HB8 := Lib.hid hB8; have hs8 : (w8.setCell ⟨w4.heap.size, 1, none⟩ (.slice (some ⟨g8, 0, none⟩) (f.b.length + b.length) c8)).heap.size = w8.heap.size := World.size_setCell _ _ _; have HS8 := Lib.hid hs8; clear ho8 hgr8 hB58 hB68 hT8 hT9 hT9' hg9 ho9 K42 hB8 hs8) | (at_builtin; refine wpList_app_rd rfl rfl _ _ rfl (f.b.length) (by simp) (by rfl) (by rfl) (own_empty5 w6 w6.heap.size (Nat.le_refl _)) (by simp) (bl := f.b) (HV.out.mono (HB9.out.alloc (HB9.out.size) _)) (by simp <;> omega) ?_; intro g7 c7 w7 ho7 hgr7; have hB67 : Below w6.heap.size w6 w7 := grown_below ((Below.refl w6.heap.size w6).alloc (Nat.le_refl _) _) (by simp) (Nat.le_refl _) hgr7; have hB57 : Below w5.heap.size w5 w7 := HB56.out.trans (hB67.mono hs6); have hs67 := hB67.size; clear y0 y1 y2 y3 y4 y5 y6 q0 q1 q2 q3 q4 q5 q6 g0 g1 g2 fy fq fg; have hT9 := HT5.out.keep (hB57.mono (by omega)); have y0 := cellof hT9.a 0; have y1 := cellof hT9.a 1; have y2 := cellof hT9.a 2; have y3 := cellof hT9.a 3; have y4 := cellof hT9.a 4; have y5 := cellof hT9.a 5; have y6 := cellof hT9.a 6; have q0 := cellof hT9.z 0; have q1 := cellof hT9.z 1; have q2 := cellof hT9.z 2; have q3 := cellof hT9.z 3; have q4 := cellof hT9.z 4; have q5 := cellof hT9.z 5; have q6 := cellof hT9.z 6; have fy := fun o => frozenof hT9.a o; have fq := fun o => frozenof hT9.z o; simp only [List.getElem?_toArray, List.getElem?_cons_zero, List.getElem?_cons_succ] at y0 y1 y2 y3 y4 y5 y6 q0 q1 q2 q3 q4 q5 q6; have hg9 := (hB57.block w4.heap.size HL5.out).trans HG5.out; have g0 := cellof hg9 0; have g1 := cellof hg9 1; have g2 := cellof hg9 2; have fg := fun o => frozenof hg9 o; simp only [List.getElem?_toArray, List.getElem?_cons_zero, List.getElem?_cons_succ] at g0 g1 g2; have hr7 : Rd w7 (.slice pb b.length cb) (b.take b.length) := (HBB.out.take hmm).mono (HB9.out.trans (hB67.mono HB9.out.size)); have HR7 := Lib.hid hr7; have HO7 := Lib.hid ho7; have HB67 := Lib.hid hB67; clear ho7 hgr7 hB67 hB57 hT9 hg9 hr7))
          have hw9s := HS8.out
          have hB8s := HB8.out.size
          have hT11 := HT10.out.put (S' := ⟨room, S.fs, down, falls, fused, fuse, part⟩) (v' := .slice p10 xl c10)
          have hX11 := put7_own (S := ⟨room, S.fs, down, falls, fused, fuse, part⟩) (v := .slice p10 xl c10) (b := w.heap.size) HX10.out (by omega)
          have hk11 : ∀ bb, bb < (w8.setCell ⟨w4.heap.size, 1, none⟩ (.slice (some ⟨g8, 0, none⟩) (f.b.length + b.length) c8)).heap.size → bb ≠ w.heap.size → (put7 ⟨room, S.fs, down, falls, fused, fuse, part⟩ (.slice p10 xl c10) w.heap.size w10).heap[bb]? = _ := fun bb hb h => (put7_ne h).trans (HB10.out.block bb hb)
          have hB11 := put7_below (S := ⟨room, S.fs, down, falls, fused, fuse, part⟩) (v := .slice p10 xl c10) (b := w.heap.size) (HB8.out.trans (HB10.out.mono hB8s)) (Nat.le_refl _)
          have hz11 := put7_size ⟨room, S.fs, down, falls, fused, fuse, part⟩ (.slice p10 xl c10) w.heap.size w10
          change Code.wp _ _ _ _ (put7 ⟨room, S.fs, down, falls, fused, fuse, part⟩ (.slice p10 xl c10) w.heap.size w10)
          obtain ⟨w11, hw11⟩ : ∃ w11, w11 = put7 ⟨room, S.fs, down, falls, fused, fuse, part⟩ (.slice p10 xl c10) w.heap.size w10 := ⟨_, rfl⟩
          rw [← hw11] at hT11 hX11 hB11 hz11 ⊢
          simp only [← hw11] at hk11
          clear hw11 y0 y1 y2 y3 y4 y5 y6 q0 q1 q2 q3 q4 q5 q6 fy fq
          have y0 := cellof hT11.a 0; have y1 := cellof hT11.a 1; have y2 := cellof hT11.a 2; have y3 := cellof hT11.a 3; have y4 := cellof hT11.a 4; have y5 := cellof hT11.a 5; have y6 := cellof hT11.a 6; have q0 := cellof hT11.z 0; have q1 := cellof hT11.z 1; have q2 := cellof hT11.z 2; have q3 := cellof hT11.z 3; have q4 := cellof hT11.z 4; have q5 := cellof hT11.z 5; have q6 := cellof hT11.z 6; have fy := fun o => frozenof hT11.a o; have fq := fun o => frozenof hT11.z o; simp only [List.getElem?_toArray, List.getElem?_cons_zero, List.getElem?_cons_succ] at y0 y1 y2 y3 y4 y5 y6 q0 q1 q2 q3 q4 q5 q6
          have HK11 := Lib.hid hk11; have HX11 := Lib.hid hX11; have HB11 := Lib.hid hB11; have HZ11 := Lib.hid hz11
          clear hk11 hX11 hB11 hz11 hT11
          go_region_held (fun w' => w'.cell? ⟨w.heap.size, 0, none⟩ = some (.int .i64 room) ∧ w'.cell? ⟨w.heap.size, 1, none⟩ = some (.slice p10 xl c10) ∧ w'.cell? ⟨w.heap.size, 2, none⟩ = some (.bool down) ∧ w'.cell? ⟨w.heap.size, 3, none⟩ = some (.int .i64 falls) ∧ w'.cell? ⟨w.heap.size, 4, none⟩ = some (.bool fused) ∧ w'.cell? ⟨w.heap.size, 5, none⟩ = some (.int .i64 fuse) ∧ w'.cell? ⟨w.heap.size, 6, none⟩ = some (.int .i64 part)) (go_keep) (fail)
          all_goals go_wp2
          all_goals refine bodyPost_ret (v := .tuple #[.int .i64 0, .agg #[.int .i64 room, .slice p10 xl c10, .bool down, .int .i64 falls, .bool fused, .int .i64 fuse, .int .i64 part]]) (by simp [results, Try.results23, go_sem, q0, q1, q2, q3, q4, q5, q6]) rfl ⟨p10, c10, by rw [← HXF10.out, List.length_map, HXL.out], ?_, ?_⟩
          · rw [← HXF10.out]
            change FsAt (put7 ⟨room, S.fs, down, falls, fused, fuse, part⟩ (.slice p10 xl c10) (w.heap.size + 1) w11).drew _ _
            exact fin_files HX11.out HRD10.out HK11.out (by have := HZ11.out; omega) (by omega) put7_drew_ne put7_drew_size
          · refine Below.drew ?_
            iterate 7 refine Below.setCell ?_ (by simp <;> omega) _
            exact HB11.out
      · have ht1 : decide (1 ≤ n.length ∧ n.length ≤ 32) = false := decide_eq_false hnm
        rw [ht1] at K40
        have hnf : ¬ S.fits n b := fun h => hnm (hfit.1 h).1
        rw [if_neg hnf]
        simp only [MV, hnm, hnf, ne_eq, not_true_eq_false, not_false_eq_true, if_true, if_false]
        clear hfit hnf
        go_enter Try.func23, Try.ntmps23
        go_wp2_with (fail)
        go_at_call 39; (refine K.out.mono ?_); rintro e w2 ⟨rfl, hB2⟩; have hsz := hB2.size; rw [HS2.out] at hsz; have hT2 := HT.out.keep (hB2.mono (by have := HS2.out; omega)); have y0 := cellof hT2.a 0; have y1 := cellof hT2.a 1; have y2 := cellof hT2.a 2; have y3 := cellof hT2.a 3; have y4 := cellof hT2.a 4; have y5 := cellof hT2.a 5; have y6 := cellof hT2.a 6; have fy := fun o => frozenof hT2.a o; simp only [List.getElem?_toArray, List.getElem?_cons_zero, List.getElem?_cons_succ] at y0 y1 y2 y3 y4 y5 y6; have HB2 := Lib.hid hB2; have HT2 := Lib.hid hT2; clear hB2 hT2
        iterate 20 first | go_values | go_skip | go_guarded | go_step | go_upon | go_in | go_back | (simp only [Int.not_lt, Int.not_le] at *; go_simp)
        have hT3 := HT2.out.put (S' := ⟨room, S.fs, down, falls, fused, fuse, part⟩) (v' := .slice (some ⟨bq, 0, none⟩) S.fs.length c)
        have hB3 := put7_below (N := w.heap.size) (S := ⟨room, S.fs, down, falls, fused, fuse, part⟩) (v := .slice (some ⟨bq, 0, none⟩) S.fs.length c) (b := w.heap.size) (HA.out.trans (HB2.out.mono (by have := HS2.out; omega))) (Nat.le_refl _)
        have hs7 := put7_size ⟨room, S.fs, down, falls, fused, fuse, part⟩ (.slice (some ⟨bq, 0, none⟩) S.fs.length c) w.heap.size w2
        change Code.wp _ _ _ _ (put7 ⟨room, S.fs, down, falls, fused, fuse, part⟩ (.slice (some ⟨bq, 0, none⟩) S.fs.length c) w.heap.size w2)
        obtain ⟨w3, hw3⟩ : ∃ w3, w3 = put7 ⟨room, S.fs, down, falls, fused, fuse, part⟩ (.slice (some ⟨bq, 0, none⟩) S.fs.length c) w.heap.size w2 := ⟨_, rfl⟩
        rw [← hw3] at hT3 hB3 hs7 ⊢
        rw [← hs7] at hsz
        clear hw3 hs7 y0 y1 y2 y3 y4 y5 y6 fy
        have y0 := cellof hT3.a 0; have y1 := cellof hT3.a 1; have y2 := cellof hT3.a 2; have y3 := cellof hT3.a 3; have y4 := cellof hT3.a 4; have y5 := cellof hT3.a 5; have y6 := cellof hT3.a 6; have q0 := cellof hT3.z 0; have q1 := cellof hT3.z 1; have q2 := cellof hT3.z 2; have q3 := cellof hT3.z 3; have q4 := cellof hT3.z 4; have q5 := cellof hT3.z 5; have q6 := cellof hT3.z 6; have fy := fun o => frozenof hT3.a o; have fq := fun o => frozenof hT3.z o; simp only [List.getElem?_toArray, List.getElem?_cons_zero, List.getElem?_cons_succ] at y0 y1 y2 y3 y4 y5 y6 q0 q1 q2 q3 q4 q5 q6
        have hl0 : w.heap.size < w3.heap.size := (by omega); have hn0 : w.heap.size ≠ w3.heap.size := (by omega); have hl1 : w.heap.size + 1 < w3.heap.size := (by omega); have hn1 : w.heap.size + 1 ≠ w3.heap.size := (by omega)
        have hF3 := HH.out.mono hB3
        have HT3 := Lib.hid hT3; have HB3 := Lib.hid hB3; have HF3 := Lib.hid hF3
        clear hT3 hB3 hF3
        go_wp2_with (first | (go_at_call 40; (with_reducible refine (K40.out _).mono ?_); rintro e w9 ⟨rfl, rfl⟩) | (go_at_call 31; (refine (K31.out n _ (by first | exact HF3.out | exact HF4.out)).mono ?_); rintro e w4 hfo; obtain ⟨hB4, j, rfl, hj⟩ := find_some HFI.out.srt hlk hfo; have hT4 := HT3.out.keep (hB4.mono (by omega)); have hsz4 := hB4.size; have hl4 : w.heap.size < w4.heap.size := (by omega); have hn4 : w.heap.size ≠ w4.heap.size := (by omega); have hl5 : w.heap.size + 1 < w4.heap.size := (by omega); have hn5 : w.heap.size + 1 ≠ w4.heap.size := (by omega); clear y0 y1 y2 y3 y4 y5 y6 q0 q1 q2 q3 q4 q5 q6 fy fq; have y0 := cellof hT4.a 0; have y1 := cellof hT4.a 1; have y2 := cellof hT4.a 2; have y3 := cellof hT4.a 3; have y4 := cellof hT4.a 4; have y5 := cellof hT4.a 5; have y6 := cellof hT4.a 6; have q0 := cellof hT4.z 0; have q1 := cellof hT4.z 1; have q2 := cellof hT4.z 2; have q3 := cellof hT4.z 3; have q4 := cellof hT4.z 4; have q5 := cellof hT4.z 5; have q6 := cellof hT4.z 6; have fy := fun o => frozenof hT4.a o; have fq := fun o => frozenof hT4.z o; simp only [List.getElem?_toArray, List.getElem?_cons_zero, List.getElem?_cons_succ] at y0 y1 y2 y3 y4 y5 y6 q0 q1 q2 q3 q4 q5 q6; have hB5 : Below w.heap.size w w4 := HB3.out.trans (hB4.mono (by omega)); have hc := HH.out j f hj; obtain ⟨b', hp', hb', e0, ⟨v, e1, hv⟩, e2, _⟩ := hc; cases hp'; have HV := Lib.hid hv; obtain ⟨pv, cv, rfl, hcap, _⟩ := hv; have e0 := (hB5.cell (p := ⟨bq, _, none⟩) hb').trans e0; have e1 := (hB5.cell (p := ⟨bq, _, none⟩) hb').trans e1; have e2 := (hB5.cell (p := ⟨bq, _, none⟩) hb').trans e2; have hjl : j < S.fs.length := (List.getElem?_eq_some_iff.1 hj).1; have hbl : bq < w4.heap.size := (by omega); have hbn : bq ≠ w4.heap.size := (by omega); have hF4 := HH.out.mono hB5; have HT4 := Lib.hid hT4; have HB5 := Lib.hid hB5; have HF4 := Lib.hid hF4; clear hT4 hB4 hB5 hF4 hj))
        go_region_held (fun w' => w'.cell? ⟨w.heap.size, 0, none⟩ = some (.int .i64 room) ∧ w'.cell? ⟨w.heap.size, 1, none⟩ = some (.slice (some ⟨bq, 0, none⟩) S.fs.length c) ∧ w'.cell? ⟨w.heap.size, 2, none⟩ = some (.bool down) ∧ w'.cell? ⟨w.heap.size, 3, none⟩ = some (.int .i64 falls) ∧ w'.cell? ⟨w.heap.size, 4, none⟩ = some (.bool fused) ∧ w'.cell? ⟨w.heap.size, 5, none⟩ = some (.int .i64 fuse) ∧ w'.cell? ⟨w.heap.size, 6, none⟩ = some (.int .i64 part)) (go_keep) (fail)
        all_goals go_wp2
        all_goals refine bodyPost_ret (v := .tuple #[.int .i64 1, .agg #[.int .i64 room, .slice (some ⟨bq, 0, none⟩) S.fs.length c, .bool down, .int .i64 falls, .bool fused, .int .i64 fuse, .int .i64 part]]) (by simp [results, Try.results23, go_sem, World.cell?_alloc_lt, hl5, q0, q1, q2, q3, q4, q5, q6]) rfl ⟨_, c, rfl, HH.out.mono ?_, ?_⟩
        all_goals refine Below.drew ?_
        all_goals refine Below.alloc ?_ (by simp <;> omega) _
        all_goals iterate 7 refine Below.setCell ?_ (by simp <;> omega) _
        all_goals exact HB5.out
end Go.Proofs.DK
