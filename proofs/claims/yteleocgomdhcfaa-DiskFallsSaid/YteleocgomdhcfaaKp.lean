/- Proved: what the document's 'Rename' comes to. Each theorem says its own conditions. -/
import Derived.Test.YteleocgomdhcfaaKo
set_option linter.unusedVariables false
set_option linter.unusedSimpArgs false
set_option linter.unusedSectionVars false
namespace Go.Proofs.DK
open Go.RowKit
variable [Okb]
theorem without_at {S : Ds} {p : Option Addr} {c : Nat} {n : List UInt8} {w w5 : World} (h : FsIn w w5 p S.fs) (hL : S.fs.length ≤ 1000) : Calls Try.prog 43 #[MV S (.slice p S.fs.length c), .string (bs n)] w5 fun e w'' => ∃ p c X, e = .returned (MV S (.slice p X.length c)) ∧ XAt w5.heap.size w'' (.slice p X.length c) X ∧ (∀ x ∈ X, Rd w x.2 x.1.b) ∧ X.map (·.1) = woF S.fs n ∧ Below w5.heap.size w5 w'' := c43 S p c n w w5 h hL
/-- 'with' behind 'without'. -/
theorem with_at {room : Int} {fs fs' : List Fl} {down : Bool} {falls : Int} {fused : Bool} {fuse part : Int} {p : Option Addr} {l c N : Nat} {X : List (Fl × Value)} {f : Fl} {pv : Option Addr} {lv cv : Nat} {w w7 : World} (hX : XAt N w7 (.slice p l c) X) (hr : ∀ x ∈ X, Rd w x.2 x.1.b) (hf : X.map (·.1) = fs') (hL : l ≤ 1000) (hv : Rd w (.slice pv lv cv) f.b) : Calls Try.prog 42 #[MV ⟨room, fs, down, falls, fused, fuse, part⟩ (.slice p l c), .agg #[.string (bs f.n), .slice pv lv cv, .int .i64 f.s]] w7 fun e w'' => ∃ p c X, e = .returned (MV ⟨room, fs, down, falls, fused, fuse, part⟩ (.slice p X.length c)) ∧ XAt w7.heap.size w'' (.slice p X.length c) X ∧ (∀ x ∈ X, Rd w x.2 x.1.b) ∧ X.map (·.1) = wiF fs' f ∧ Below w7.heap.size w7 w'' := by
  subst hf
  obtain ⟨h1, h2⟩ := XAt.files hX hr
  subst h2
  exact c42 ⟨room, X.map (·.1), down, falls, fused, fuse, part⟩ p c f pv lv cv w w7 h1 hL hv
def Ds.renameE (S : Ds) (n t : List UInt8) : Int := if S.how ≠ 0 then 9 else if ¬ named t then 1 else if lookF S.fs n = none then 8 else 0
set_option maxRecDepth 100000 in
set_option maxHeartbeats 4000000 in
theorem c25 (S : Ds) (p : Option Addr) (c : Nat) (n t : List UInt8) (w : World) (hF : Fine S) (h : FsAt w p S.fs) (ht : t.length ≤ 1000000) : Calls Try.prog 25 #[MV S (.slice p S.fs.length c), .string (bs n), .string (bs t)] w (DOut (S.renameE n t) (S.rename n t) w) := by
  have K := Lib.hid (c39 S p S.fs.length c (W2 S (.slice p S.fs.length c) w) hF.f0 hF.f1 hF.f2 hF.f3)
  have HT := Lib.hid (Two.at S (.slice p S.fs.length c) w)
  have HA := Lib.hid (W2.below S (.slice p S.fs.length c) w)
  have HS2 := Lib.hid (W2.size S (.slice p S.fs.length c) w)
  have HH := Lib.hid h
  have HFI := Lib.hid hF
  have hlen := hF.len
  have hb := begin_fs S
  have hhow := S.how_lt
  have hdef : S.rename n t = if S.how ≠ 0 then S.begin else if ¬ named t then S.begin else match lookF S.fs n with
    | none => S.begin
    | some f => { S.begin with fs := wiF (woF S.fs n) { f with n := t } } := rfl
  have hdefE : S.renameE n t = if S.how ≠ 0 then 9 else if ¬ named t then 1 else if lookF S.fs n = none then 8 else 0 := rfl
  rw [hdef, hdefE]
  clear hdef hdefE
  have hts : (bs t).size = t.length := by simp [bs, ByteArray.size]
  have K40 := Lib.hid (fun w' => c40 (bs t) w' (by omega))
  rw [hts] at K40
  generalize S.begin = T at *
  obtain ⟨room, fs, down, falls, fused, fuse, part⟩ := T
  simp only at hb
  subst hb
  clear h hF
  generalize S.how = hw at *
  have K31 := Lib.hid (fun m w' (hF : FsAt w' p S.fs) => c31 ⟨room, S.fs, down, falls, fused, fuse, part⟩ p c m w' hF (by show S.fs.length ≤ 1000; omega))
  unfold MV at K K31
  simp only at K K31
  unfold DOut
  rcases hhow with rfl | rfl | rfl
  · simp only [ne_eq, not_true_eq_false, if_false]
    by_cases hnt : named t
    · have ht1 : decide (1 ≤ t.length ∧ t.length ≤ 32) = true := decide_eq_true hnt
      rw [ht1] at K40
      simp only [hnt, not_true_eq_false, if_false]
      cases hlk : lookF S.fs n with
      | none =>
        rw [if_pos rfl]
        simp only [MV]
        go_enter Try.func25, Try.ntmps25
        go_wp2_with (fail)
        go_at_call 39; (refine K.out.mono ?_); rintro e w2 ⟨rfl, hB2⟩; have hsz := hB2.size; rw [HS2.out] at hsz; have hT2 := HT.out.keep (hB2.mono (by have := HS2.out; omega)); have y0 := cellof hT2.a 0; have y1 := cellof hT2.a 1; have y2 := cellof hT2.a 2; have y3 := cellof hT2.a 3; have y4 := cellof hT2.a 4; have y5 := cellof hT2.a 5; have y6 := cellof hT2.a 6; have fy := fun o => frozenof hT2.a o; simp only [List.getElem?_toArray, List.getElem?_cons_zero, List.getElem?_cons_succ] at y0 y1 y2 y3 y4 y5 y6; have HB2 := Lib.hid hB2; have HT2 := Lib.hid hT2; clear hB2 hT2
        iterate 20 first | go_values | go_skip | go_guarded | go_step | go_upon | go_in | go_back | (simp only [Int.not_lt, Int.not_le] at *; go_simp)
        have hT3 := HT2.out.put (S' := ⟨room, S.fs, down, falls, fused, fuse, part⟩) (v' := .slice p S.fs.length c)
        have hB3 := put7_below (N := w.heap.size) (S := ⟨room, S.fs, down, falls, fused, fuse, part⟩) (v := .slice p S.fs.length c) (b := w.heap.size) (HA.out.trans (HB2.out.mono (by have := HS2.out; omega))) (Nat.le_refl _)
        have hs7 := put7_size ⟨room, S.fs, down, falls, fused, fuse, part⟩ (.slice p S.fs.length c) w.heap.size w2
        change Code.wp _ _ _ _ (put7 ⟨room, S.fs, down, falls, fused, fuse, part⟩ (.slice p S.fs.length c) w.heap.size w2)
        obtain ⟨w3, hw3⟩ : ∃ w3, w3 = put7 ⟨room, S.fs, down, falls, fused, fuse, part⟩ (.slice p S.fs.length c) w.heap.size w2 := ⟨_, rfl⟩
        rw [← hw3] at hT3 hB3 hs7 ⊢
        rw [← hs7] at hsz
        clear hw3 hs7 y0 y1 y2 y3 y4 y5 y6 fy
        have y0 := cellof hT3.a 0; have y1 := cellof hT3.a 1; have y2 := cellof hT3.a 2; have y3 := cellof hT3.a 3; have y4 := cellof hT3.a 4; have y5 := cellof hT3.a 5; have y6 := cellof hT3.a 6; have q0 := cellof hT3.z 0; have q1 := cellof hT3.z 1; have q2 := cellof hT3.z 2; have q3 := cellof hT3.z 3; have q4 := cellof hT3.z 4; have q5 := cellof hT3.z 5; have q6 := cellof hT3.z 6; have fy := fun o => frozenof hT3.a o; have fq := fun o => frozenof hT3.z o; simp only [List.getElem?_toArray, List.getElem?_cons_zero, List.getElem?_cons_succ] at y0 y1 y2 y3 y4 y5 y6 q0 q1 q2 q3 q4 q5 q6
        have hl0 : w.heap.size < w3.heap.size := (by omega); have hn0 : w.heap.size ≠ w3.heap.size := (by omega); have hl1 : w.heap.size + 1 < w3.heap.size := (by omega); have hn1 : w.heap.size + 1 ≠ w3.heap.size := (by omega)
        have hF3 := HH.out.mono hB3
        have HT3 := Lib.hid hT3; have HB3 := Lib.hid hB3; have HF3 := Lib.hid hF3
        clear hT3 hB3 hF3
        go_wp2_with (first | (go_at_call 40; (with_reducible refine (K40.out _).mono ?_); rintro e w9 ⟨rfl, rfl⟩) | (go_at_call 31; (refine (K31.out n _ (by first | exact HF3.out | exact HF4.out)).mono ?_); rintro e w4 hfo; obtain ⟨hB4, rfl⟩ := find_none hlk hfo; have hT4 := HT3.out.keep (hB4.mono (by omega)); have hsz4 := hB4.size; have hl4 : w.heap.size < w4.heap.size := (by omega); have hn4 : w.heap.size ≠ w4.heap.size := (by omega); have hl5 : w.heap.size + 1 < w4.heap.size := (by omega); have hn5 : w.heap.size + 1 ≠ w4.heap.size := (by omega); clear y0 y1 y2 y3 y4 y5 y6 q0 q1 q2 q3 q4 q5 q6 fy fq; have y0 := cellof hT4.a 0; have y1 := cellof hT4.a 1; have y2 := cellof hT4.a 2; have y3 := cellof hT4.a 3; have y4 := cellof hT4.a 4; have y5 := cellof hT4.a 5; have y6 := cellof hT4.a 6; have q0 := cellof hT4.z 0; have q1 := cellof hT4.z 1; have q2 := cellof hT4.z 2; have q3 := cellof hT4.z 3; have q4 := cellof hT4.z 4; have q5 := cellof hT4.z 5; have q6 := cellof hT4.z 6; have fy := fun o => frozenof hT4.a o; have fq := fun o => frozenof hT4.z o; simp only [List.getElem?_toArray, List.getElem?_cons_zero, List.getElem?_cons_succ] at y0 y1 y2 y3 y4 y5 y6 q0 q1 q2 q3 q4 q5 q6; have hB5 : Below w.heap.size w w4 := HB3.out.trans (hB4.mono (by omega)); have hF4 := HH.out.mono hB5; have HT4 := Lib.hid hT4; have HB5 := Lib.hid hB5; have HF4 := Lib.hid hF4; clear hT4 hB4 hB5 hF4))
        go_region_held (fun w' => w'.cell? ⟨w.heap.size, 0, none⟩ = some (.int .i64 room) ∧ w'.cell? ⟨w.heap.size, 1, none⟩ = some (.slice p S.fs.length c) ∧ w'.cell? ⟨w.heap.size, 2, none⟩ = some (.bool down) ∧ w'.cell? ⟨w.heap.size, 3, none⟩ = some (.int .i64 falls) ∧ w'.cell? ⟨w.heap.size, 4, none⟩ = some (.bool fused) ∧ w'.cell? ⟨w.heap.size, 5, none⟩ = some (.int .i64 fuse) ∧ w'.cell? ⟨w.heap.size, 6, none⟩ = some (.int .i64 part)) (go_keep) (fail)
        all_goals go_wp2
        all_goals refine bodyPost_ret (v := .tuple #[.int .i64 8, .agg #[.int .i64 room, .slice p S.fs.length c, .bool down, .int .i64 falls, .bool fused, .int .i64 fuse, .int .i64 part]]) (by simp [results, Try.results25, go_sem, q0, q1, q2, q3, q4, q5, q6]) rfl ⟨p, c, rfl, HH.out.mono ?_, ?_⟩
        all_goals refine Below.drew ?_
        all_goals iterate 7 refine Below.setCell ?_ (by simp <;> omega) _
        all_goals exact HB5.out
      | some f =>
        rw [if_neg (by simp)]
        simp only [MV]
        obtain ⟨hfm, hfn⟩ := look_some hlk
        obtain ⟨j0, hj0⟩ := List.getElem?_of_mem hfm
        obtain ⟨bq, rfl, hbq, _⟩ := HH.out j0 f hj0
        clear hfm hfn hj0
        go_enter Try.func25, Try.ntmps25
        go_wp2_with (fail)
        go_at_call 39; (refine K.out.mono ?_); rintro e w2 ⟨rfl, hB2⟩; have hsz := hB2.size; rw [HS2.out] at hsz; have hT2 := HT.out.keep (hB2.mono (by have := HS2.out; omega)); have y0 := cellof hT2.a 0; have y1 := cellof hT2.a 1; have y2 := cellof hT2.a 2; have y3 := cellof hT2.a 3; have y4 := cellof hT2.a 4; have y5 := cellof hT2.a 5; have y6 := cellof hT2.a 6; have fy := fun o => frozenof hT2.a o; simp only [List.getElem?_toArray, List.getElem?_cons_zero, List.getElem?_cons_succ] at y0 y1 y2 y3 y4 y5 y6; have HB2 := Lib.hid hB2; have HT2 := Lib.hid hT2; clear hB2 hT2
        iterate 20 first | go_values | go_skip | go_guarded | go_step | go_upon | go_in | go_back | (simp only [Int.not_lt, Int.not_le] at *; go_simp)
        have hT3 := HT2.out.put (S' := ⟨room, S.fs, down, falls, fused, fuse, part⟩) (v' := .slice (some ⟨bq, 0, none⟩) S.fs.length c)
        have hB3 := put7_below (N := w.heap.size) (S := ⟨room, S.fs, down, falls, fused, fuse, part⟩) (v := .slice (some ⟨bq, 0, none⟩) S.fs.length c) (b := w.heap.size) (HA.out.trans (HB2.out.mono (by have := HS2.out; omega))) (Nat.le_refl _)
        have hs7 := put7_size ⟨room, S.fs, down, falls, fused, fuse, part⟩ (.slice (some ⟨bq, 0, none⟩) S.fs.length c) w.heap.size w2
        change Code.wp _ _ _ _ (put7 ⟨room, S.fs, down, falls, fused, fuse, part⟩ (.slice (some ⟨bq, 0, none⟩) S.fs.length c) w.heap.size w2)
        obtain ⟨w3, hw3⟩ : ∃ w3, w3 = put7 ⟨room, S.fs, down, falls, fused, fuse, part⟩ (.slice (some ⟨bq, 0, none⟩) S.fs.length c) w.heap.size w2 := ⟨_, rfl⟩
        rw [← hw3] at hT3 hB3 hs7 ⊢
        rw [← hs7] at hsz
        clear hw3 hs7 y0 y1 y2 y3 y4 y5 y6 fy
        have y0 := cellof hT3.a 0; have y1 := cellof hT3.a 1; have y2 := cellof hT3.a 2; have y3 := cellof hT3.a 3; have y4 := cellof hT3.a 4; have y5 := cellof hT3.a 5; have y6 := cellof hT3.a 6; have q0 := cellof hT3.z 0; have q1 := cellof hT3.z 1; have q2 := cellof hT3.z 2; have q3 := cellof hT3.z 3; have q4 := cellof hT3.z 4; have q5 := cellof hT3.z 5; have q6 := cellof hT3.z 6; have fy := fun o => frozenof hT3.a o; have fq := fun o => frozenof hT3.z o; simp only [List.getElem?_toArray, List.getElem?_cons_zero, List.getElem?_cons_succ] at y0 y1 y2 y3 y4 y5 y6 q0 q1 q2 q3 q4 q5 q6
        have hl0 : w.heap.size < w3.heap.size := (by omega); have hn0 : w.heap.size ≠ w3.heap.size := (by omega); have hl1 : w.heap.size + 1 < w3.heap.size := (by omega); have hn1 : w.heap.size + 1 ≠ w3.heap.size := (by omega)
        have hF3 := HH.out.mono hB3
        have HT3 := Lib.hid hT3; have HB3 := Lib.hid hB3; have HF3 := Lib.hid hF3
        clear hT3 hB3 hF3
        go_wp2_with (first | (go_at_call 40; (with_reducible refine (K40.out _).mono ?_); rintro e w9 ⟨rfl, rfl⟩) | (go_at_call 31; (refine (K31.out n _ (by first | exact HF3.out | exact HF4.out)).mono ?_); rintro e w4 hfo; obtain ⟨hB4, j, rfl, hj⟩ := find_some HFI.out.srt hlk hfo; have hT4 := HT3.out.keep (hB4.mono (by omega)); have hsz4 := hB4.size; have hl4 : w.heap.size < w4.heap.size := (by omega); have hn4 : w.heap.size ≠ w4.heap.size := (by omega); have hl5 : w.heap.size + 1 < w4.heap.size := (by omega); have hn5 : w.heap.size + 1 ≠ w4.heap.size := (by omega); clear y0 y1 y2 y3 y4 y5 y6 q0 q1 q2 q3 q4 q5 q6 fy fq; have y0 := cellof hT4.a 0; have y1 := cellof hT4.a 1; have y2 := cellof hT4.a 2; have y3 := cellof hT4.a 3; have y4 := cellof hT4.a 4; have y5 := cellof hT4.a 5; have y6 := cellof hT4.a 6; have q0 := cellof hT4.z 0; have q1 := cellof hT4.z 1; have q2 := cellof hT4.z 2; have q3 := cellof hT4.z 3; have q4 := cellof hT4.z 4; have q5 := cellof hT4.z 5; have q6 := cellof hT4.z 6; have fy := fun o => frozenof hT4.a o; have fq := fun o => frozenof hT4.z o; simp only [List.getElem?_toArray, List.getElem?_cons_zero, List.getElem?_cons_succ] at y0 y1 y2 y3 y4 y5 y6 q0 q1 q2 q3 q4 q5 q6; have hB5 : Below w.heap.size w w4 := HB3.out.trans (hB4.mono (by omega)); have hc := HH.out j f hj; obtain ⟨b', hp', hb', e0, ⟨v, e1, hv⟩, e2, _⟩ := hc; cases hp'; have HV := Lib.hid hv; obtain ⟨pv, cv, rfl, hcap, _⟩ := hv; have e0 := (hB5.cell (p := ⟨bq, _, none⟩) hb').trans e0; have e1 := (hB5.cell (p := ⟨bq, _, none⟩) hb').trans e1; have e2 := (hB5.cell (p := ⟨bq, _, none⟩) hb').trans e2; have hjl : j < S.fs.length := (List.getElem?_eq_some_iff.1 hj).1; have hbl : bq < w4.heap.size := (by omega); have hbn : bq ≠ w4.heap.size := (by omega); have hF4 := HH.out.mono hB5; have HT4 := Lib.hid hT4; have HB5 := Lib.hid hB5; have HF4 := Lib.hid hF4; clear hT4 hB4 hB5 hF4 hj))
        change Code.wp _ _ _ _ (w4.alloc (bf ⟨t, f.b, f.s⟩ (.slice pv f.b.length cv)))
        obtain ⟨w5, hw5⟩ : ∃ w5, w5 = w4.alloc (bf ⟨t, f.b, f.s⟩ (.slice pv f.b.length cv)) := ⟨_, rfl⟩
        have hg : w5.heap[w4.heap.size]? = some (bf ⟨t, f.b, f.s⟩ (.slice pv f.b.length cv)) := by rw [hw5]; exact heap_alloc_new w4 _
        have hB45 : Below w4.heap.size w4 w5 := by rw [hw5]; exact (Below.refl _ _).alloc (Nat.le_refl _) _
        have hs5 : w5.heap.size = w4.heap.size + 1 := by rw [hw5, World.size_alloc]
        have hsz4 : w.heap.size + 2 ≤ w4.heap.size := by omega
        have HL5 := Lib.hid (show w4.heap.size < w5.heap.size by omega)
        rw [← hw5]
        clear hw5
        have hT5 := HT4.out.keep (hB45.mono hsz4)
        clear y0 y1 y2 y3 y4 y5 y6 q0 q1 q2 q3 q4 q5 q6 fy fq
        have y0 := cellof hT5.a 0; have y1 := cellof hT5.a 1; have y2 := cellof hT5.a 2; have y3 := cellof hT5.a 3; have y4 := cellof hT5.a 4; have y5 := cellof hT5.a 5; have y6 := cellof hT5.a 6; have q0 := cellof hT5.z 0; have q1 := cellof hT5.z 1; have q2 := cellof hT5.z 2; have q3 := cellof hT5.z 3; have q4 := cellof hT5.z 4; have q5 := cellof hT5.z 5; have q6 := cellof hT5.z 6; have fy := fun o => frozenof hT5.a o; have fq := fun o => frozenof hT5.z o; simp only [List.getElem?_toArray, List.getElem?_cons_zero, List.getElem?_cons_succ] at y0 y1 y2 y3 y4 y5 y6 q0 q1 q2 q3 q4 q5 q6
        have g0 := cellof hg 0; have g1 := cellof hg 1; have g2 := cellof hg 2
        simp only [List.getElem?_toArray, List.getElem?_cons_zero, List.getElem?_cons_succ] at g0 g1 g2
        have G0 := Lib.hid g0; have G1 := Lib.hid g1; have G2 := Lib.hid g2
        have hB6 : Below w.heap.size w w5 := HB5.out.trans (hB45.mono (by omega))
        have HK43 := Lib.hid (without_at (S := ⟨room, S.fs, down, falls, fused, fuse, part⟩) (p := (some ⟨bq, 0, none⟩)) (c := c) (n := n) (w5 := w5.drew) (HH.out.inn.mono hB6.drew) (by show S.fs.length ≤ 1000; omega))
        unfold MV at HK43
        simp only at HK43
        have HT5 := Lib.hid hT5; have HB6 := Lib.hid hB6
        have hne4 : w4.heap.size ≠ w.heap.size + 1 := by omega
        have hne5 : w.heap.size + 1 ≠ w4.heap.size := by omega
        clear hT5 hB6 hB45 hg
        refine wp_region_held_drew (S := (fun w' => w'.cell? ⟨w.heap.size, 0, none⟩ = some (.int .i64 room) ∧ w'.cell? ⟨w.heap.size, 1, none⟩ = some (.slice (some ⟨bq, 0, none⟩) S.fs.length c) ∧ w'.cell? ⟨w.heap.size, 2, none⟩ = some (.bool down) ∧ w'.cell? ⟨w.heap.size, 3, none⟩ = some (.int .i64 falls) ∧ w'.cell? ⟨w.heap.size, 4, none⟩ = some (.bool fused) ∧ w'.cell? ⟨w.heap.size, 5, none⟩ = some (.int .i64 fuse) ∧ w'.cell? ⟨w.heap.size, 6, none⟩ = some (.int .i64 part) ∧ w'.cell? ⟨w4.heap.size, 0, none⟩ = some (.string (bs t)) ∧ w'.cell? ⟨w4.heap.size, 1, none⟩ = some (.slice pv f.b.length cv) ∧ w'.cell? ⟨w4.heap.size, 2, none⟩ = some (.int .i64 f.s))) (by kernel_rfl) ?_ (fun hHeld => ?_)
        · (try dsimp only)
          go_keep
        refine wpAnyH_take (i := 0) (oi := { dst := some 36, op := Op.load 31 (Operand.tmp 3), type := 31, pos := "ref.go:154", after := #[], guard := none }) (v := ?_) rfl (by kernel_rfl) (by kernel_rfl) (by kernel_rfl) (fun _ _ _ h => h) (Or.inl ⟨by rfl, ?_⟩) hHeld ?_
        rotate_left
        · intro w' hSw
          (try dsimp only at hSw)
          go_simp
          all_goals with_reducible rfl
        try simp only [Act.put, List.setIfInBounds_toArray, List.set_cons_zero, List.set_cons_succ]
        refine wpAnyH_take (i := 1) (oi := { dst := some 37, op := Op.move (Operand.tmp 1), type := 9, pos := "ref.go:154", after := #[], guard := none }) (v := ?_) rfl (by kernel_rfl) (by kernel_rfl) (by kernel_rfl) (fun _ _ _ h => h) (Or.inl ⟨by rfl, ?_⟩) hHeld ?_
        rotate_left
        · intro w' hSw
          (try dsimp only at hSw)
          go_simp
          all_goals with_reducible rfl
        try simp only [Act.put, List.setIfInBounds_toArray, List.set_cons_zero, List.set_cons_succ]
        refine wpAnyH_take (i := 3) (oi := { dst := some 39, op := Op.load 43 (Operand.tmp 10), type := 43, pos := "ref.go:154", after := #[], guard := none }) (v := ?_) rfl (by kernel_rfl) (by kernel_rfl) (by kernel_rfl) (fun _ _ _ h => h) (Or.inl ⟨by rfl, ?_⟩) hHeld ?_
        rotate_left
        · intro w' hSw
          (try dsimp only at hSw)
          go_simp
          all_goals with_reducible rfl
        try simp only [Act.put, List.setIfInBounds_toArray, List.set_cons_zero, List.set_cons_succ]
        refine wpAnyH_ready (rs := [2]) (by kernel_rfl) (by simp) ?_
        refine AllReadyH.cons (o := { dst := some 38, op := Op.call { callee := Callee.value (Operand.func 43), args := #[Operand.tmp 36, Operand.tmp 37], argTypes := #[31, 9] }, type := 31, pos := "ref.go:154", after := #[{ on := 0, ground := Ground.data }, { on := 1, ground := Ground.data }], guard := none }) rfl (fun K hK => ?_) AllReadyH.nil
        go_simp
        go_at_call 43; (refine HK43.out.mono ?_); rintro e w7 ⟨p7, c7, X7, rfl, hX7, hrd7, hXf7, hB7⟩; have hB7 : Below w5.heap.size w5 w7 := (Below.refl _ w5).drew.trans hB7; clear y0 y1 y2 y3 y4 y5 y6 q0 q1 q2 q3 q4 q5 q6 g0 g1 g2 fy fq; have hT9 := HT5.out.keep (hB7.mono (by omega)); have y0 := cellof hT9.a 0; have y1 := cellof hT9.a 1; have y2 := cellof hT9.a 2; have y3 := cellof hT9.a 3; have y4 := cellof hT9.a 4; have y5 := cellof hT9.a 5; have y6 := cellof hT9.a 6; have q0 := cellof hT9.z 0; have q1 := cellof hT9.z 1; have q2 := cellof hT9.z 2; have q3 := cellof hT9.z 3; have q4 := cellof hT9.z 4; have q5 := cellof hT9.z 5; have q6 := cellof hT9.z 6; have fy := fun o => frozenof hT9.a o; have fq := fun o => frozenof hT9.z o; simp only [List.getElem?_toArray, List.getElem?_cons_zero, List.getElem?_cons_succ] at y0 y1 y2 y3 y4 y5 y6 q0 q1 q2 q3 q4 q5 q6; have g0 := (hB7.cell (p := ⟨w4.heap.size, 0, none⟩) HL5.out).trans G0.out; have g1 := (hB7.cell (p := ⟨w4.heap.size, 1, none⟩) HL5.out).trans G1.out; have g2 := (hB7.cell (p := ⟨w4.heap.size, 2, none⟩) HL5.out).trans G2.out; have hs9 := hB7.size; clear hT9; have hs7 := hB7.size; have hXl7 : X7.length ≤ 1000 := (by have h1 := congrArg List.length hXf7; rw [List.length_map] at h1; have h2 := wo_len S.fs n; omega); have K42 := with_at (room := room) (fs := S.fs) (down := down) (falls := falls) (fused := fused) (fuse := fuse) (part := part) (f := ⟨t, f.b, f.s⟩) hX7 hrd7 hXf7 hXl7 HV.out; unfold MV at K42; simp only at K42; have HK42 := Lib.hid K42; have HB7 := Lib.hid hB7; clear K42 hX7 hrd7 hXf7 hB7; generalize X7.length = l7 at *
        go_wp2_with fail
        refine hK.out _ _ ?_ (fun hHeld2 => ?_)
        · (try dsimp only)
          first
            | go_keep
            | (rw [World.cell?_setCell_other]; (· assumption); (· simp))
        clear hK K hHeld
        have hHeld := hHeld2
        clear hHeld2
        try simp only [Act.put, List.setIfInBounds_toArray, List.set_cons_zero, List.set_cons_succ]
        refine wpAnyH_ready (rs := [4]) (by kernel_rfl) (by simp) ?_
        refine AllReadyH.cons (o := { dst := some 40, op := Op.call { callee := Callee.value (Operand.func 42), args := #[Operand.tmp 38, Operand.tmp 39], argTypes := #[31, 43] }, type := 31, pos := "ref.go:154", after := #[{ on := 2, ground := Ground.data }, { on := 3, ground := Ground.data }, { on := 2, ground := Ground.chain }], guard := none }) rfl (fun K hK => ?_) AllReadyH.nil
        go_simp
        go_at_call 42; (refine HK42.out.mono ?_); rintro e w8 ⟨p8, c8, X, rfl, hX8, hrd8, hXf8, hB8⟩; have hB9 := HB7.out.trans (hB8.mono hs7); clear y0 y1 y2 y3 y4 y5 y6 q0 q1 q2 q3 q4 q5 q6 g0 g1 g2 fy fq; have hT9 := HT5.out.keep (hB9.mono (by omega)); have y0 := cellof hT9.a 0; have y1 := cellof hT9.a 1; have y2 := cellof hT9.a 2; have y3 := cellof hT9.a 3; have y4 := cellof hT9.a 4; have y5 := cellof hT9.a 5; have y6 := cellof hT9.a 6; have q0 := cellof hT9.z 0; have q1 := cellof hT9.z 1; have q2 := cellof hT9.z 2; have q3 := cellof hT9.z 3; have q4 := cellof hT9.z 4; have q5 := cellof hT9.z 5; have q6 := cellof hT9.z 6; have fy := fun o => frozenof hT9.a o; have fq := fun o => frozenof hT9.z o; simp only [List.getElem?_toArray, List.getElem?_cons_zero, List.getElem?_cons_succ] at y0 y1 y2 y3 y4 y5 y6 q0 q1 q2 q3 q4 q5 q6; have g0 := (hB9.cell (p := ⟨w4.heap.size, 0, none⟩) HL5.out).trans G0.out; have g1 := (hB9.cell (p := ⟨w4.heap.size, 1, none⟩) HL5.out).trans G1.out; have g2 := (hB9.cell (p := ⟨w4.heap.size, 2, none⟩) HL5.out).trans G2.out; have hs9 := hB9.size; clear hT9; have HX7 := Lib.hid (show XAt w5.heap.size w8 (.slice p8 X.length c8) X from own_base hX8 hs7); have HRD7 := Lib.hid hrd8; have HXF7 := Lib.hid hXf8; have hB10 : Below w.heap.size w w8 := HB6.out.trans (hB9.mono (by omega)); have HB8 := Lib.hid hB10; clear hX8 hrd8 hXf8 hB8 hB9 hB10; generalize hXl : X.length = xl at *; have HXL := Lib.hid hXl; clear hXl
        go_wp2_with fail
        refine hK.out _ _ ?_ (fun hHeld2 => ?_)
        · (try dsimp only)
          first
            | go_keep
            | (rw [World.cell?_setCell_other]; (· assumption); (· simp))
        clear hK K hHeld
        have hHeld := hHeld2
        clear hHeld2
        try simp only [Act.put, List.setIfInBounds_toArray, List.set_cons_zero, List.set_cons_succ]
        refine wpAnyH_take (i := 5) (oi := { dst := some 6, op := Op.assign (Operand.const (Value.int IntKind.i64 0)), type := 3, pos := "ref.go:154", after := #[{ on := 4, ground := Ground.chain }, { on := 0, ground := Ground.textOnly Departure.lateStores }, { on := 1, ground := Ground.textOnly Departure.lateStores }, { on := 2, ground := Ground.textOnly Departure.lateStoresUnsure }, { on := 3, ground := Ground.textOnly Departure.lateStores }, { on := 4, ground := Ground.textOnly Departure.lateStoresUnsure }], guard := none }) (v := ?_) rfl (by kernel_rfl) (by kernel_rfl) (by kernel_rfl) (fun _ _ _ h => h) (Or.inl ⟨by rfl, ?_⟩) hHeld ?_
        rotate_left
        · intro w' hSw
          (try dsimp only at hSw)
          go_simp
          all_goals with_reducible rfl
        try simp only [Act.put, List.setIfInBounds_toArray, List.set_cons_zero, List.set_cons_succ]
        refine wpAnyH_ready (rs := [6]) (by kernel_rfl) (by simp) ?_
        refine AllReadyH.cons (o := { dst := none, op := Op.store 31 (Operand.tmp 7) (Operand.tmp 40), type := 0, pos := "ref.go:154", after := #[{ on := 4, ground := Ground.data }, { on := 5, ground := Ground.chain }, { on := 0, ground := Ground.phase }, { on := 1, ground := Ground.phase }, { on := 2, ground := Ground.phase }, { on := 3, ground := Ground.phase }, { on := 4, ground := Ground.phase }, { on := 5, ground := Ground.phase }], guard := none }) rfl (fun K hK => ?_) AllReadyH.nil
        go_simp
        skip
        go_wp2_with fail
        refine hK.out _ _ ?_ (fun hHeld2 => ?_)
        · (try dsimp only)
          first
            | go_keep
            | (rw [World.cell?_setCell_other]; (· assumption); (· simp))
        clear hK K hHeld
        have hHeld := hHeld2
        clear hHeld2
        try simp only [Act.put, List.setIfInBounds_toArray, List.set_cons_zero, List.set_cons_succ]
        refine wpAnyH_done (by kernel_rfl) ?_ _
        go_wp2
        refine bodyPost_ret (v := .tuple #[.int .i64 0, .agg #[.int .i64 room, .slice p8 xl c8, .bool down, .int .i64 falls, .bool fused, .int .i64 fuse, .int .i64 part]]) (by simp [results, Try.results25, go_sem, q0, q1, q2, q3, q4, q5, q6]) rfl ⟨p8, c8, ?_, ?_, ?_⟩
        · rw [← HXF7.out, List.length_map, HXL.out]
        · rw [← HXF7.out]
          refine XAt.out (w := w) (l := xl) (c := c8) ?_ HRD7.out ?_
          · iterate 7 refine ownsRow_setCell_below ?_ (by simp <;> omega) _
            exact own_base HX7.out (by omega)
          · iterate 7 refine Below.setCell ?_ (by simp <;> omega) _
            exact HB8.out
        · iterate 7 refine Below.setCell ?_ (by simp <;> omega) _
          exact HB8.out
    · have ht1 : decide (1 ≤ t.length ∧ t.length ≤ 32) = false := decide_eq_false hnt
      rw [ht1] at K40
      simp only [hnt, not_false_eq_true, if_true]
      simp only [MV]
      go_enter Try.func25, Try.ntmps25
      go_wp2_with (fail)
      go_at_call 39; (refine K.out.mono ?_); rintro e w2 ⟨rfl, hB2⟩; have hsz := hB2.size; rw [HS2.out] at hsz; have hT2 := HT.out.keep (hB2.mono (by have := HS2.out; omega)); have y0 := cellof hT2.a 0; have y1 := cellof hT2.a 1; have y2 := cellof hT2.a 2; have y3 := cellof hT2.a 3; have y4 := cellof hT2.a 4; have y5 := cellof hT2.a 5; have y6 := cellof hT2.a 6; have fy := fun o => frozenof hT2.a o; simp only [List.getElem?_toArray, List.getElem?_cons_zero, List.getElem?_cons_succ] at y0 y1 y2 y3 y4 y5 y6; have HB2 := Lib.hid hB2; have HT2 := Lib.hid hT2; clear hB2 hT2
      iterate 20 first | go_values | go_skip | go_guarded | go_step | go_upon | go_in | go_back | (simp only [Int.not_lt, Int.not_le] at *; go_simp)
      have hT3 := HT2.out.put (S' := ⟨room, S.fs, down, falls, fused, fuse, part⟩) (v' := .slice p S.fs.length c)
      have hB3 := put7_below (N := w.heap.size) (S := ⟨room, S.fs, down, falls, fused, fuse, part⟩) (v := .slice p S.fs.length c) (b := w.heap.size) (HA.out.trans (HB2.out.mono (by have := HS2.out; omega))) (Nat.le_refl _)
      have hs7 := put7_size ⟨room, S.fs, down, falls, fused, fuse, part⟩ (.slice p S.fs.length c) w.heap.size w2
      change Code.wp _ _ _ _ (put7 ⟨room, S.fs, down, falls, fused, fuse, part⟩ (.slice p S.fs.length c) w.heap.size w2)
      obtain ⟨w3, hw3⟩ : ∃ w3, w3 = put7 ⟨room, S.fs, down, falls, fused, fuse, part⟩ (.slice p S.fs.length c) w.heap.size w2 := ⟨_, rfl⟩
      rw [← hw3] at hT3 hB3 hs7 ⊢
      rw [← hs7] at hsz
      clear hw3 hs7 y0 y1 y2 y3 y4 y5 y6 fy
      have y0 := cellof hT3.a 0; have y1 := cellof hT3.a 1; have y2 := cellof hT3.a 2; have y3 := cellof hT3.a 3; have y4 := cellof hT3.a 4; have y5 := cellof hT3.a 5; have y6 := cellof hT3.a 6; have q0 := cellof hT3.z 0; have q1 := cellof hT3.z 1; have q2 := cellof hT3.z 2; have q3 := cellof hT3.z 3; have q4 := cellof hT3.z 4; have q5 := cellof hT3.z 5; have q6 := cellof hT3.z 6; have fy := fun o => frozenof hT3.a o; have fq := fun o => frozenof hT3.z o; simp only [List.getElem?_toArray, List.getElem?_cons_zero, List.getElem?_cons_succ] at y0 y1 y2 y3 y4 y5 y6 q0 q1 q2 q3 q4 q5 q6
      have hl0 : w.heap.size < w3.heap.size := (by omega); have hn0 : w.heap.size ≠ w3.heap.size := (by omega); have hl1 : w.heap.size + 1 < w3.heap.size := (by omega); have hn1 : w.heap.size + 1 ≠ w3.heap.size := (by omega)
      have hF3 := HH.out.mono hB3
      have HT3 := Lib.hid hT3; have HB3 := Lib.hid hB3; have HF3 := Lib.hid hF3
      clear hT3 hB3 hF3
      go_wp2_with (go_at_call 40; (with_reducible refine (K40.out _).mono ?_); rintro e w9 ⟨rfl, rfl⟩)
      go_region_held (fun w' => w'.cell? ⟨w.heap.size, 0, none⟩ = some (.int .i64 room) ∧ w'.cell? ⟨w.heap.size, 1, none⟩ = some (.slice p S.fs.length c) ∧ w'.cell? ⟨w.heap.size, 2, none⟩ = some (.bool down) ∧ w'.cell? ⟨w.heap.size, 3, none⟩ = some (.int .i64 falls) ∧ w'.cell? ⟨w.heap.size, 4, none⟩ = some (.bool fused) ∧ w'.cell? ⟨w.heap.size, 5, none⟩ = some (.int .i64 fuse) ∧ w'.cell? ⟨w.heap.size, 6, none⟩ = some (.int .i64 part)) (go_keep) (fail)
      all_goals go_wp2
      all_goals refine bodyPost_ret (v := .tuple #[.int .i64 1, .agg #[.int .i64 room, .slice p S.fs.length c, .bool down, .int .i64 falls, .bool fused, .int .i64 fuse, .int .i64 part]]) (by simp [results, Try.results25, go_sem, q0, q1, q2, q3, q4, q5, q6]) rfl ⟨p, c, rfl, HH.out.mono ?_, ?_⟩
      all_goals refine Below.drew ?_
      all_goals iterate 7 refine Below.setCell ?_ (by simp <;> omega) _
      all_goals exact HB3.out
  all_goals
    rw [if_pos (by decide), if_pos (by decide)]
    simp only [MV]
    go_enter Try.func25, Try.ntmps25
    go_wp2_with (fail)
    go_at_call 39; (refine K.out.mono ?_); rintro e w2 ⟨rfl, hB2⟩; have hsz := hB2.size; rw [HS2.out] at hsz; have hT2 := HT.out.keep (hB2.mono (by have := HS2.out; omega)); have y0 := cellof hT2.a 0; have y1 := cellof hT2.a 1; have y2 := cellof hT2.a 2; have y3 := cellof hT2.a 3; have y4 := cellof hT2.a 4; have y5 := cellof hT2.a 5; have y6 := cellof hT2.a 6; have fy := fun o => frozenof hT2.a o; simp only [List.getElem?_toArray, List.getElem?_cons_zero, List.getElem?_cons_succ] at y0 y1 y2 y3 y4 y5 y6; have HB2 := Lib.hid hB2; have HT2 := Lib.hid hT2; clear hB2 hT2
    iterate 20 first | go_values | go_skip | go_guarded | go_step | go_upon | go_in | go_back | (simp only [Int.not_lt, Int.not_le] at *; go_simp)
    have hT3 := HT2.out.put (S' := ⟨room, S.fs, down, falls, fused, fuse, part⟩) (v' := .slice p S.fs.length c)
    have hB3 := put7_below (N := w.heap.size) (S := ⟨room, S.fs, down, falls, fused, fuse, part⟩) (v := .slice p S.fs.length c) (b := w.heap.size) (HA.out.trans (HB2.out.mono (by have := HS2.out; omega))) (Nat.le_refl _)
    have hs7 := put7_size ⟨room, S.fs, down, falls, fused, fuse, part⟩ (.slice p S.fs.length c) w.heap.size w2
    change Code.wp _ _ _ _ (put7 ⟨room, S.fs, down, falls, fused, fuse, part⟩ (.slice p S.fs.length c) w.heap.size w2)
    obtain ⟨w3, hw3⟩ : ∃ w3, w3 = put7 ⟨room, S.fs, down, falls, fused, fuse, part⟩ (.slice p S.fs.length c) w.heap.size w2 := ⟨_, rfl⟩
    rw [← hw3] at hT3 hB3 hs7 ⊢
    rw [← hs7] at hsz
    clear hw3 hs7 y0 y1 y2 y3 y4 y5 y6 fy
    have y0 := cellof hT3.a 0; have y1 := cellof hT3.a 1; have y2 := cellof hT3.a 2; have y3 := cellof hT3.a 3; have y4 := cellof hT3.a 4; have y5 := cellof hT3.a 5; have y6 := cellof hT3.a 6; have q0 := cellof hT3.z 0; have q1 := cellof hT3.z 1; have q2 := cellof hT3.z 2; have q3 := cellof hT3.z 3; have q4 := cellof hT3.z 4; have q5 := cellof hT3.z 5; have q6 := cellof hT3.z 6; have fy := fun o => frozenof hT3.a o; have fq := fun o => frozenof hT3.z o; simp only [List.getElem?_toArray, List.getElem?_cons_zero, List.getElem?_cons_succ] at y0 y1 y2 y3 y4 y5 y6 q0 q1 q2 q3 q4 q5 q6
    have hl0 : w.heap.size < w3.heap.size := (by omega); have hn0 : w.heap.size ≠ w3.heap.size := (by omega); have hl1 : w.heap.size + 1 < w3.heap.size := (by omega); have hn1 : w.heap.size + 1 ≠ w3.heap.size := (by omega)
    have hF3 := HH.out.mono hB3
    have HT3 := Lib.hid hT3; have HB3 := Lib.hid hB3; have HF3 := Lib.hid hF3
    clear hT3 hB3 hF3
    go_wp2
    go_region_held (fun w' => w'.cell? ⟨w.heap.size, 0, none⟩ = some (.int .i64 room) ∧ w'.cell? ⟨w.heap.size, 1, none⟩ = some (.slice p S.fs.length c) ∧ w'.cell? ⟨w.heap.size, 2, none⟩ = some (.bool down) ∧ w'.cell? ⟨w.heap.size, 3, none⟩ = some (.int .i64 falls) ∧ w'.cell? ⟨w.heap.size, 4, none⟩ = some (.bool fused) ∧ w'.cell? ⟨w.heap.size, 5, none⟩ = some (.int .i64 fuse) ∧ w'.cell? ⟨w.heap.size, 6, none⟩ = some (.int .i64 part)) (go_keep) (fail)
    all_goals go_wp2
    all_goals refine bodyPost_ret (v := .tuple #[.int .i64 9, .agg #[.int .i64 room, .slice p S.fs.length c, .bool down, .int .i64 falls, .bool fused, .int .i64 fuse, .int .i64 part]]) (by simp [results, Try.results25, go_sem, q0, q1, q2, q3, q4, q5, q6]) rfl ⟨p, c, rfl, HH.out.mono ?_, ?_⟩
    all_goals refine Below.drew ?_
    all_goals iterate 7 refine Below.setCell ?_ (by simp <;> omega) _
    all_goals exact HB3.out
end Go.Proofs.DK
