/- Proved: what the document's 'Sync' comes to. Each theorem says its own conditions. -/
import Derived.Test.YteleocgomdhcfaaKm
set_option linter.unusedVariables false
set_option linter.unusedSimpArgs false
set_option linter.unusedSectionVars false
namespace Go.Proofs.DK
open Go.RowKit
variable [Okb]
theorem min_cast (a b : Nat) : ((min a b : Nat) : Int) = min (a : Int) (b : Int) := by omega
theorem with_from {S : Ds} {p : Option Addr} {c : Nat} {f : Fl} {pv : Option Addr} {lv cv : Nat} {w w4 : World} (h : FsIn w w4 p S.fs) (hL : S.fs.length ≤ 1000) (hv : Rd w (.slice pv lv cv) f.b) : ∀ w', Below w4.heap.size w4 w' → Calls Try.prog 42 #[MV S (.slice p S.fs.length c), .agg #[.string (bs f.n), .slice pv lv cv, .int .i64 f.s]] w' fun e w'' => ∃ p c X, e = .returned (MV S (.slice p X.length c)) ∧ XAt w4.heap.size w'' (.slice p X.length c) X ∧ (∀ x ∈ X, Rd w x.2 x.1.b) ∧ X.map (·.1) = wiF S.fs f ∧ Below w4.heap.size w4 w'' := fun w' hB => by
  refine (c42 S p c f pv lv cv w w' (h.mono hB) hL hv).mono ?_
  rintro e w'' ⟨p', c', X, rfl, h1, h2, h3, h4⟩
  exact ⟨p', c', X, rfl, own_base h1 hB.size, h2, h3, hB.trans (h4.mono hB.size)⟩
/-- Bytes that are cut can be read. -/
theorem Rd.take {W : World} {pv : Option Addr} {l c k : Nat} {bl : List UInt8} (h : Rd W (.slice pv l c) bl) (hk : k ≤ bl.length) : Rd W (.slice pv k c) (bl.take k) := by
  obtain ⟨p, c', hv, hl, h⟩ := h
  cases hv
  refine ⟨pv, c, by rw [List.length_take, Nat.min_eq_left hk], by rw [List.length_take]; omega, fun j x hx => ?_⟩
  rw [List.getElem?_take] at hx
  split at hx
  · exact h j x hx
  · cases hx
def Ds.syncE (S : Ds) (n : List UInt8) : Int := if S.how ≠ 0 then 9 else if lookF S.fs n = none then 8 else 0
set_option maxRecDepth 100000 in
set_option maxHeartbeats 4000000 in
theorem c24 (S : Ds) (p : Option Addr) (c : Nat) (n : List UInt8) (w : World) (hF : Fine S) (h : FsAt w p S.fs) : Calls Try.prog 24 #[MV S (.slice p S.fs.length c), .string (bs n)] w (DOut (S.syncE n) (S.sync n) w) := by
  have K := Lib.hid (c39 S p S.fs.length c (W2 S (.slice p S.fs.length c) w) hF.f0 hF.f1 hF.f2 hF.f3)
  have HT := Lib.hid (Two.at S (.slice p S.fs.length c) w)
  have HA := Lib.hid (W2.below S (.slice p S.fs.length c) w)
  have HS2 := Lib.hid (W2.size S (.slice p S.fs.length c) w)
  have HH := Lib.hid h
  have HFI := Lib.hid hF
  have hlen := hF.len
  have hb := begin_fs S
  have hhow := S.how_lt
  have hdef : S.sync n = if S.how ≠ 0 then S.begin else match lookF S.fs n with
    | none => S.begin
    | some f => { S.begin with fs := wiF S.fs { f with s := f.b.length } } := rfl
  have hdefE : S.syncE n = if S.how ≠ 0 then 9 else if lookF S.fs n = none then 8 else 0 := rfl
  rw [hdef, hdefE]
  clear hdef hdefE
  generalize S.begin = T at *
  obtain ⟨room, fs, down, falls, fused, fuse, part⟩ := T
  simp only at hb
  subst hb
  clear h hF
  generalize S.how = hw at *
  have K31 := Lib.hid (fun m w' (hF : FsAt w' p S.fs) => c31 ⟨room, S.fs, down, falls, fused, fuse, part⟩ p c m w' hF (by show S.fs.length ≤ 1000; omega))
  unfold MV at K K31
  simp only at K K31
  unfold DOut
  rcases hhow with rfl | rfl | rfl
  · simp only [ne_eq, not_true_eq_false, if_false]
    cases hlk : lookF S.fs n with
    | none =>
      rw [if_pos rfl]
      simp only [MV]
      go_enter Try.func24, Try.ntmps24
      go_wp2_with (fail)
      go_at_call 39; (refine K.out.mono ?_); rintro e w2 ⟨rfl, hB2⟩; have hsz := hB2.size; rw [HS2.out] at hsz; have hT2 := HT.out.keep (hB2.mono (by have := HS2.out; omega)); have y0 := cellof hT2.a 0; have y1 := cellof hT2.a 1; have y2 := cellof hT2.a 2; have y3 := cellof hT2.a 3; have y4 := cellof hT2.a 4; have y5 := cellof hT2.a 5; have y6 := cellof hT2.a 6; have fy := fun o => frozenof hT2.a o; simp only [List.getElem?_toArray, List.getElem?_cons_zero, List.getElem?_cons_succ] at y0 y1 y2 y3 y4 y5 y6; have HB2 := Lib.hid hB2; have HT2 := Lib.hid hT2; clear hB2 hT2
      iterate 20 first | go_values | go_skip | go_guarded | go_step | go_upon | go_in | go_back | (simp only [Int.not_lt, Int.not_le] at *; go_simp)
      have hT3 := HT2.out.put (S' := ⟨room, S.fs, down, falls, fused, fuse, part⟩) (v' := .slice p S.fs.length c)
      have hB3 := put7_below (N := w.heap.size) (S := ⟨room, S.fs, down, falls, fused, fuse, part⟩) (v := .slice p S.fs.length c) (b := w.heap.size) (HA.out.trans (HB2.out.mono (by have := HS2.out; omega))) (Nat.le_refl _)
      have hs7 := put7_size ⟨room, S.fs, down, falls, fused, fuse, part⟩ (.slice p S.fs.length c) w.heap.size w2
      change Code.wp _ _ _ _ (put7 ⟨room, S.fs, down, falls, fused, fuse, part⟩ (.slice p S.fs.length c) w.heap.size w2)
      obtain ⟨w3, hw3⟩ : ∃ w3, w3 = put7 ⟨room, S.fs, down, falls, fused, fuse, part⟩ (.slice p S.fs.length c) w.heap.size w2 := ⟨_, rfl⟩
      rw [← hw3] at hT3 hB3 hs7 ⊢
      rw [← hs7] at hsz
      clear hw3 hs7 y0 y1 y2 y3 y4 y5 y6 fy
      have y0 := cellof hT3.a 0; have y1 := cellof hT3.a 1; have y2 := cellof hT3.a 2; have y3 := cellof hT3.a 3; have y4 := cellof hT3.a 4; have y5 := cellof hT3.a 5; have y6 := cellof hT3.a 6; have q0 := cellof hT3.z 0; have q1 := cellof hT3.z 1; have q2 := cellof hT3.z 2; have q3 := cellof hT3.z 3; have q4 := cellof hT3.z 4; have q5 := cellof hT3.z 5; have q6 := cellof hT3.z 6; have fy := fun o => frozenof hT3.a o; have fq := fun o => frozenof hT3.z o; simp only [List.getElem?_toArray, List.getElem?_cons_zero, List.getElem?_cons_succ] at y0 y1 y2 y3 y4 y5 y6 q0 q1 q2 q3 q4 q5 q6
      have hl0 : w.heap.size < w3.heap.size := (by omega); have hn0 : w.heap.size ≠ w3.heap.size := (by omega); have hl1 : w.heap.size + 1 < w3.heap.size := (by omega); have hn1 : w.heap.size + 1 ≠ w3.heap.size := (by omega)
      have hF3 := HH.out.mono hB3
      have HT3 := Lib.hid hT3; have HB3 := Lib.hid hB3; have HF3 := Lib.hid hF3
      clear hT3 hB3 hF3
      go_wp2_with (go_at_call 31; (refine (K31.out n _ (by first | exact HF3.out | exact HF4.out)).mono ?_); rintro e w4 hfo; obtain ⟨hB4, rfl⟩ := find_none hlk hfo; have hT4 := HT3.out.keep (hB4.mono (by omega)); have hsz4 := hB4.size; have hl4 : w.heap.size < w4.heap.size := (by omega); have hn4 : w.heap.size ≠ w4.heap.size := (by omega); have hl5 : w.heap.size + 1 < w4.heap.size := (by omega); have hn5 : w.heap.size + 1 ≠ w4.heap.size := (by omega); clear y0 y1 y2 y3 y4 y5 y6 q0 q1 q2 q3 q4 q5 q6 fy fq; have y0 := cellof hT4.a 0; have y1 := cellof hT4.a 1; have y2 := cellof hT4.a 2; have y3 := cellof hT4.a 3; have y4 := cellof hT4.a 4; have y5 := cellof hT4.a 5; have y6 := cellof hT4.a 6; have q0 := cellof hT4.z 0; have q1 := cellof hT4.z 1; have q2 := cellof hT4.z 2; have q3 := cellof hT4.z 3; have q4 := cellof hT4.z 4; have q5 := cellof hT4.z 5; have q6 := cellof hT4.z 6; have fy := fun o => frozenof hT4.a o; have fq := fun o => frozenof hT4.z o; simp only [List.getElem?_toArray, List.getElem?_cons_zero, List.getElem?_cons_succ] at y0 y1 y2 y3 y4 y5 y6 q0 q1 q2 q3 q4 q5 q6; have hB5 : Below w.heap.size w w4 := HB3.out.trans (hB4.mono (by omega)); have hF4 := HH.out.mono hB5; have HT4 := Lib.hid hT4; have HB5 := Lib.hid hB5; have HF4 := Lib.hid hF4; clear hT4 hB4 hB5 hF4)
      go_region_held (fun w' => w'.cell? ⟨w.heap.size, 0, none⟩ = some (.int .i64 room) ∧ w'.cell? ⟨w.heap.size, 1, none⟩ = some (.slice p S.fs.length c) ∧ w'.cell? ⟨w.heap.size, 2, none⟩ = some (.bool down) ∧ w'.cell? ⟨w.heap.size, 3, none⟩ = some (.int .i64 falls) ∧ w'.cell? ⟨w.heap.size, 4, none⟩ = some (.bool fused) ∧ w'.cell? ⟨w.heap.size, 5, none⟩ = some (.int .i64 fuse) ∧ w'.cell? ⟨w.heap.size, 6, none⟩ = some (.int .i64 part)) (go_keep) (fail)
      all_goals go_wp2
      all_goals refine bodyPost_ret (v := .tuple #[.int .i64 8, .agg #[.int .i64 room, .slice p S.fs.length c, .bool down, .int .i64 falls, .bool fused, .int .i64 fuse, .int .i64 part]]) (by simp [results, Try.results24, go_sem, q0, q1, q2, q3, q4, q5, q6]) rfl ⟨p, c, rfl, HH.out.mono ?_, ?_⟩
      all_goals refine Below.drew ?_
      all_goals iterate 7 refine Below.setCell ?_ (by simp <;> omega) _
      all_goals exact HB5.out
    | some f =>
      rw [if_neg (by simp)]
      simp only [MV]
      obtain ⟨hfm, hfn⟩ := look_some hlk
      obtain ⟨j0, hj0⟩ := List.getElem?_of_mem hfm
      obtain ⟨bq, rfl, hbq, _⟩ := HH.out j0 f hj0
      clear hfm hfn hj0
      go_enter Try.func24, Try.ntmps24
      go_wp2_with (fail)
      go_at_call 39; (refine K.out.mono ?_); rintro e w2 ⟨rfl, hB2⟩; have hsz := hB2.size; rw [HS2.out] at hsz; have hT2 := HT.out.keep (hB2.mono (by have := HS2.out; omega)); have y0 := cellof hT2.a 0; have y1 := cellof hT2.a 1; have y2 := cellof hT2.a 2; have y3 := cellof hT2.a 3; have y4 := cellof hT2.a 4; have y5 := cellof hT2.a 5; have y6 := cellof hT2.a 6; have fy := fun o => frozenof hT2.a o; simp only [List.getElem?_toArray, List.getElem?_cons_zero, List.getElem?_cons_succ] at y0 y1 y2 y3 y4 y5 y6; have HB2 := Lib.hid hB2; have HT2 := Lib.hid hT2; clear hB2 hT2
      iterate 20 first | go_values | go_skip | go_guarded | go_step | go_upon | go_in | go_back | (simp only [Int.not_lt, Int.not_le] at *; go_simp)
      have hT3 := HT2.out.put (S' := ⟨room, S.fs, down, falls, fused, fuse, part⟩) (v' := .slice (some ⟨bq, 0, none⟩) S.fs.length c)
      have hB3 := put7_below (N := w.heap.size) (S := ⟨room, S.fs, down, falls, fused, fuse, part⟩) (v := .slice (some ⟨bq, 0, none⟩) S.fs.length c) (b := w.heap.size) (HA.out.trans (HB2.out.mono (by have := HS2.out; omega))) (Nat.le_refl _)
      have hs7 := put7_size ⟨room, S.fs, down, falls, fused, fuse, part⟩ (.slice (some ⟨bq, 0, none⟩) S.fs.length c) w.heap.size w2
      change Code.wp _ _ _ _ (put7 ⟨room, S.fs, down, falls, fused, fuse, part⟩ (.slice (some ⟨bq, 0, none⟩) S.fs.length c) w.heap.size w2)
      obtain ⟨w3, hw3⟩ : ∃ w3, w3 = put7 ⟨room, S.fs, down, falls, fused, fuse, part⟩ (.slice (some ⟨bq, 0, none⟩) S.fs.length c) w.heap.size w2 := ⟨_, rfl⟩
      rw [← hw3] at hT3 hB3 hs7 ⊢
      rw [← hs7] at hsz
      clear hw3 hs7 y0 y1 y2 y3 y4 y5 y6 fy
      have y0 := cellof hT3.a 0; have y1 := cellof hT3.a 1; have y2 := cellof hT3.a 2; have y3 := cellof hT3.a 3; have y4 := cellof hT3.a 4; have y5 := cellof hT3.a 5; have y6 := cellof hT3.a 6; have q0 := cellof hT3.z 0; have q1 := cellof hT3.z 1; have q2 := cellof hT3.z 2; have q3 := cellof hT3.z 3; have q4 := cellof hT3.z 4; have q5 := cellof hT3.z 5; have q6 := cellof hT3.z 6; have fy := fun o => frozenof hT3.a o; have fq := fun o => frozenof hT3.z o; simp only [List.getElem?_toArray, List.getElem?_cons_zero, List.getElem?_cons_succ] at y0 y1 y2 y3 y4 y5 y6 q0 q1 q2 q3 q4 q5 q6
      have hl0 : w.heap.size < w3.heap.size := (by omega); have hn0 : w.heap.size ≠ w3.heap.size := (by omega); have hl1 : w.heap.size + 1 < w3.heap.size := (by omega); have hn1 : w.heap.size + 1 ≠ w3.heap.size := (by omega)
      have hF3 := HH.out.mono hB3
      have HT3 := Lib.hid hT3; have HB3 := Lib.hid hB3; have HF3 := Lib.hid hF3
      clear hT3 hB3 hF3
      go_wp2_with (first | (go_at_call 42; (refine (HK42.out _ (by repeat first | (with_reducible refine Below.setCell ?_ (by simp <;> omega) _) | (with_reducible refine Below.alloc ?_ (by simp <;> omega) _) | (with_reducible refine Below.drew ?_) | (with_reducible exact Below.refl _ _))).mono ?_); rintro e w7 ⟨p7, c7, X, rfl, hX7, hrd7, hXf7, hB7⟩; have hT7 := (HT4.out).keep (hB7.mono (by omega)); clear y0 y1 y2 y3 y4 y5 y6 q0 q1 q2 q3 q4 q5 q6 fy fq; have y0 := cellof hT7.a 0; have y1 := cellof hT7.a 1; have y2 := cellof hT7.a 2; have y3 := cellof hT7.a 3; have y4 := cellof hT7.a 4; have y5 := cellof hT7.a 5; have y6 := cellof hT7.a 6; have q0 := cellof hT7.z 0; have q1 := cellof hT7.z 1; have q2 := cellof hT7.z 2; have q3 := cellof hT7.z 3; have q4 := cellof hT7.z 4; have q5 := cellof hT7.z 5; have q6 := cellof hT7.z 6; have fy := fun o => frozenof hT7.a o; have fq := fun o => frozenof hT7.z o; simp only [List.getElem?_toArray, List.getElem?_cons_zero, List.getElem?_cons_succ] at y0 y1 y2 y3 y4 y5 y6 q0 q1 q2 q3 q4 q5 q6; have hsz7 := hB7.size; have hB8 : Below w.heap.size w w7 := (HB5.out).trans (hB7.mono (by omega)); have HX7 := Lib.hid hX7; have HRD7 := Lib.hid hrd7; have HXF7 := Lib.hid hXf7; have HB8 := Lib.hid hB8; clear hX7 hrd7 hXf7 hB7 hT7 hB8; generalize hXl : X.length = xl at *; have HXL := Lib.hid hXl; clear hXl) | (go_at_call 31; (refine (K31.out n _ (by first | exact HF3.out | exact HF4.out)).mono ?_); rintro e w4 hfo; obtain ⟨hB4, j, rfl, hj⟩ := find_some HFI.out.srt hlk hfo; have hT4 := HT3.out.keep (hB4.mono (by omega)); have hsz4 := hB4.size; have hl4 : w.heap.size < w4.heap.size := (by omega); have hn4 : w.heap.size ≠ w4.heap.size := (by omega); have hl5 : w.heap.size + 1 < w4.heap.size := (by omega); have hn5 : w.heap.size + 1 ≠ w4.heap.size := (by omega); clear y0 y1 y2 y3 y4 y5 y6 q0 q1 q2 q3 q4 q5 q6 fy fq; have y0 := cellof hT4.a 0; have y1 := cellof hT4.a 1; have y2 := cellof hT4.a 2; have y3 := cellof hT4.a 3; have y4 := cellof hT4.a 4; have y5 := cellof hT4.a 5; have y6 := cellof hT4.a 6; have q0 := cellof hT4.z 0; have q1 := cellof hT4.z 1; have q2 := cellof hT4.z 2; have q3 := cellof hT4.z 3; have q4 := cellof hT4.z 4; have q5 := cellof hT4.z 5; have q6 := cellof hT4.z 6; have fy := fun o => frozenof hT4.a o; have fq := fun o => frozenof hT4.z o; simp only [List.getElem?_toArray, List.getElem?_cons_zero, List.getElem?_cons_succ] at y0 y1 y2 y3 y4 y5 y6 q0 q1 q2 q3 q4 q5 q6; have hB5 : Below w.heap.size w w4 := HB3.out.trans (hB4.mono (by omega)); have hc := HH.out j f hj; obtain ⟨b', hp', hb', e0, ⟨v, e1, hv⟩, e2, _⟩ := hc; cases hp'; have HV := Lib.hid hv; obtain ⟨pv, cv, rfl, hcap, _⟩ := hv; have e0 := (hB5.cell (p := ⟨bq, _, none⟩) hb').trans e0; have e1 := (hB5.cell (p := ⟨bq, _, none⟩) hb').trans e1; have e2 := (hB5.cell (p := ⟨bq, _, none⟩) hb').trans e2; have hjl : j < S.fs.length := (List.getElem?_eq_some_iff.1 hj).1; have hbl : bq < w4.heap.size := (by omega); have hbn : bq ≠ w4.heap.size := (by omega); have K42 := with_from (S := ⟨room, S.fs, down, falls, fused, fuse, part⟩) (p := (some ⟨bq, 0, none⟩)) (c := c) (f := ⟨f.n, f.b, f.b.length⟩) (pv := pv) (lv := f.b.length) (cv := cv) (HH.out.inn.mono hB5) (by show S.fs.length ≤ 1000; omega) (HV.out); unfold MV at K42; simp only [min_cast] at K42; have HK42 := Lib.hid K42; clear K42; have hF4 := HH.out.mono hB5; have HT4 := Lib.hid hT4; have HB5 := Lib.hid hB5; have HF4 := Lib.hid hF4; clear hT4 hB4 hB5 hF4 hj))
      refine bodyPost_ret (v := .tuple #[.int .i64 0, .agg #[.int .i64 room, .slice p7 xl c7, .bool down, .int .i64 falls, .bool fused, .int .i64 fuse, .int .i64 part]]) (by simp [results, Try.results24, go_sem, q0, q1, q2, q3, q4, q5, q6]) rfl ⟨p7, c7, ?_, ?_, ?_⟩
      · rw [← HXF7.out, List.length_map, HXL.out]
      · rw [← HXF7.out]
        refine XAt.out (w := w) (l := xl) (c := c7) ?_ HRD7.out ?_
        · iterate 7 refine ownsRow_setCell_below ?_ (by simp <;> omega) _
          exact own_base HX7.out (by omega)
        · iterate 7 refine Below.setCell ?_ (by simp <;> omega) _
          exact HB8.out
      · iterate 7 refine Below.setCell ?_ (by simp <;> omega) _
        exact HB8.out
  all_goals
    rw [if_pos (by decide), if_pos (by decide)]
    simp only [MV]
    go_enter Try.func24, Try.ntmps24
    go_wp2_with (fail)
    go_at_call 39; (refine K.out.mono ?_); rintro e w2 ⟨rfl, hB2⟩; have hsz := hB2.size; rw [HS2.out] at hsz; have hT2 := HT.out.keep (hB2.mono (by have := HS2.out; omega)); have y0 := cellof hT2.a 0; have y1 := cellof hT2.a 1; have y2 := cellof hT2.a 2; have y3 := cellof hT2.a 3; have y4 := cellof hT2.a 4; have y5 := cellof hT2.a 5; have y6 := cellof hT2.a 6; have fy := fun o => frozenof hT2.a o; simp only [List.getElem?_toArray, List.getElem?_cons_zero, List.getElem?_cons_succ] at y0 y1 y2 y3 y4 y5 y6; have HB2 := Lib.hid hB2; have HT2 := Lib.hid hT2; clear hB2 hT2
    iterate 20 first | go_values | go_skip | go_guarded | go_step | go_upon | go_in | go_back | (simp only [Int.not_lt, Int.not_le] at *; go_simp)
    have hT3 := HT2.out.put (S' := ⟨room, S.fs, down, falls, fused, fuse, part⟩) (v' := .slice p S.fs.length c)
    have hB3 := put7_below (N := w.heap.size) (S := ⟨room, S.fs, down, falls, fused, fuse, part⟩) (v := .slice p S.fs.length c) (b := w.heap.size) (HA.out.trans (HB2.out.mono (by have := HS2.out; omega))) (Nat.le_refl _)
    have hs7 := put7_size ⟨room, S.fs, down, falls, fused, fuse, part⟩ (.slice p S.fs.length c) w.heap.size w2
    change Code.wp _ _ _ _ (put7 ⟨room, S.fs, down, falls, fused, fuse, part⟩ (.slice p S.fs.length c) w.heap.size w2)
    obtain ⟨w3, hw3⟩ : ∃ w3, w3 = put7 ⟨room, S.fs, down, falls, fused, fuse, part⟩ (.slice p S.fs.length c) w.heap.size w2 := ⟨_, rfl⟩
    rw [← hw3] at hT3 hB3 hs7 ⊢
    rw [← hs7] at hsz
    clear hw3 hs7 y0 y1 y2 y3 y4 y5 y6 fy
    have y0 := cellof hT3.a 0; have y1 := cellof hT3.a 1; have y2 := cellof hT3.a 2; have y3 := cellof hT3.a 3; have y4 := cellof hT3.a 4; have y5 := cellof hT3.a 5; have y6 := cellof hT3.a 6; have q0 := cellof hT3.z 0; have q1 := cellof hT3.z 1; have q2 := cellof hT3.z 2; have q3 := cellof hT3.z 3; have q4 := cellof hT3.z 4; have q5 := cellof hT3.z 5; have q6 := cellof hT3.z 6; have fy := fun o => frozenof hT3.a o; have fq := fun o => frozenof hT3.z o; simp only [List.getElem?_toArray, List.getElem?_cons_zero, List.getElem?_cons_succ] at y0 y1 y2 y3 y4 y5 y6 q0 q1 q2 q3 q4 q5 q6
    have hl0 : w.heap.size < w3.heap.size := (by omega); have hn0 : w.heap.size ≠ w3.heap.size := (by omega); have hl1 : w.heap.size + 1 < w3.heap.size := (by omega); have hn1 : w.heap.size + 1 ≠ w3.heap.size := (by omega)
    have hF3 := HH.out.mono hB3
    have HT3 := Lib.hid hT3; have HB3 := Lib.hid hB3; have HF3 := Lib.hid hF3
    clear hT3 hB3 hF3
    go_wp2
    go_region_held (fun w' => w'.cell? ⟨w.heap.size, 0, none⟩ = some (.int .i64 room) ∧ w'.cell? ⟨w.heap.size, 1, none⟩ = some (.slice p S.fs.length c) ∧ w'.cell? ⟨w.heap.size, 2, none⟩ = some (.bool down) ∧ w'.cell? ⟨w.heap.size, 3, none⟩ = some (.int .i64 falls) ∧ w'.cell? ⟨w.heap.size, 4, none⟩ = some (.bool fused) ∧ w'.cell? ⟨w.heap.size, 5, none⟩ = some (.int .i64 fuse) ∧ w'.cell? ⟨w.heap.size, 6, none⟩ = some (.int .i64 part)) (go_keep) (fail)
    all_goals go_wp2
    all_goals refine bodyPost_ret (v := .tuple #[.int .i64 9, .agg #[.int .i64 room, .slice p S.fs.length c, .bool down, .int .i64 falls, .bool fused, .int .i64 fuse, .int .i64 part]]) (by simp [results, Try.results24, go_sem, q0, q1, q2, q3, q4, q5, q6]) rfl ⟨p, c, rfl, HH.out.mono ?_, ?_⟩
    all_goals refine Below.drew ?_
    all_goals iterate 7 refine Below.setCell ?_ (by simp <;> omega) _
    all_goals exact HB3.out
end Go.Proofs.DK
