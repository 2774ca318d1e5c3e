/- Proved: what the law 'DueOrder' comes to, called. Each theorem says its own conditions. -/
import Derived.Test.YtccmlmepcgcojaaEa
set_option linter.unusedVariables false
set_option linter.unusedSimpArgs false
namespace Go.Proofs.DU
open Go.RowKit
theorem u64w (k : Nat) (h : k < 400) : IntKind.u64.wrap (k : Int) = k := by
  have e : IntKind.u64.bits = 64 := rfl
  unfold IntKind.wrap
  simp [e]
  omega
set_option maxRecDepth 100000 in
set_option maxHeartbeats 16000000 in
/-- A row too long: the law asks 'fixed' alone. -/
theorem c3big (pp : Option Addr) (l c : Nat) (now : Int) (W : World) (hl : 300 < l) : Calls Try.prog 3 #[.slice pp l c, .int .u64 now] W fun e w' => e = .returned (.bool true) ∧ Below W.heap.size W w' := by
  go_enter Try.func3, Try.ntmps3
  go_wp2_with (first
    | (go_at_call 7; (with_reducible refine (c7 _).mono ?_); rintro e w2 ⟨bb, rfl, _, hB2⟩; have HB2 := Lib.hid (HB1.out.trans (hB2.mono HB1.out.size)); clear hB2 HB1)
    | (go_at_call 7; (with_reducible refine (c7 _).mono ?_); rintro e w1 ⟨ba, rfl, _, hB1⟩; have HB1 := Lib.hid hB1; clear hB1)
    | (go_at_call 8; (with_reducible refine (c8 _).mono ?_); rintro e w3 ⟨rfl, hB3⟩; have HB3 := Lib.hid (HB2.out.trans (hB3.mono HB2.out.size)); clear hB3 HB2))
  go_ret
  exact ⟨rfl, HB3.out⟩
set_option maxRecDepth 100000 in
set_option maxHeartbeats 16000000 in
theorem c3 (pp : Option Addr) (l c : Nat) (ts : Nat → Int) (now : Int) (W : World) (hl : l ≤ 300) (hts : ∀ i, i < l → ts i ≤ 18446744073709551615)
    (hx : ∀ i, i < l → ∃ b o, pp = some ⟨b, o, none⟩ ∧ b < W.heap.size ∧ W.cell? ⟨b, o + i, none⟩ = some (.int .u64 (ts i))) :
    Calls Try.prog 3 #[.slice pp l c, .int .u64 now] W fun e w' => e = .returned (.bool true) ∧ Below W.heap.size W w' := by
  have HX := Lib.hid hx
  have HTS := Lib.hid hts
  clear hx hts
  go_enter Try.func3, Try.ntmps3
  go_wp2_with (first
    | (go_at_call 7; (with_reducible refine (c7 _).mono ?_); rintro e w2 ⟨bb, rfl, hd2, hB2⟩; have HT := Lib.hid (Two.new HD1.out HB1.out hd2 hB2); have HB := Lib.hid (HB1.out.trans (hB2.mono HB1.out.size)); clear HD1 HB1 hd2 hB2)
    | (go_at_call 7; (with_reducible refine (c7 _).mono ?_); rintro e w1 ⟨ba, rfl, hd1, hB1⟩; have HD1 := Lib.hid hd1; have HB1 := Lib.hid hB1; clear hd1 hB1))
  go_loopw [34] (fun i wr => ∃ (k : Nat) (A B : Nat → Prop) (L : List (Int × Int)), i = .int .i64 k ∧ k ≤ l ∧ L.length ≤ k ∧ Holds ts 0 k L ∧ Two W.heap.size ba bb A B L [] wr ∧ Below W.heap.size W wr) (fun i _ => l - (intOf i).toNat)
  case atStart => exact ⟨0, _, _, [], rfl, Nat.zero_le _, Nat.zero_le _, Holds.nil ts 0, HT.out, HB.out⟩
  case round =>
    clear HT HB
    obtain ⟨k, A, B, L, rfl, hk, hLk, hh, htw, hB⟩ := hrel
    by_cases hlt : k < l
    · obtain ⟨b, o', rfl, hb, y0⟩ := HX.out k hlt
      have y0 := (hB.cell (p := ⟨b, _, none⟩) hb).trans y0
      have HH := Lib.hid hh.up
      have HTW := Lib.hid htw
      have HB := Lib.hid hB
      have hlen := set_len L k (ts k)
      generalize hz : ts k = z at *
      clear hh htw hB
      go_wp2_with (first
        | (go_at_call 9; (with_reducible refine (c9 _ z wr HTW.out.da (by omega)).mono ?_); rintro e w4 ⟨rfl, A', hA', hd4, ht4⟩; (first | (rw [u64w k (by omega)] at hd4) | skip); have HT4 := Lib.hid (HTW.out.set HB.out.size hA' hd4 ht4); have HB4 := Lib.hid (ht4.below HB.out HTW.out.a0 HB.out.size); clear hA' hd4 ht4))
      all_goals go_roundw
      all_goals first
        | (simp [intOf]; omega)
        | exact ⟨k + 1, _, B, _, by go_num, by omega, by omega, HH.out, HT4.out, HB4.out⟩
    · have hkn : k = l := by omega
      subst hkn
      have HH := Lib.hid hh
      have HTW := Lib.hid htw
      have HB := Lib.hid hB
      clear hh htw hB
      go_wp2
      go_loopw [9] (fun i wr => ∃ (j : Nat) (z : Int) (A B : Nat → Prop) (M : List (Int × Int)), i = .int .i64 z ∧ z = j - 1 ∧ j ≤ k ∧ M.length ≤ k - j ∧ Holds ts j k M ∧ Two W.heap.size ba bb A B L M wr ∧ Below W.heap.size W wr) (fun i _ => (intOf i + 1).toNat)
      case atStart => exact ⟨k, _, A, B, [], rfl, by rfl, Nat.le_refl _, Nat.zero_le _, Holds.nil ts k, HTW.out, HB.out⟩
      case round =>
        clear HTW HB
        obtain ⟨j, z, A, B, M, rfl, hz, hj, hMj, hh, htw, hB⟩ := hrel
        have HHM := Lib.hid hh
        have HTW := Lib.hid htw.symm
        have HB := Lib.hid hB
        have hsz := hB.size
        clear hh htw hB
        rcases j with _ | m
        · have hz1 : z = -1 := by omega
          clear hz
          subst hz1
          have HS := Lib.hid (show Same L M from fun x => (HH.out x).trans (HHM.out x).symm)
          have HAL := Lib.hid (show ∀ x ∈ L, x.2 ≤ 18446744073709551615 from fun x hx => by
            obtain ⟨i, _, hi, rfl⟩ := (HH.out x).1 hx
            exact HTS.out i hi)
          clear HH HHM HTS HX
          go_wp2_with (first
            | (go_at_call 8; (with_reducible refine (c8 _).mono ?_); rintro e w2 ⟨rfl, hB2⟩; have HT2 := Lib.hid (HTW.out.symm.below hB2); have HB2 := Lib.hid (HB.out.trans (hB2.mono hsz)); have hs2 := Nat.le_trans hsz hB2.size; clear hB2 HTW HB)
            | (go_at_call 11; (with_reducible refine (c11 _ _ HT6.out.db HT6.out.b1 (by omega)).mono ?_); rintro e w7 ⟨v7, k7, M7, rfl, tk7, ka7, ko7, hd7, ht7⟩; have HT7 := Lib.hid (HT6.out.symm.take hd7 ht7).symm; have HB7 := Lib.hid (ht7.below HB6.out HT6.out.b0 hs6); have hs7 := Nat.le_trans hs6 ht7.size; obtain ⟨rfl, _⟩ := TK6.out.pair tk7 HSM.out; have KA8 := Lib.hid (show KAt w7 v6 k6 from own_keep KA6.out fun g hg hl => ht7.block g hl (KO6.out g hg)); have KA7 := Lib.hid ka7; clear TK6 tk7 ka7 ko7 hd7 ht7 HT6 HB6 KA6 KO6)
            | (go_at_call 11; (with_reducible refine (c11 _ _ HT5.out.da HT5.out.a1 (by omega)).mono ?_); rintro e w6 ⟨v6, k6, L6, rfl, tk6, ka6, ko6, hd6, ht6⟩; obtain rfl := tk6.all HAL3.out; have HT6 := Lib.hid (HT5.out.take hd6 ht6); have HB6 := Lib.hid (ht6.below HB5.out HT5.out.a0 hs5); have hs6 := Nat.le_trans hs5 ht6.size; have hl6 := tk6.len; have TK6 := Lib.hid tk6; have KA6 := Lib.hid ka6; have KO6 := Lib.hid (fun g hg hb => Nat.lt_irrefl _ (Nat.lt_of_lt_of_le (HT5.out.b1 g hb) (ko6 g hg))); clear tk6 ka6 ko6 hd6 ht6 HT5 HB5)
            | (go_at_call 11; (with_reducible refine (c11 now _ HT3.out.db HT3.out.b1 (by omega)).mono ?_); rintro e w4 ⟨v4, k4, M4, rfl, tk4, ka4, ko4, hd4, ht4⟩; have HT4 := Lib.hid (HT3.out.symm.take hd4 ht4).symm; have HB4 := Lib.hid (ht4.below HB3.out HT3.out.b0 hs3); have hs4 := Nat.le_trans hs3 ht4.size; have hl4 := tk4.len; obtain ⟨rfl, hsm⟩ := TK3.out.pair tk4 HS.out; have HSM := Lib.hid hsm; have HAL3 := Lib.hid (fun x hx => HAL.out x (TK3.out.sub x hx)); have KA5 := Lib.hid (show KAt w4 v3 k3 from own_keep KA3.out fun g hg hl => ht4.block g hl (KO3.out g hg)); have KA4 := Lib.hid ka4; clear TK3 tk4 ka4 ko4 hd4 ht4 hsm HT3 HB3 KA3 KO3)
            | (go_at_call 11; (with_reducible refine (c11 now _ HT2.out.da HT2.out.a1 (by omega)).mono ?_); rintro e w3 ⟨v3, k3, L3, rfl, tk3, ka3, ko3, hd3, ht3⟩; have HT3 := Lib.hid (HT2.out.take hd3 ht3); have HB3 := Lib.hid (ht3.below HB2.out HT2.out.a0 hs2); have hs3 := Nat.le_trans hs2 ht3.size; have hl3 := tk3.len; have TK3 := Lib.hid tk3; have KA3 := Lib.hid ka3; have KO3 := Lib.hid (fun g hg hb => Nat.lt_irrefl _ (Nat.lt_of_lt_of_le (HT2.out.b1 g hb) (ko3 g hg))); clear tk3 ka3 ko3 hd3 ht3 HT2 HB2)
            | (go_at_call 10; (with_reducible refine (c10 _ _ _ _ KA8.out KA7.out (by omega)).mono ?_); rintro e w8 ⟨rfl, hB8⟩; have HT8 := Lib.hid (HT7.out.below hB8); have HB8 := Lib.hid (HB7.out.trans (hB8.mono hs7)); clear hB8 HT7 HB7 KA8 KA7)
            | (go_at_call 10; (with_reducible refine (c10 _ _ _ _ KA5.out KA4.out (by omega)).mono ?_); rintro e w5 ⟨rfl, hB5⟩; have HT5 := Lib.hid (HT4.out.below hB5); have HB5 := Lib.hid (HB4.out.trans (hB5.mono hs4)); have hs5 := Nat.le_trans hs4 hB5.size; clear hB5 HT4 HB4 KA5 KA4)
            | (go_at_call 12; (with_reducible refine (c12 _ HT8.out.da).mono ?_); rintro e w9 ⟨rfl, rfl⟩))
          go_ret
          exact ⟨rfl, HB8.out⟩
        · have hz1 : z = (m : Int) := by omega
          clear hz
          subst hz1
          have hlt : m < k := by omega
          obtain ⟨b, o', rfl, hb, y0⟩ := HX.out m hlt
          have y0 := (HB.out.cell (p := ⟨b, _, none⟩) hb).trans y0
          have HH2 := Lib.hid (HHM.out.down hlt)
          have hlen := set_len M m (ts m)
          generalize hz2 : ts m = z2 at *
          go_wp2_with (first
            | (go_at_call 9; (with_reducible refine (c9 _ z2 wr HTW.out.da (by omega)).mono ?_); rintro e w4 ⟨rfl, A', hA', hd4, ht4⟩; (first | (rw [u64w m (by omega)] at hd4) | skip); have HT4 := Lib.hid (HTW.out.set HB.out.size hA' hd4 ht4).symm; have HB4 := Lib.hid (ht4.below HB.out HTW.out.a0 HB.out.size); clear hA' hd4 ht4))
          all_goals go_roundw
          all_goals first
            | (show ((m : Int) - 1 + 1).toNat < ((m : Int) + 1).toNat; omega)
            | exact ⟨m, _, A, _, _, by go_num, rfl, by omega, by omega, HH2.out, HT4.out, HB4.out⟩
end Go.Proofs.DU
