/- Proved: contracts of single functions of the program and lemmas that they need; each theorem says its own conditions. -/
import Derived.Test.YtblgkhghoppanaaGreatPf
set_option linter.unusedVariables false
set_option linter.unusedSimpArgs false
namespace Go.Proofs.PK
open Go.RowKit
theorem slice_tail (b o l cap n : Nat) (h1 : n ≤ l) (w : World) : (Instr.sliceAt 24 (.slice (some ⟨b, o, none⟩) l cap) (some (.int .i64 (n : Int))) none none).run Tryz.prog w =
    .ok (.slice (some ⟨b, if cap = n then o else o + n, none⟩) (l - n) (cap - n)) w := by
  have hu := run_underlying (w := w) Tryz.underlying24
  have hs := Tryz.sizeOf5
  have hn : ¬ ((n : Int) < 0 ∨ (l : Int) < (n : Int)) := by omega
  have hn2 : ¬ ((l : Int) < (n : Int)) := by omega
  by_cases hc : cap = n <;> simp [Instr.sliceAt, Instr.slice, hu, Instr.sliceBounds, Instr.sliceBound, hs, hn, hn2, h1, hc, Addr.add_lit, go_sem]
theorem and127_fin : ∀ b : Fin 256, bits .and .u8 ((b.val : Nat) : Int) 127 = ((b.val % 128 : Nat) : Int) := by decide +kernel
theorem and127 {c : Nat} (h : c < 256) : bits .and .u8 (c : Int) 127 = ((c % 128 : Nat) : Int) := and127_fin ⟨c, h⟩
theorem pow7 (i : Nat) : (2 : Int) ^ (7 * i) = ((128 ^ i : Nat) : Int) := by
  rw [Int.pow_mul]
  push_cast
  rfl
theorem orsh {n p c i : Nat} (hp : p = 128 ^ i) (hn : n < p) (hc : c < 256) (hi : i ≤ 9) (h : n + c % 128 * p < 18446744073709551616) :
    bits .or .u64 (n : Int) (IntKind.u64.wrap (IntKind.u64.wrap (bits .and .u8 (c : Int) 127) * 2 ^ (7 * i))) = ((n + c % 128 * p : Nat) : Int) := by
  have e1 : IntKind.u64.wrap (((c % 128 : Nat) : Int)) = ((c % 128 : Nat) : Int) := wrap_n _ rfl (by omega)
  have e2 : IntKind.u64.wrap (((c % 128 : Nat) : Int) * ((p : Nat) : Int)) = ((c % 128 * p : Nat) : Int) := wrap_n _ (by push_cast; rfl) (by omega)
  rw [and127 hc, e1, pow7, ← hp, e2]
  have hcm : bits .or .u64 (n : Int) ((c % 128 * p : Nat) : Int) = bits .or .u64 ((c % 128 * p : Nat) : Int) (n : Int) := by simp only [bits, BitVec.or_comm]
  have hpz : ((2 : Int) ^ (7 * i)) = (p : Int) := by rw [pow7, hp]
  rw [hcm, bits_join .u64 64 (by decide) (fun m h0 h1 => IntWalk.u64_in m (by omega)) (7 * i) _ _ (by omega) (by rw [hpz]; push_cast; exact Int.mul_emod_left _ _) (by omega) (by omega) (by rw [hpz]; omega) (by omega)]
  push_cast; omega
def R34 (l : List Nat) (a : Nat) (w : World) (vn vi : Value) (wr : World) : Prop := ∃ (i n p : Nat), vn = .int .u64 n ∧ vi = .int .i64 i ∧ i ≤ 9 ∧ p = 128 ^ i ∧ n < p ∧ dec 0 (l.drop a) = lift i n p (dec i (l.drop (a + i))) ∧ a + i ≤ l.length ∧ wr = w
set_option maxRecDepth 100000 in
set_option maxHeartbeats 1000000 in
theorem c34 (v : Value) (l : List Nat) (a : Nat) (w : World) (h : RdC w v l) (hby : Byt l) (hl : l.length ≤ 1000000) (ha : a ≤ l.length) : Calls Tryz.prog 34 #[v, .int .i64 a] w (Got a (dec 0 (l.drop a)) w) := by
  obtain ⟨b, o, cap, rfl, hcap, hb, hr⟩ := h
  have hsl := slice_tail b o l.length cap a ha w
  generalize hoo : (if cap = a then o else o + a) = oo at hsl
  have HR := Lib.hid hr
  have HB := Lib.hid hby
  have HO := Lib.hid hoo
  clear hr hb hby hoo
  go_enter Tryz.func34, Tryz.ntmps34
  go_wp2
  have hd1 : decide (l.length < a) = false := by simp; omega
  have hd2 : decide ((a : Int) < 0) = false := by simp
  simp only [hd1, hd2, Bool.or_self]
  clear hd1 hd2 hsl
  go_loopw [7, 22] (fun vn vi wr => R34 l a w vn vi wr) (fun _ vi _ => (20 - intOf vi).toNat)
  case atStart =>
    refine ⟨0, 0, 1, rfl, rfl, by omega, rfl, by omega, ?_, by omega, rfl⟩
    rcases dec 0 (l.drop a) with e | ⟨m, k⟩ <;> simp [lift]
  case round =>
    obtain ⟨i, n, p, rfl, rfl, hi, hp, hn, he, hai, rfl⟩ := hrel
    have hp9 : p ≤ 9223372036854775808 := by rw [hp]; exact pow_le hi
    have HE := Lib.hid he; have HP := Lib.hid hp
    clear he hp
    by_cases hend : l.length ≤ a + i
    · have hend2 : ¬ (i < l.length - a) := by omega
      go_wp2
      exact bodyPost_ret (v := _) (by simp [results, Tryz.results34, go_sem]) rfl ⟨congrArg Ending.returned (got_end HE.out hend).symm, rfl⟩
    · obtain ⟨c, hc⟩ : ∃ c, l[a + i]? = some c := ⟨_, List.getElem?_eq_getElem (by omega)⟩
      have hcell : wr.cell? ⟨b, oo + i, none⟩ = some (.int .u8 c) := by
        have := HR.out (a + i) c hc
        have hne : ¬ cap = a := by omega
        have ho := HO.out
        rw [if_neg hne] at ho
        rw [← ho, Nat.add_assoc]; exact this
      have hc8 : c < 256 := HB.out c (List.mem_of_getElem? hc)
      have HC := Lib.hid hc
      have hlt : i < l.length - a := by omega
      clear hc hend
      by_cases h9 : i = 9
      · subst h9
        by_cases h1 : 1 < c
        · go_wp2
          exact bodyPost_ret (v := _) (by simp [results, Tryz.results34, go_sem]) rfl ⟨congrArg Ending.returned (got_four HE.out HC.out h1).symm, rfl⟩
        · have hq := orsh HP.out hn hc8 hi (room9 hi HP.out hn (c := c) (by omega))
          by_cases h0 : c = 0
          · subst h0
            go_wp2
            exact bodyPost_ret (v := _) (by simp [results, Tryz.results34, go_sem]) rfl ⟨congrArg Ending.returned (got_two HE.out HC.out (by omega)).symm, rfl⟩
          · have hq9 : bits .or .u64 (n : Int) (IntKind.u64.wrap (IntKind.u64.wrap (bits .and .u8 (c : Int) 127) * 9223372036854775808)) = (n : Int) + (c : Int) % 128 * (p : Int) := by simpa using hq
            go_wp2
            exact bodyPost_ret (v := _) (by simp [results, Tryz.results34, go_sem, Int.add_assoc, hq9]) rfl ⟨congrArg Ending.returned (got_ok HE.out HC.out (by omega) (by omega) (by omega)).symm, rfl⟩
      · have hq := orsh HP.out hn hc8 hi (room9 hi HP.out hn (c := c) (by omega))
        by_cases h128 : 128 ≤ c
        · go_wp2
          go_roundw
          case rel => exact ⟨i + 1, n + c % 128 * p, p * 128, by simp, by simp, by omega, by rw [Nat.pow_succ, ← HP.out], acc_lt hn, by rw [HE.out, drop_one HC.out, lift_step _ _ _ _ _ (by omega) h128, Nat.add_assoc], by omega, rfl⟩
          case measure => simp [intOf]; omega
        · by_cases h0 : c = 0
          · subst h0
            by_cases hi0 : 0 < i
            · go_wp2
              exact bodyPost_ret (v := _) (by simp [results, Tryz.results34, go_sem]) rfl ⟨congrArg Ending.returned (got_two HE.out HC.out (by omega)).symm, rfl⟩
            · have hq0 : bits .or .u64 (n : Int) (IntKind.u64.wrap (IntKind.u64.wrap (bits .and .u8 0 127) * 2 ^ (7 * i))) = (n : Int) := by simpa using hq
              go_wp2
              exact bodyPost_ret (v := _) (by simp [results, Tryz.results34, go_sem, Int.add_assoc, hq0]) rfl ⟨congrArg Ending.returned (got_ok HE.out HC.out (by omega) (by omega) (by omega)).symm, rfl⟩
          · go_wp2
            exact bodyPost_ret (v := _) (by simp [results, Tryz.results34, go_sem, Int.add_assoc]) rfl ⟨congrArg Ending.returned (got_ok HE.out HC.out (by omega) (by omega) (by omega)).symm, rfl⟩
end Go.Proofs.PK
