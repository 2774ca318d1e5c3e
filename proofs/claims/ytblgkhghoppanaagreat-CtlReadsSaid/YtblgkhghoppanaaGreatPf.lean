/- Proved: contracts of single functions of the program and lemmas that they need; each theorem says its own conditions. -/
import Derived.Test.YtblgkhghoppanaaGreatPe
import Derived.IntWalk
set_option linter.unusedVariables false
set_option linter.unusedSimpArgs false
namespace Go.Proofs.PK
open Go.RowKit
/-- A number's reading, from its i-th byte on. -/
def dec : Nat → List Nat → Except Nat (Nat × Nat)
  | _, [] => .error 3
  | i, c :: r => if i = 9 ∧ 1 < c then .error 4 else if 128 ≤ c then (match dec (i + 1) r with | .ok (n, k) => .ok (c % 128 + 128 * n, k + 1) | .error e => .error e) else if c = 0 ∧ 0 < i then .error 2 else .ok (c, 1)
def lift (i n p : Nat) : Except Nat (Nat × Nat) → Except Nat (Nat × Nat)
  | .ok (m, k) => .ok (n + p * m, i + k)
  | .error e => .error e
theorem lift_big (i n p c : Nat) (x : Except Nat (Nat × Nat)) : lift i n p (match x with | .ok (n, k) => .ok (c % 128 + 128 * n, k + 1) | .error e => .error e) = lift (i + 1) (n + c % 128 * p) (p * 128) x := by
  rcases x with e | ⟨m, k⟩
  · rfl
  · simp only [lift, Except.ok.injEq, Prod.mk.injEq]
    refine ⟨?_, by omega⟩
    rw [Nat.mul_add, Nat.mul_comm (c % 128) p, ← Nat.mul_assoc]
    omega
theorem lift_step (i n p c : Nat) (r : List Nat) (h9 : ¬ (i = 9 ∧ 1 < c)) (h : 128 ≤ c) : lift i n p (dec i (c :: r)) = lift (i + 1) (n + c % 128 * p) (p * 128) (dec (i + 1) r) := by
  conv => lhs; rw [dec]
  rw [if_neg h9, if_pos h, lift_big]
def got (a : Nat) : Except Nat (Nat × Nat) → Value
  | .ok (n, k) => .tuple #[.int .u64 n, .int .i64 ((a + k : Nat) : Int), .int .i64 0]
  | .error e => .tuple #[.int .u64 0, .int .i64 0, .int .i64 e]
/-- A row of bytes with its room. -/
def RdC (w : World) (v : Value) (l : List Nat) : Prop := ∃ b o cap, v = .slice (some ⟨b, o, none⟩) l.length cap ∧ l.length ≤ cap ∧ (0 < l.length → b < w.heap.size) ∧ ∀ (j x : Nat), l[j]? = some x → w.cell? ⟨b, o + j, none⟩ = some (.int .u8 x)
theorem RdC.rd {w : World} {v : Value} {l : List Nat} (h : RdC w v l) : Rd w v l := by
  obtain ⟨b, o, cap, rfl, _, h1, h2⟩ := h
  refine ⟨b, o, cap, rfl, h1, fun j x hx => ?_⟩
  unfold B at hx
  rw [List.getElem?_map] at hx
  obtain ⟨y, hy, rfl⟩ := Option.map_eq_some_iff.1 hx
  rw [Addr.add_lit]
  exact h2 j y hy
def Got (a : Nat) (r : Except Nat (Nat × Nat)) (w : World) (e : Ending) (w' : World) : Prop := e = .returned (got a r) ∧ w' = w
def R38 (l : List Nat) (a : Nat) (w : World) (vn vt vi : Value) (wr : World) : Prop := ∃ (i n p : Nat), vn = .int .u64 n ∧ vt = .int .u64 p ∧ vi = .int .i64 i ∧ i ≤ 9 ∧ p = 128 ^ i ∧ n < p ∧ dec 0 (l.drop a) = lift i n p (dec i (l.drop (a + i))) ∧ a + i ≤ l.length ∧ wr = w
theorem pow_le {i : Nat} (h : i ≤ 9) : 128 ^ i ≤ 9223372036854775808 := Nat.le_trans (Nat.pow_le_pow_right (by omega) h) (by decide)
theorem drop_one {l : List Nat} {j c : Nat} (h : l[j]? = some c) : l.drop j = c :: l.drop (j + 1) := by
  obtain ⟨hj, rfl⟩ := List.getElem?_eq_some_iff.1 h
  exact List.drop_eq_getElem_cons hj
theorem got_end {l : List Nat} {a i n p : Nat} (he : dec 0 (l.drop a) = lift i n p (dec i (l.drop (a + i)))) (h : l.length ≤ a + i) : got a (dec 0 (l.drop a)) = .tuple #[.int .u64 0, .int .i64 0, .int .i64 3] := by
  rw [he, List.drop_eq_nil_of_le h]; rfl
theorem got_four {l : List Nat} {a n p c : Nat} (he : dec 0 (l.drop a) = lift 9 n p (dec 9 (l.drop (a + 9)))) (hc : l[a + 9]? = some c) (h1 : 1 < c) : got a (dec 0 (l.drop a)) = .tuple #[.int .u64 0, .int .i64 0, .int .i64 4] := by
  rw [he, drop_one hc, dec, if_pos ⟨rfl, h1⟩]; rfl
theorem got_two {l : List Nat} {a i n p : Nat} (he : dec 0 (l.drop a) = lift i n p (dec i (l.drop (a + i)))) (hc : l[a + i]? = some 0) (h : 0 < i) : got a (dec 0 (l.drop a)) = .tuple #[.int .u64 0, .int .i64 0, .int .i64 2] := by
  rw [he, drop_one hc, dec, if_neg (by omega), if_neg (by omega), if_pos ⟨rfl, h⟩]; rfl
theorem got_ok {l : List Nat} {a i n p c : Nat} (he : dec 0 (l.drop a) = lift i n p (dec i (l.drop (a + i)))) (hc : l[a + i]? = some c) (h9 : ¬ (i = 9 ∧ 1 < c)) (h8 : c < 128) (h0 : ¬ (c = 0 ∧ 0 < i)) : got a (dec 0 (l.drop a)) = .tuple #[.int .u64 (n + c % 128 * p : Nat), .int .i64 (a + (i + 1) : Nat), .int .i64 0] := by
  rw [he, drop_one hc, dec, if_neg h9, if_neg (by omega), if_neg h0, Nat.mod_eq_of_lt h8, Nat.mul_comm]; rfl
theorem room9 {i n p c : Nat} (hi : i ≤ 9) (hp : p = 128 ^ i) (hn : n < p) (hc : i = 9 → c ≤ 1) : n + c % 128 * p < 18446744073709551616 := by
  have h1 : c % 128 ≤ 127 := by omega
  by_cases h : i = 9
  · have := hc h
    have hp2 : p = 9223372036854775808 := by rw [hp, h]
    have : c % 128 * p ≤ 1 * p := Nat.mul_le_mul_right p (by omega)
    omega
  · have hp2 : p ≤ 72057594037927936 := by rw [hp]; exact Nat.le_trans (Nat.pow_le_pow_right (by omega) (show i ≤ 8 by omega)) (by decide)
    have : c % 128 * p ≤ 127 * p := Nat.mul_le_mul_right p h1
    omega
theorem acc_lt {n p c : Nat} (hn : n < p) : n + c % 128 * p < p * 128 := by
  have h1 : c % 128 ≤ 127 := by omega
  have : c % 128 * p ≤ 127 * p := Nat.mul_le_mul_right p h1
  omega
theorem wrap_n {x : Int} (m : Nat) (hx : x = m) (h : m < 18446744073709551616) : IntKind.u64.wrap x = m := by
  rw [hx, IntWalk.u64_in _ (by omega)]
theorem wrap_acc {n p c : Nat} (h : n + c % 128 * p < 18446744073709551616) : IntKind.u64.wrap ((n : Int) + IntKind.u64.wrap ((c : Int) % 128 * (p : Int))) = ((n + c % 128 * p : Nat) : Int) := by
  have e : IntKind.u64.wrap ((c : Int) % 128 * (p : Int)) = ((c % 128 * p : Nat) : Int) := wrap_n (c % 128 * p) (by push_cast; rfl) (by omega)
  rw [e]
  exact wrap_n (n + c % 128 * p) (by push_cast; rfl) h
theorem wrap_times {p i : Nat} (hi : i < 9) (hp : p = 128 ^ i) : IntKind.u64.wrap ((p : Int) * 128) = ((p * 128 : Nat) : Int) := by
  have hp2 : p ≤ 72057594037927936 := by rw [hp]; exact Nat.le_trans (Nat.pow_le_pow_right (by omega) (show i ≤ 8 by omega)) (by decide)
  exact wrap_n _ (by push_cast; rfl) (by omega)
set_option maxRecDepth 100000 in
set_option maxHeartbeats 1000000 in
theorem c38 (v : Value) (l : List Nat) (a : Nat) (w : World) (h : RdC w v l) (hby : Byt l) (hl : l.length ≤ 1000000) (ha : a ≤ l.length) : Calls Tryz.prog 38 #[v, .int .i64 a] w (Got a (dec 0 (l.drop a)) w) := by
  obtain ⟨b, o, cap, rfl, hcap, hb, hr⟩ := h
  have HR := Lib.hid hr
  have HB := Lib.hid hby
  clear hr hb hby
  go_enter Tryz.func38, Tryz.ntmps38
  go_wp2
  have hd1 : decide (l.length < a) = false := by simp; omega
  have hd2 : decide ((a : Int) < 0) = false := by simp
  simp only [hd1, hd2, Bool.or_self]
  clear hd1 hd2
  go_loopw [7, 8, 9] (fun vn vt vi wr => R38 l a w vn vt vi wr) (fun _ _ vi _ => (20 - intOf vi).toNat)
  case atStart =>
    refine ⟨0, 0, 1, rfl, rfl, rfl, by omega, rfl, by omega, ?_, by omega, rfl⟩
    rcases dec 0 (l.drop a) with e | ⟨m, k⟩ <;> simp [lift]
  case round =>
    obtain ⟨i, n, p, rfl, rfl, rfl, hi, hp, hn, he, hai, rfl⟩ := hrel
    have hp9 : p ≤ 9223372036854775808 := by rw [hp]; exact pow_le hi
    have HE := Lib.hid he; have HP := Lib.hid hp
    clear he hp
    by_cases hend : l.length ≤ a + i
    · have hend2 : ¬ (a + i < l.length) := by omega
      go_wp2
      exact bodyPost_ret (v := _) (by simp [results, Tryz.results38, go_sem]) rfl ⟨congrArg Ending.returned (got_end HE.out hend).symm, rfl⟩
    · obtain ⟨c, hc⟩ : ∃ c, l[a + i]? = some c := ⟨_, List.getElem?_eq_getElem (by omega)⟩
      have hcell := HR.out (a + i) c hc
      have hc8 : c < 256 := HB.out c (List.mem_of_getElem? hc)
      have HC := Lib.hid hc
      have hlt : a + i < l.length := by omega
      clear hc hend
      by_cases h9 : i = 9
      · subst h9
        by_cases h1 : 1 < c
        · go_wp2
          exact bodyPost_ret (v := _) (by simp [results, Tryz.results38, go_sem]) rfl ⟨congrArg Ending.returned (got_four HE.out HC.out h1).symm, rfl⟩
        · have hq := wrap_acc (room9 hi HP.out hn (c := c) (by omega))
          by_cases h0 : c = 0
          · subst h0
            go_wp2
            exact bodyPost_ret (v := _) (by simp [results, Tryz.results38, go_sem]) rfl ⟨congrArg Ending.returned (got_two HE.out HC.out (by omega)).symm, rfl⟩
          · go_wp2
            exact bodyPost_ret (v := _) (by simp [results, Tryz.results38, go_sem]) rfl ⟨congrArg Ending.returned (got_ok HE.out HC.out (by omega) (by omega) (by omega)).symm, rfl⟩
      · have hq := wrap_acc (room9 hi HP.out hn (c := c) (by omega))
        have ht := wrap_times (by omega) HP.out
        by_cases h128 : 128 ≤ c
        · go_wp2
          go_roundw
          case rel => exact ⟨i + 1, n + c % 128 * p, p * 128, by simp, by simp, by simp, by omega, by rw [Nat.pow_succ, ← HP.out], acc_lt hn, by rw [HE.out, drop_one HC.out, lift_step _ _ _ _ _ (by omega) h128, Nat.add_assoc], by omega, rfl⟩
          case measure => simp [intOf]; omega
        · by_cases h0 : c = 0
          · subst h0
            by_cases hi0 : 0 < i
            · go_wp2
              exact bodyPost_ret (v := _) (by simp [results, Tryz.results38, go_sem]) rfl ⟨congrArg Ending.returned (got_two HE.out HC.out (by omega)).symm, rfl⟩
            · go_wp2
              exact bodyPost_ret (v := _) (by simp [results, Tryz.results38, go_sem]) rfl ⟨congrArg Ending.returned (got_ok HE.out HC.out (by omega) (by omega) (by omega)).symm, rfl⟩
          · go_wp2
            exact bodyPost_ret (v := _) (by simp [results, Tryz.results38, go_sem]) rfl ⟨congrArg Ending.returned (got_ok HE.out HC.out (by omega) (by omega) (by omega)).symm, rfl⟩
end Go.Proofs.PK
