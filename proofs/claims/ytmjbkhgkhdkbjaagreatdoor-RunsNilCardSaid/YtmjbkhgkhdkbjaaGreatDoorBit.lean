/- The iterator 'places' of the automata at one bit; the summary of the function that joins two parts. Conditions: none but what each theorem names. -/
import Derived.Test.YtmjbkhgkhdkbjaaGreatDoorJoin
import Derived.Test.YtmjbkhgkhdkbjaaGreatDoorProg
import Derived.Test.YtmjbkhgkhdkbjaaGreatDoorChecked
import Derived.Test.YtmjbkhgkhdkbjaaGreatDoorAe
import Derived.TacticsIn
import Derived.OwnWalkIn
import Derived.LoopNIn
import Derived.LoopIn
import Derived.WalkMore
import Derived.WalkKit
import Derived.TacticsInMore
import Derived.IntWalk
import Derived.Laws.BitsLemmas
set_option linter.unusedVariables false
set_option linter.unusedSimpArgs false
namespace Go.Proofs.JB
open Go.RowKit Go.Ai
theorem and_one32 (i : Nat) (hi : i < 4294967296) : bits BinOp.and IntKind.u32 (i : Int) 1 = ((i % 2 : Nat) : Int) := by
  have e32 : (2 : Int) ^ 32 = 4294967296 := by decide
  have h := bits_mask .u32 32 (by decide) (fun n h0 h1 => by rw [e32] at h1; have e : IntKind.u32.bits = 32 := rfl; have s : IntKind.u32.signed = false := rfl; unfold IntKind.wrap; simp [e, s]; omega) 1 (by decide) (i : Int) (by omega) (by rw [e32]; omega)
  have e : ((2 : Int) ^ 1 - 1) = 1 := by decide
  rw [e] at h
  rw [h]
  omega
theorem bit_at (p k : Nat) : (2 ^ p / 2 ^ k) % 2 = if k = p then 1 else 0 := by
  rcases Nat.lt_trichotomy k p with h | h | h
  · rw [Nat.pow_div (by omega) (by omega), if_neg (by omega)]
    obtain ⟨d, hd⟩ : ∃ d, p - k = d + 1 := ⟨p - k - 1, by omega⟩
    rw [hd, Nat.pow_succ, Nat.mul_mod_left]
  · subst h; rw [Nat.div_self (Nat.two_pow_pos k), if_pos rfl]
  · rw [Nat.div_eq_of_lt (Nat.pow_lt_pow_right (by omega) h), if_neg (by omega)]
def seen (p k : Nat) : List Unit := if k ≤ p then [] else [()]
set_option maxRecDepth 100000 in
set_option maxHeartbeats 1000000 in
theorem cBit (F : Fence) (n : Nat) (h6 : F.fn 90) (hro : F.round = none) (hn : 1 ≤ n) (l b p : Nat) (hp : p < 32) (J Jx : List Unit → World → Prop)
    (hY : ∀ pre x W, J pre W → pre.length < 1 → YieldAt F (n - 1) Tryz.prog l #[.int .i64 p] W fun e W' =>
      (e = .returned (.bool true) ∧ J (pre ++ [x]) W' ∧ W'.cell? ⟨b, 0, none⟩ = W.cell? ⟨b, 0, none⟩) ∨ (e = .returned (.bool false) ∧ Jx (pre ++ [x]) W'))
    (W : World) (hb : W.cell? ⟨b, 0, none⟩ = some (.int .u32 ((2 ^ p : Nat) : Int))) (h0 : J [] W) :
    CallsIn F n Tryz.prog 90 #[.func (.yield l) #[] #[], .pointer (some ⟨b, 0, none⟩)] W fun e W' => (∃ v, e = .returned v) ∧
      ((∃ ys, ys = [()] ∧ J ys W') ∨ (∃ pre, True ∧ Jx pre W')) := by
  refine callsIn_of_wp Tryz.func90 rfl h6 ?_ hro
  simp only [Tryz.ntmps90, List.size_toArray, List.length_cons, List.length_nil, Nat.reduceAdd, Nat.reduceSub, Array.replicate_succ, Array.replicate_zero, List.push_toArray, List.append_toArray, List.nil_append, List.cons_append]
  have hset : (2 : Nat) ^ p < 4294967296 := by
    have := Nat.pow_lt_pow_right (a := 2) (by omega) hp
    simpa using this
  generalize hs : (2 : Nat) ^ p = set at *
  gi_wp2
  gi_loopw [4] (fun i wr => ∃ k : Nat, i = .int .i64 k ∧ k ≤ 32 ∧ wr.cell? ⟨b, 0, none⟩ = some (.int .u32 set) ∧ J (seen p k) wr) (fun i wr => 32 - (intOf i).toNat)
  case atStart => exact ⟨0, rfl, Nat.zero_le _, hb, by simpa [seen] using h0⟩
  case round =>
    obtain ⟨k, rfl, hk, hbr, hJ⟩ := hrel
    by_cases hlt : k < 32
    · have k0 : (0 : Int) ≤ (k : Int) := by omega
      have k1 : (k : Int) ≤ 32 := by omega
      have k2 : (k : Int) < 32 := by omega
      have hand : bits .and .u32 ((set : Int) / 2 ^ k) 1 = (((set / 2 ^ k) % 2 : Nat) : Int) := by
        have e : ((set : Int) / 2 ^ k) = ((set / 2 ^ k : Nat) : Int) := by simp
        rw [e]
        exact and_one32 _ (Nat.lt_of_le_of_lt (Nat.div_le_self _ _) hset)
      have hbit := bit_at p k
      rw [hs] at hbit
      clear hs
      by_cases ht : k = p
      · subst ht
        rw [if_pos rfl] at hbit
        have hv : (bits .and .u32 ((set : Int) / 2 ^ k) 1 == 1) = true := by rw [hand, hbit]; rfl
        have hseen : seen k k = [] := by simp [seen]
        have hseen2 : seen k (k + 1) = [()] := by simp [seen]
        rw [hseen] at hJ
        obtain ⟨fn, tmps, assign, body, hy, hR⟩ := hY [] () wr hJ (by simp)
        have hn1 : ∀ W : World, (Op.unary .not (.bool true)).run Tryz.prog W = .ok (.bool false) W := fun W => rfl
        have hn2 : ∀ W : World, (Op.unary .not (.bool false)).run Tryz.prog W = .ok (.bool true) W := fun W => rfl
        gi_wp2
        refine hR.mono ?_
        rintro e W3 (⟨rfl, hJ3, hk3⟩ | ⟨rfl, hJx3⟩)
        · have hb3 := hk3.trans hbr
          gi_wp2
          go_roundw
          case rel => exact ⟨k + 1, by go_num, by omega, hb3, by rw [hseen2]; exact hJ3⟩
          case measure => simp [intOf]; omega
        · gi_wp2
          refine bodyPost_ret (results_none rfl _ _ _) rfl ?_
          exact ⟨⟨_, rfl⟩, .inr ⟨_, trivial, hJx3⟩⟩
      · rw [if_neg ht] at hbit
        have hv : (bits .and .u32 ((set : Int) / 2 ^ k) 1 == 1) = false := by rw [hand, hbit]; rfl
        have hsucc : seen p (k + 1) = seen p k := by
          unfold seen
          by_cases h : k ≤ p
          · rw [if_pos h, if_pos (by omega)]
          · rw [if_neg h, if_neg (by omega)]
        gi_wp2
        refine ⟨fun _ h => (by cases h), ?_⟩
        gi_wp2
        go_roundw
        case rel => exact ⟨k + 1, by go_num, by omega, hbr, by rw [hsucc]; exact hJ⟩
        case measure => simp [intOf]; omega
    · have hk32 : k = 32 := by omega
      subst hk32
      gi_wp2
      go_end0
      have : seen p 32 = [()] := by unfold seen; rw [if_neg (by omega)]
      rw [this] at hJ
      exact ⟨⟨_, rfl⟩, .inl ⟨_, rfl, hJ⟩⟩
theorem yieldsBit : YieldsBit Tryz.prog 90 := fun k hk b q hq w hb hc l J Jx W hW _ _ hY h0 =>
  cBit Fence.wide k trivial rfl hk l b q hq J Jx hY W ((hW.cell (p := ⟨b, 0, none⟩) hb).trans hc) h0
/-- The parts of 'joins'. -/
noncomputable def JJ : JP := match Tryz.f59.body with
  | some (.seq c0 (.seq c1 (.block b0 (.rangeFunc (.tmp t1) ps1 as1 (.block b1 (.seq c3 (.block b2 (.rangeFunc (.tmp t2) ps2 as2 body)))))))) => ⟨90, c0, c1, t1, ps1.getD 0 0, as1, c3, t2, ps2.getD 0 0, as2, body, b0, b1, b2⟩
  | _ => ⟨90, .skip, .skip, 0, 0, .skip, .skip, 0, 0, .skip, .skip, 0, 0, 0⟩
theorem JJ_ok : JJ.ok = true := by kernel_rfl
theorem JJ_code : Tryz.f59.body = some JJ.code := rfl
theorem progOkN : progOk Tryz.prog = true := by kernel_rfl
noncomputable def joinsSums (sums : Sums) (n d : Nat) : Sums := oneOf [(59, JJ.sum Tryz.prog sums n d Tryz.f59.ntmps)]
theorem joinsSum_ok {w0 : World} {sums : Sums} (hsums : SumsSound Tryz.prog w0 sums) (n d : Nat) : SumOk Tryz.prog w0 59 (JJ.sum Tryz.prog sums n d Tryz.f59.ntmps) := fun args σ r e ι w args' h ha =>
  JP.sum_sound JJ_ok (progOk_spec progOkN) (by kernel_rfl) hsums yieldsBit (fun args w => callFunc_enter (progOk_spec progOkN) Tryz.func90 rfl args w) Tryz.func59 JJ_code rfl e h ha
end Go.Proofs.JB
