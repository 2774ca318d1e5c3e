/- Proved: 'NetNil' answers true for every input, and leaves what it was handed as it was. Conditions: none. -/
import Derived.Test.YtopnmikijbajfaaRows
import Derived.WalkKit
import Derived.ProofKit
import Derived.OpenShut
import Derived.Test.YtopnmikijbajfaaAd
namespace Go.Proofs.Ytopnmikijbajfaa.netNil
open Go.ChangeShapes Go.WideShapes Go.ChangeAt Go.RowKit
set_option linter.unusedVariables false
set_option linter.unusedSimpArgs false

theorem progOk' : Go.Ai.progOk Try.prog = true := by kernel_rfl
theorem outer (a : Array Value) (h : a.toList.length = 1) : ∃ v0, a = #[v0] := by
  obtain ⟨l⟩ := a
  match l, h with
  | [v0], _ => exact ⟨v0, rfl⟩
theorem own : ownKnob Try.prog.godebug = none := by kernel_rfl
theorem laidOut' : laidOutB Try.prog = true := by kernel_rfl

/-- What is told beforehand of the test in 'cut'. -/
def told (b : Option Bool) : Go.Ai.Orc := fun f t => match f, t with
  | 8, 23 => b
  | _, _ => none
def hard : FuncId → Bool := fun f => Nat.beq f 13
/-- The test in 'cut'. -/
def test (len : Nat) : Bool := decide ((6000 : Int) < IntKind.i64.wrap (0 + if (90000 : Int) < (len : Int) then 90000 else (len : Int)))
def good : Value × Option Go.Ai.AW → Prop := fun r => r = (.bool true, none)
theorem run_nil (a b c d : Int) (ts : Nat → TypeId) : Go.Ai.asked Try.prog Go.Ai.noSums hard (told none) 1000 200 5 [.agg [.int .i64 a, .int .u32 b, .int .u32 c, .slice none 0 0, .int .i64 d].toArray] (Go.Ai.tabW Try.prog ts [] 0) good = good (.bool true, none) := by kernel_rfl
theorem run_small (off len cap : Nat) (a b c d : Int) (ts : Nat → TypeId) : Go.Ai.asked Try.prog Go.Ai.noSums hard (told (some false)) 1000 200 5 [.agg [.int .i64 a, .int .u32 b, .int .u32 c, .slice (some ⟨0 + 0, off, none⟩) len cap, .int .i64 d].toArray] (Go.Ai.tabW Try.prog ts [] 1) good = (test len = false ∧ good (.bool true, none)) := by kernel_rfl
theorem run_great (off len cap : Nat) (a b c d : Int) (ts : Nat → TypeId) : Go.Ai.asked Try.prog Go.Ai.noSums hard (told (some true)) 1000 200 5 [.agg [.int .i64 a, .int .u32 b, .int .u32 c, .slice (some ⟨0 + 0, off, none⟩) len cap, .int .i64 d].toArray] (Go.Ai.tabW Try.prog ts [] 1) good = (test len = true ∧ good (.bool true, none)) := by kernel_rfl

theorem walk {base : Nat} (v0 : Value) {W : World} (h0 : Value.okWide Try.prog W .any base 32 v0) :
    Calls Try.prog 5 #[v0] W fun e w' => e = .returned (.bool true) ∧ Below W.heap.size W w' := by
  obtain ⟨cs, rfl, hl, hc⟩ := Go.Ai.okWide_struct (ts := [3, 26, 26, 28, 3]) Try.underlying32 (by kernel_rfl) (by kernel_rfl) h0
  match cs, hl with
  | [c0, c1, c2, c3, c4], _ =>
  obtain ⟨u0, e0, k0⟩ := hc 0 c0 rfl; cases e0
  obtain ⟨u1, e1, k1⟩ := hc 1 c1 rfl; cases e1
  obtain ⟨u2, e2, k2⟩ := hc 2 c2 rfl; cases e2
  obtain ⟨u3, e3, k3⟩ := hc 3 c3 rfl; cases e3
  obtain ⟨u4, e4, k4⟩ := hc 4 c4 rfl; cases e4
  obtain ⟨a, rfl, _⟩ := Go.Ai.cell_int Try.underlying3 k0
  obtain ⟨b, rfl, _⟩ := Go.Ai.cell_int Try.underlying26 k1
  obtain ⟨c, rfl, _⟩ := Go.Ai.cell_int Try.underlying26 k2
  obtain ⟨d, rfl, _⟩ := Go.Ai.cell_int Try.underlying3 k4
  have hG : Try.prog.globals.size = 0 := by kernel_rfl
  rcases Go.Ai.cell_slice Try.underlying28 k3 with rfl | ⟨blk, off, len, cap, rfl, hlc, hcap⟩
  · refine Go.Ai.ai_asked progOk' (Checked.mixed Try.checked) hard (told none) 1000 200 5 [] [] [.agg [.int .i64 a, .int .u32 b, .int .u32 c, .slice none 0 0, .int .i64 d].toArray] _ (.bool true) _ (Go.Ai.tabled_nil _) (.cons (.aggL (.cons (.int _ _) (.cons (.int _ _) (.cons (.int _ _) (.cons (.snil _ _) (.cons (.int _ _) (.nil _))))))) (.nil _)) (fun ts => ?_) rfl
    exact (run_nil a b c d ts).mpr rfl
  · have hs := Go.Ai.mix_slice (P := Try.prog) (bs := [blk]) 0 rfl off len cap hlc hcap
    rw [hG] at hs
    have hargs : Go.Ai.LRel (Go.Ai.mixInj Try.prog [blk]) [.agg [.int .i64 a, .int .u32 b, .int .u32 c, .slice (some ⟨0 + 0, off, none⟩) len cap, .int .i64 d].toArray] [.agg [.int .i64 a, .int .u32 b, .int .u32 c, .slice (some ⟨blk, off, none⟩) len cap, .int .i64 d].toArray] :=
      .cons (.aggL (.cons (.int _ _) (.cons (.int _ _) (.cons (.int _ _) (.cons hs (.cons (.int _ _) (.nil _))))))) (.nil _)
    cases ht : test len with
    | false => exact Go.Ai.ai_asked progOk' (Checked.mixed Try.checked) hard (told (some false)) 1000 200 5 [] [blk] _ _ (.bool true) _ (Go.Ai.tabled_nil _) hargs (fun ts => (run_small off len cap a b c d ts).mpr ⟨ht, rfl⟩) rfl
    | true => exact Go.Ai.ai_asked progOk' (Checked.mixed Try.checked) hard (told (some true)) 1000 200 5 [] [blk] _ _ (.bool true) _ (Go.Ai.tabled_nil _) hargs (fun ts => (run_great off len cap a b c d ts).mpr ⟨ht, rfl⟩) rfl

set_option maxRecDepth 100000 in
theorem lifted (os : Os) (started : os.Started) (H : Type) (enc : TypeId × Value → H) :
    ReturnsInHanded {} Try.checked os 5 .any (Rows.netNilSpec.pre6 enc Try.prog Try.f5 Rows.netNilRow.domain false) (Rows.netNilSpec.post enc Try.prog Try.f5 false true false false) := by
  refine returnsInHanded_of_change (C := Try.checked) own started (by kernel_rfl) Try.func5
    (ChangeSpec.witness6 (enc := enc) (C := Try.checked) false ⟨#[], #[.agg #[.int .i64 0, .int .u32 0, .int .u32 0, .slice none 0 0, .int .i64 0]], []⟩ 8 (by kernel_rfl) (by kernel_rfl) (by kernel_rfl) (by kernel_rfl)) ?_
  intro W base args ds gs before hval0 hW _ _
  have hval : ∀ (j : Nat) t v, Try.f5.params[j]? = some t → args[j]? = some v → Value.okWide Try.prog W .any base t v := hval0
  have hW' : DataW.Whole enc Try.prog Try.f5.params.toList Rows.netNilSpec.vars false W args.toList ds gs before := hW
  clear hval0 hW
  have hsize : args.toList.length = 1 := by
    obtain ⟨p, q, hA0, _⟩ := hW'
    have hA : DataW.TrodAll enc Try.prog W 0 (fun _ => true) true Try.f5.params.toList args.toList ds p := hA0
    rw [Try.params5] at hA
    exact (Go.Ai.trodAll_len hA).1
  obtain ⟨v0, rfl⟩ : ∃ v0, args = #[v0] := outer args hsize
  rw [Try.params5] at hval
  refine (walk v0 (hval 0 32 v0 rfl rfl)).mono fun e W' ⟨he, hw⟩ => ?_
  refine ⟨_, he, Go.Ai.row_true (P := Try.prog) (f := Try.f5) (s := Rows.netNilSpec) (tb := 4) laidOut' (by kernel_rfl) rfl (fun ds h => ?_) (by kernel_rfl) Try.underlying4 hW' hw⟩
  rw [Try.params5] at h
  match ds, h with
  | [d0], _ => rfl

theorem over : Rows.netNilRow.holds Try.pinned (OpenSpec.ofChange Rows.netNilSpec) :=
  OpenClaim.holds_of_wide 5 Try.f5 rfl rfl rfl rfl rfl rfl rfl ⟨rfl, rfl, rfl, rfl, rfl⟩ rfl rfl rfl rfl rfl (by kernel_rfl) Try.func5 (by kernel_rfl)
    (of_decide_eq_true (by kernel_rfl)) (by unfold Func.isWrapper; first | (rw [if_pos (by decide +kernel)]; kernel_rfl) | (rw [if_neg (by decide +kernel)]; exact ⟨rfl, rfl⟩))
    (fun os started H enc _ => lifted os started H enc)

/-- ████ THE STATEMENT ████ -/
theorem proved : Rows.NetNilSaid :=
  over
#print axioms proved
end Go.Proofs.Ytopnmikijbajfaa.netNil
