/- Proved: 'SeglogNil' answers true for every input, and leaves what it was handed as it was; its tied card. Conditions: the card's own. -/
import Derived.Test.YtkcbcpohffcmjaaGreatDoorRows
import Derived.WalkKit
import Derived.ProofKit
import Derived.OpenShut
import Derived.Stop.Joined
import Derived.LaidMore
import Derived.Lay
import Derived.SevenTiedAt
import Derived.Test.YtkcbcpohffcmjaaGreatDoorCards
import Derived.Test.YtkcbcpohffcmjaaGreatDoorTie
import Derived.Test.YtkcbcpohffcmjaaGreatDoorAd
import Derived.Test.YtkcbcpohffcmjaaGreatDoorIter
namespace Go.Proofs.YtkcbcpohffcmjaaGreatDoor.seglogNil
open Go.ChangeShapes Go.WideShapes Go.ChangeAt Go.RowKit
set_option linter.unusedVariables false
set_option linter.unusedSimpArgs false

theorem progOk' : Go.Ai.progOk Tryz.prog = true := by kernel_rfl
theorem outer (a : Array Value) (h : a.toList.length = 2) : ∃ v0 v1, a = #[v0, v1] := by
  obtain ⟨l⟩ := a
  match l, h with
  | [v0, v1], _ => exact ⟨v0, v1, rfl⟩
theorem own : ownKnob Tryz.prog.godebug = none := by kernel_rfl
theorem laidOut' : laidOutB Tryz.prog = true := by kernel_rfl

noncomputable def kk : List (Nat × List Value) := (Go.Ai.tabOf Tryz.prog Rows.seglogNilRow.laid).getD []
/-- The test of the length, at which the run parts. -/
def orc : Go.Ai.Orc := fun f t => match f, t with
  | 3, 10 => true
  | _, _ => false
def hard : FuncId → Bool := fun f => Nat.beq f 4
noncomputable def sums : Go.Ai.Sums := Go.Ai.diskSums Tryz.prog 45 60 72 9
theorem run0 (n : Int) (ts : Nat → TypeId) : Go.Ai.asked Tryz.prog sums hard orc 1000 200 3 [.slice none 0 0, .int .u64 n] (Go.Ai.tabW Tryz.prog ts kk 0) Go.Ai.saysTrue = true := by kernel_rfl
theorem run1 (n : Int) (o l c : Nat) (ts : Nat → TypeId) : Go.Ai.asked Tryz.prog sums hard orc 1000 200 3 [.slice (some ⟨Tryz.prog.globals.size + 0, o, none⟩) l c, .int .u64 n] (Go.Ai.tabW Tryz.prog ts kk 1) Go.Ai.saysTrue = true := by kernel_rfl

set_option maxRecDepth 100000 in
theorem walk {base : Nat} (v0 v1 : Value) {W : World} (h0 : Value.okWide Tryz.prog W .any base 22 v0) (h1 : Value.okWide Tryz.prog W .any base 23 v1) (hL : Go.Ai.Tabled Tryz.prog W kk) :
    Calls Tryz.prog 3 #[v0, v1] W fun e W' => e = .returned (.bool true) ∧ Below W.heap.size W W' := by
  obtain ⟨n, rfl, _⟩ := Go.Ai.cell_int Tryz.underlying23 (Go.Ai.okWide_cell h1 (fun fs h => by rw [Tryz.underlying23] at h; cases h) (fun m e h => by rw [Tryz.underlying23] at h; cases h))
  have hS : ∀ w0, Go.Ai.SumsSound Tryz.prog w0 sums := fun w0 => Go.Ai.diskSums_sound progOk' Tryz.sortsKeys w0
  rcases Go.Ai.cell_slice Tryz.underlying22 (Go.Ai.okWide_cell h0 (fun fs h => by rw [Tryz.underlying22] at h; cases h) (fun m e h => by rw [Tryz.underlying22] at h; cases h)) with rfl | ⟨b, o, l, c, rfl, q, r⟩
  · exact Go.Ai.ai_asked progOk' (Checked.mixed Tryz.checked) sums hS hard orc 1000 200 3 kk [] _ _ W hL (.cons (.snil _ _) (.cons (.int _ _) (.nil _))) (fun ts => run0 n ts)
  · exact Go.Ai.ai_asked progOk' (Checked.mixed Tryz.checked) sums hS hard orc 1000 200 3 kk [b] _ _ W hL (.cons (Go.Ai.mix_slice 0 rfl o l c q r) (.cons (.int _ _) (.nil _))) (fun ts => run1 n o l c ts)

theorem tabbed {w : World} (h : laidMetH Tryz.prog Rows.seglogNilRow.laid w) : Go.Ai.Tabled Tryz.prog w kk := Go.Ai.tabled_of (by kernel_rfl) (by kernel_rfl) h

set_option maxRecDepth 100000 in
theorem lifted (os : Os) (started : os.Started) (H : Type) (enc : TypeId × Value → H) :
    ReturnsInHanded {} Tryz.checked os 3 .any (fun w args => (Rows.seglogNilSpec.pre enc Tryz.prog Tryz.f3 [] false w args ∧ laidMetH Tryz.prog Rows.seglogNilRow.laid w) ∧ sizedMet enc Tryz.prog Tryz.f3 (OpenSpec.ofChange Rows.seglogNilSpec) false w args) (Rows.seglogNilSpec.post enc Tryz.prog Tryz.f3 false true false false) := by
  refine returnsInHanded_of_change_and (C := Tryz.checked) (X := fun w _ => laidMetH Tryz.prog Rows.seglogNilRow.laid w) (fun _ _ _ hh h => h.of_heap hh) own started (by kernel_rfl) Tryz.func3
    (ChangeSpec.witness_shaped (enc := enc) (C := Tryz.checked) (os := os) (X := fun w _ => laidMetH Tryz.prog Rows.seglogNilRow.laid w) false (World.laidAll Tryz.prog os Rows.seglogNilRow.laid) #[.slice none 0 0, .int .u64 0] 8 (World.laidAll_os _ _ _) (World.shaped_of_ZipB (by kernel_rfl) (by kernel_rfl)) (by kernel_rfl) (by kernel_rfl) (by kernel_rfl) (by rw [MakeChecks.laidMetH_plain _ _ _ (by kernel_rfl)]; exact laidMet_laidAll _ (by kernel_rfl) (by kernel_rfl))) ?_
  intro W base args ds gs before hval0 hW _ _ hL _
  have hval : ∀ (j : Nat) t v, Tryz.f3.params[j]? = some t → args[j]? = some v → Value.okWide Tryz.prog W .any base t v := hval0
  have hW' : DataW.Whole enc Tryz.prog Tryz.f3.params.toList Rows.seglogNilSpec.vars false W args.toList ds gs before := hW
  clear hval0 hW
  have hsize : args.toList.length = 2 := by
    obtain ⟨p, q, hA0, _⟩ := hW'
    have hA : DataW.TrodAll enc Tryz.prog W 0 (fun _ => true) true Tryz.f3.params.toList args.toList ds p := hA0
    rw [Tryz.params3] at hA
    exact (Go.Ai.trodAll_len hA).1
  obtain ⟨v0, v1, rfl⟩ : ∃ v0 v1, args = #[v0, v1] := outer args hsize
  rw [Tryz.params3] at hval
  refine (walk v0 v1 (hval 0 22 v0 rfl rfl) (hval 1 23 v1 rfl rfl) (tabbed hL)).mono fun e W' ⟨he, hw⟩ => ?_
  refine ⟨_, he, Go.Ai.row_true (P := Tryz.prog) (f := Tryz.f3) (s := Rows.seglogNilSpec) (tb := 4) laidOut' (by kernel_rfl) rfl (fun ds h => ?_) (by kernel_rfl) Tryz.underlying4 hW' hw⟩
  rw [Tryz.params3] at h
  match ds, h with
  | [d0, d1], _ => rfl

theorem over : Rows.seglogNilRow.holds Tryz.pinned (OpenSpec.ofChange Rows.seglogNilSpec) :=
  OpenClaim.holds_of_wide 3 Tryz.f3 rfl rfl rfl rfl rfl rfl rfl ⟨rfl, rfl, rfl, rfl, rfl⟩ rfl rfl rfl rfl rfl (by kernel_rfl) Tryz.func3 (by kernel_rfl)
    (of_decide_eq_true (by kernel_rfl)) (by unfold Func.isWrapper; first | (rw [if_pos (by decide +kernel)]; kernel_rfl) | (rw [if_neg (by decide +kernel)]; exact ⟨rfl, rfl⟩))
    (fun os started H enc _ => lifted os started H enc)

/-- ████ THE STATEMENT ████ -/
theorem proved : Rows.SeglogNilCardSaid :=
  Claim7.holds_tied_plain_at .later [] [.data, .data, .data, .data, .data, .pinned] true (true, "d7d566c9b665bb62a321af627b56c8f445812ed3a45bc42f57e0c1bbad1fb702") false
    over (fun _ h => by cases h) (by kernel_rfl) (fun _ h => by cases h) seglogNil_row_tie rfl ⟨rfl, rfl⟩ (by kernel_rfl) rfl
    (fun f fn hf hfn => by
      obtain rfl : f = 3 := Option.some.inj ((show Tryz.prog.funcNamed "equerry/equerrylaw09.SeglogNil" = some 3 by kernel_rfl).symm.trans hf) |>.symm
      obtain rfl : fn = Tryz.f3 := (Option.some.inj (Tryz.func3.symm.trans hfn)).symm
      exact ⟨by kernel_rfl, fun j t ht => by
        rw [Tryz.params3] at ht
        have hm : t ∈ [22, 23] := by
          have := Array.mem_of_getElem? ht
          simp at this ⊢
          omega
        have hall : ([22, 23].all fun u => !Tryz.prog.wantsStandIn u) = true := by kernel_rfl
        exact (show Tryz.prog.wantsStandIn t = false by simpa using List.all_eq_true.1 hall t hm)⟩)
    (by kernel_rfl)
#print axioms proved
end Go.Proofs.YtkcbcpohffcmjaaGreatDoor.seglogNil
