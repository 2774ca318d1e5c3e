/- Proved: 'ScriptPatterns' answers true for every input, and leaves what it was handed as it was; its tied card. Conditions: the card's own. (The frame is the shell that proof-skeleton.mjs wrote.) -/
import Derived.Test.YtojfppkibmmmdaaDoorRows
import Derived.WalkKit
import Derived.ProofKit
import Derived.OpenShut
import Derived.Stop.Joined
import Derived.LaidMore
import Derived.SevenTiedAt
import Derived.Test.YtojfppkibmmmdaaDoorCards
import Derived.Test.YtojfppkibmmmdaaDoorTie
import Derived.Test.YtojfppkibmmmdaaDoorAc
import Derived.Test.YtojfppkibmmmdaaDoorP0
import Derived.Test.YtojfppkibmmmdaaDoorP1
import Derived.Test.YtojfppkibmmmdaaDoorP2
import Derived.Test.YtojfppkibmmmdaaDoorP3
import Derived.Test.YtojfppkibmmmdaaDoorP4
import Derived.Test.YtojfppkibmmmdaaDoorP5
import Derived.Test.YtojfppkibmmmdaaDoorP6
import Derived.Test.YtojfppkibmmmdaaDoorP7
namespace Go.Proofs.YtojfppkibmmmdaaDoor.scriptPatterns
open Go.ChangeShapes Go.WideShapes Go.ChangeAt Go.RowKit
set_option linter.unusedVariables false      -- a walk need not use every 'w<i>' (that an integer argument fits its kind)

theorem progOk' : Go.Ai.progOk Tryd.prog = true := by kernel_rfl

theorem own : ownKnob Tryd.prog.godebug = none := by kernel_rfl

theorem answered (n : Nat) (h : n < 256) : Goal n := by
  by_cases h0 : n < 32
  · exact part0 n (by omega) h0
  by_cases h1 : n < 64
  · exact part1 n (by omega) h1
  by_cases h2 : n < 96
  · exact part2 n (by omega) h2
  by_cases h3 : n < 128
  · exact part3 n (by omega) h3
  by_cases h4 : n < 160
  · exact part4 n (by omega) h4
  by_cases h5 : n < 192
  · exact part5 n (by omega) h5
  by_cases h6 : n < 224
  · exact part6 n (by omega) h6
  exact part7 n (by omega) h

theorem walk (a0 : Int) (w0 : (Lit.int .u8 a0).wf = true) (w : World) (hL : Go.Ai.Tabled Tryd.prog w kk) :
    Calls Tryd.prog 4 #[.int .u8 a0] w fun e w' => e = .returned (.bool true) ∧ Below w.heap.size w w' := by
  obtain ⟨n, rfl⟩ : ∃ n : Nat, a0 = n := ⟨a0.toNat, by have := bounds_u8 w0; omega⟩
  have hn : n < 256 := by have := bounds_u8 w0; omega
  exact Go.Ai.ai_test progOk' (Checked.mixed Tryd.checked) 1000 200 4 [.int .u8 n] rfl kk (fun ts => Go.Ai.fast_true (answered n hn ts)) w hL

theorem door_met (os : Os) (args : Array Value) : laidMetH Tryd.prog Rows.scriptPatternsRow.laid ((World.doorLaid Tryd.prog 14 os).forCall (fun _ _ => 0) ⟨#[], args, []⟩).memory :=
  laidMetH_of_parts3 (fuel := 8) (laidMet_of_run' 8 (by kernel_rfl) (by kernel_rfl)) (by kernel_rfl) (by kernel_rfl)

theorem tabbed {w : World} (h : laidMetH Tryd.prog Rows.scriptPatternsRow.laid w) : Go.Ai.Tabled Tryd.prog w kk := Go.Ai.tabled_of (by kernel_rfl) (by kernel_rfl) h

/-! ### THE ROW's STEP: WRITTEN OUT: LEAVE IT -/
set_option maxRecDepth 100000 in
theorem lifted (os : Os) (started : os.Started) (H : Type) (enc : TypeId × Value → H) :
    ReturnsInHanded {} Tryd.checked os 4 .any (fun w args => (Rows.scriptPatternsSpec.pre enc Tryd.prog Tryd.f4 [] false w args ∧ laidMetH Tryd.prog Rows.scriptPatternsRow.laid w) ∧ sizedMet enc Tryd.prog Tryd.f4 (OpenSpec.ofChange Rows.scriptPatternsSpec) false w args) (Rows.scriptPatternsSpec.post enc Tryd.prog Tryd.f4 false true false false) := by
  refine returnsInHanded_of_change_and (C := Tryd.checked) (X := fun w _ => laidMetH Tryd.prog Rows.scriptPatternsRow.laid w) (fun _ _ _ hh h => h.of_heap hh) own started (by kernel_rfl) Tryd.func4
    (ChangeSpec.witness_shaped (enc := enc) (C := Tryd.checked) (os := os) (X := fun w _ => laidMetH Tryd.prog Rows.scriptPatternsRow.laid w) false (World.doorLaid Tryd.prog 14 os) #[.int .u8 0] 8 rfl (World.shaped_of_RefB (by kernel_rfl) (by kernel_rfl)) (by kernel_rfl) (by kernel_rfl) (by kernel_rfl) (door_met os _)) ?_
  intro W base args ds gs before hval0 hW _ _ hL _
  have hval : ∀ (j : Nat) t v, Tryd.f4.params[j]? = some t → args[j]? = some v → Value.okWide Tryd.prog W .any base t v := hval0
  have hW' := hW
  obtain ⟨p, q, hA0, hV, rfl, hfz, hnd⟩ := hW
  have hA : DataW.TrodAll enc Tryd.prog W 0 (fun _ => true) true Tryd.f4.params.toList args.toList ds p := hA0
  rw [Tryd.params4] at hA hval
  obtain ⟨v0, vs0, d0, ds0, p0, q0, hargs, rfl, rfl, h0, r0⟩ := trodAll_cons hA
  obtain ⟨rfl, rfl, rfl⟩ := trodAll_nil r0
  obtain rfl : args = #[v0] := by cases args; simp_all
  obtain ⟨rfl, rfl⟩ := trodVars_none hV
  obtain ⟨a0, rfl, rfl, rfl, w0⟩ := open_int Tryd.underlying5 (hval 0 5 v0 rfl rfl) h0
  clear hA0 hval0
  simp only [List.append_nil] at hW'
  refine (walk a0 w0 W (tabbed hL)).mono fun e W' ⟨he, hg⟩ => ?_
  subst he
  exact ⟨_, rfl, Go.Ai.row_post (pa := []) (pv := []) hW' (fun _ _ _ => (trodAll_cons_mk (shut_bool Tryd.underlying4 _) trodAll_mk0)) (fun sp _ => (trodAll_cons_mk (shut_int Tryd.underlying5 w0) trodAll_mk0)) (fun _ _ => rfl) rfl hg (ok_one (by kernel_rfl) rfl (okWide_bool_mk Tryd.underlying4 _))⟩

theorem over : Rows.scriptPatternsRow.holds Tryd.pinned (OpenSpec.ofChange Rows.scriptPatternsSpec) :=
  OpenClaim.holds_of_wide 4 Tryd.f4 rfl rfl rfl rfl rfl rfl rfl ⟨rfl, rfl, rfl, rfl, rfl⟩ rfl rfl rfl rfl rfl (by kernel_rfl) Tryd.func4 (by kernel_rfl)
    (of_decide_eq_true (by kernel_rfl)) (by unfold Func.isWrapper; first | (rw [if_pos (by decide +kernel)]; kernel_rfl) | (rw [if_neg (by decide +kernel)]; exact ⟨rfl, rfl⟩))
    (fun os started H enc _ => lifted os started H enc)

/-- ████ THE STATEMENT ████ -/
theorem proved : Rows.ScriptPatternsCardSaid :=
  Claim7.holds_tied_plain_at .later [] [.data] true (true, "018ce4b2d2721757188613fd15d872e134e218230fc6cf0112f1e1ed7588fe74") false
    over (fun _ h => by cases h) (by kernel_rfl) (fun _ h => by cases h) scriptPatterns_row_tie rfl ⟨rfl, rfl⟩ (by kernel_rfl) rfl
    (fun f fn hf hfn => by
      obtain rfl : f = 4 := Option.some.inj ((show Tryd.prog.funcNamed "equerry/equerrylaw29.ScriptPatterns" = some 4 by kernel_rfl).symm.trans hf) |>.symm
      obtain rfl : fn = Tryd.f4 := (Option.some.inj (Tryd.func4.symm.trans hfn)).symm
      exact ⟨by kernel_rfl, fun j t ht => by
        rw [Tryd.params4] at ht
        have hm : t ∈ [5] := by simpa using Array.mem_of_getElem? ht
        have hall : ([5].all fun u => !Tryd.prog.wantsStandIn u) = true := by kernel_rfl
        exact (show Tryd.prog.wantsStandIn t = false by simpa using List.all_eq_true.1 hall t hm)⟩)
    (by kernel_rfl)
#print axioms proved
end Go.Proofs.YtojfppkibmmmdaaDoor.scriptPatterns
