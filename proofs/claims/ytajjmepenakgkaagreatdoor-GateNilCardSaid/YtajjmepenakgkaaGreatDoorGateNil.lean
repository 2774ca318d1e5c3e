/- Proved: 'GateNil' answers true for every input, and leaves what it was handed as it was; its tied card. Conditions: the card's own. -/
import Derived.Test.YtajjmepenakgkaaGreatDoorRows
import Derived.WalkKit
import Derived.ProofKit
import Derived.OpenShut
import Derived.Stop.Joined
import Derived.LaidMore
import Derived.Lay
import Derived.SevenTiedAt
import Derived.Test.YtajjmepenakgkaaGreatDoorCards
import Derived.Test.YtajjmepenakgkaaGreatDoorTie
import Derived.Test.YtajjmepenakgkaaGreatDoorAd
import Derived.Test.YtajjmepenakgkaaGreatDoorGd
import Derived.Test.YtajjmepenakgkaaGreatDoorGe
namespace Go.Proofs.YtajjmepenakgkaaGreatDoor.gateNil
open Go.ChangeShapes Go.WideShapes Go.ChangeAt Go.RowKit
set_option linter.unusedVariables false
set_option linter.unusedSimpArgs false

theorem progOk' : Go.Ai.progOk Tryz.prog = true := by kernel_rfl
theorem outer (a : Array Value) (h : a.toList.length = 4) : ∃ v0 v1 v2 v3, a = #[v0, v1, v2, v3] := by
  obtain ⟨l⟩ := a
  match l, h with
  | [v0, v1, v2, v3], _ => exact ⟨v0, v1, v2, v3, rfl⟩
theorem own : ownKnob Tryz.prog.godebug = none := by kernel_rfl
theorem laidOut' : laidOutB Tryz.prog = true := by kernel_rfl

noncomputable abbrev kk : List (Nat × List Value) := GK.kk
set_option maxRecDepth 100000 in
theorem walk {base : Nat} (v0 v1 v2 v3 : Value) {W : World} (h0 : Value.okWide Tryz.prog W .any base 22 v0) (h1 : Value.okWide Tryz.prog W .any base 23 v1) (h2 : Value.okWide Tryz.prog W .any base 24 v2) (h3 : Value.okWide Tryz.prog W .any base 24 v3) (hL : Go.Ai.Tabled Tryz.prog W kk) :
    Calls Tryz.prog 3 #[v0, v1, v2, v3] W fun e W' => e = .returned (.bool true) ∧ Below W.heap.size W W' := by
  obtain ⟨a, rfl, _⟩ := Go.Ai.cell_int Tryz.underlying23 (Go.Ai.okWide_cell h1 (fun fs h => by rw [Tryz.underlying23] at h; cases h) (fun m e h => by rw [Tryz.underlying23] at h; cases h))
  obtain ⟨b, rfl, _⟩ := Go.Ai.cell_int Tryz.underlying24 (Go.Ai.okWide_cell h2 (fun fs h => by rw [Tryz.underlying24] at h; cases h) (fun m e h => by rw [Tryz.underlying24] at h; cases h))
  obtain ⟨c, rfl, _⟩ := Go.Ai.cell_int Tryz.underlying24 (Go.Ai.okWide_cell h3 (fun fs h => by rw [Tryz.underlying24] at h; cases h) (fun m e h => by rw [Tryz.underlying24] at h; cases h))
  rcases Go.Ai.cell_slice Tryz.underlying22 (Go.Ai.okWide_cell h0 (fun fs h => by rw [Tryz.underlying22] at h; cases h) (fun m e h => by rw [Tryz.underlying22] at h; cases h)) with rfl | ⟨blk, off, len, cap, rfl, hlc, hcap⟩
  · exact Go.Ai.ai_asked progOk' (Checked.mixed Tryz.checked) GK.sums GK.sums_sound GK.hard GK.orc 1000 200 3 kk [] _ _ W hL (.cons (.snil _ _) (.cons (.int _ _) (.cons (.int _ _) (.cons (.int _ _) (.nil _))))) (fun ts => GK.run0 a b c ts)
  · have hs := Go.Ai.mix_slice (P := Tryz.prog) (bs := [blk]) 0 rfl off len cap hlc hcap
    exact Go.Ai.ai_asked progOk' (Checked.mixed Tryz.checked) GK.sums GK.sums_sound GK.hard GK.orc 1000 200 3 kk [blk] _ _ W hL (.cons hs (.cons (.int _ _) (.cons (.int _ _) (.cons (.int _ _) (.nil _))))) (fun ts => GK.run1 off len cap a b c ts)

theorem tabbed {w : World} (h : laidMetH Tryz.prog Rows.gateNilRow.laid w) : Go.Ai.Tabled Tryz.prog w kk := Go.Ai.tabled_of (by kernel_rfl) (by kernel_rfl) h

set_option maxRecDepth 100000 in
theorem lifted (os : Os) (started : os.Started) (H : Type) (enc : TypeId × Value → H) :
    ReturnsInHanded {} Tryz.checked os 3 .any (fun w args => (Rows.gateNilSpec.pre enc Tryz.prog Tryz.f3 [] false w args ∧ laidMetH Tryz.prog Rows.gateNilRow.laid w) ∧ sizedMet enc Tryz.prog Tryz.f3 (OpenSpec.ofChange Rows.gateNilSpec) false w args) (Rows.gateNilSpec.post enc Tryz.prog Tryz.f3 false true false false) := by
  refine returnsInHanded_of_change_and (C := Tryz.checked) (X := fun w _ => laidMetH Tryz.prog Rows.gateNilRow.laid w) (fun _ _ _ hh h => h.of_heap hh) own started (by kernel_rfl) Tryz.func3
    (ChangeSpec.witness_shaped (enc := enc) (C := Tryz.checked) (os := os) (X := fun w _ => laidMetH Tryz.prog Rows.gateNilRow.laid w) false (World.laidAll Tryz.prog os Rows.gateNilRow.laid) #[.slice none 0 0, .int .u32 0, .int .u64 0, .int .u64 0] 8 (World.laidAll_os _ _ _) (World.shaped_of_ZipB (by kernel_rfl) (by kernel_rfl)) (by kernel_rfl) (by kernel_rfl) (by kernel_rfl) (by rw [MakeChecks.laidMetH_plain _ _ _ (by kernel_rfl)]; exact laidMet_laidAll _ (by kernel_rfl) (by kernel_rfl))) ?_
  intro W base args ds gs before hval0 hW _ _ hL _
  have hval : ∀ (j : Nat) t v, Tryz.f3.params[j]? = some t → args[j]? = some v → Value.okWide Tryz.prog W .any base t v := hval0
  have hW' : DataW.Whole enc Tryz.prog Tryz.f3.params.toList Rows.gateNilSpec.vars false W args.toList ds gs before := hW
  clear hval0 hW
  have hsize : args.toList.length = 4 := by
    obtain ⟨p, q, hA0, _⟩ := hW'
    have hA : DataW.TrodAll enc Tryz.prog W 0 (fun _ => true) true Tryz.f3.params.toList args.toList ds p := hA0
    rw [Tryz.params3] at hA
    exact (Go.Ai.trodAll_len hA).1
  obtain ⟨v0, v1, v2, v3, rfl⟩ : ∃ v0 v1 v2 v3, args = #[v0, v1, v2, v3] := outer args hsize
  rw [Tryz.params3] at hval
  refine (walk v0 v1 v2 v3 (hval 0 22 v0 rfl rfl) (hval 1 23 v1 rfl rfl) (hval 2 24 v2 rfl rfl) (hval 3 24 v3 rfl rfl) (tabbed hL)).mono fun e W' ⟨he, hw⟩ => ?_
  refine ⟨_, he, Go.Ai.row_true (P := Tryz.prog) (f := Tryz.f3) (s := Rows.gateNilSpec) (tb := 4) laidOut' (by kernel_rfl) rfl (fun ds h => ?_) (by kernel_rfl) Tryz.underlying4 hW' hw⟩
  rw [Tryz.params3] at h
  match ds, h with
  | [d0, d1, d2, d3], _ => rfl

theorem over : Rows.gateNilRow.holds Tryz.pinned (OpenSpec.ofChange Rows.gateNilSpec) :=
  OpenClaim.holds_of_wide 3 Tryz.f3 rfl rfl rfl rfl rfl rfl rfl ⟨rfl, rfl, rfl, rfl, rfl⟩ rfl rfl rfl rfl rfl Go.Proofs.YtajjmepenakgkaaGreatDoor.gateFacts.named Tryz.func3 Go.Proofs.YtajjmepenakgkaaGreatDoor.gateFacts.closed
    (of_decide_eq_true (by kernel_rfl)) (by unfold Func.isWrapper; first | (rw [if_pos (by decide +kernel)]; kernel_rfl) | (rw [if_neg (by decide +kernel)]; exact ⟨rfl, rfl⟩))
    (fun os started H enc _ => lifted os started H enc)

/-- ████ THE STATEMENT ████ -/
theorem proved : Rows.GateNilCardSaid :=
  Claim7.holds_tied_plain_at .later [] [.data, .data, .data, .data, .data, .data, .data, .pinned] true (true, "e6302c0ea30ca090c5cd64efb571723518de4e274558261a00be348452df4e07") true
    over (fun _ h => by cases h) (by kernel_rfl) (fun _ h => by cases h) gateNil_row_tie rfl ⟨rfl, rfl⟩ Go.Proofs.YtajjmepenakgkaaGreatDoor.gateFacts.mainIs rfl
    (fun f fn hf hfn => by
      obtain rfl : f = 3 := Option.some.inj (Go.Proofs.YtajjmepenakgkaaGreatDoor.gateFacts.named.symm.trans hf) |>.symm
      obtain rfl : fn = Tryz.f3 := (Option.some.inj (Tryz.func3.symm.trans hfn)).symm
      exact ⟨Go.Proofs.YtajjmepenakgkaaGreatDoor.gateFacts.looks, fun j t ht => by
        rw [Tryz.params3] at ht
        have hm : t ∈ [22, 23, 24] := by
          have := Array.mem_of_getElem? ht
          simp at this ⊢
          omega
        have hall := Go.Proofs.YtajjmepenakgkaaGreatDoor.gateFacts.stand
        exact (show Tryz.prog.wantsStandIn t = false by simpa using List.all_eq_true.1 hall t hm)⟩)
    Go.Proofs.YtajjmepenakgkaaGreatDoor.gateFacts.goes
#print axioms proved
end Go.Proofs.YtajjmepenakgkaaGreatDoor.gateNil
