/- Proved: 'QueueNil' answers true for every input, and leaves what it was handed as it was; its tied card. Conditions: the card's own. -/
import Derived.Test.YtafegpjhhppdgaaGreatDoorRows
import Derived.WalkKit
import Derived.ProofKit
import Derived.OpenShut
import Derived.Stop.Joined
import Derived.LaidMore
import Derived.Lay
import Derived.SevenTiedAt
import Derived.Test.YtafegpjhhppdgaaGreatDoorCards
import Derived.Test.YtafegpjhhppdgaaGreatDoorTie
import Derived.Test.YtafegpjhhppdgaaGreatDoorAd
import Derived.Test.YtafegpjhhppdgaaGreatDoorIter
namespace Go.Proofs.YtafegpjhhppdgaaGreatDoor.queueNil
open Go.ChangeShapes Go.WideShapes Go.ChangeAt Go.RowKit
set_option linter.unusedVariables false
set_option linter.unusedSimpArgs false

theorem progOk' : Go.Ai.progOk Tryz.prog = true := by kernel_rfl
theorem outer (a : Array Value) (h : a.toList.length = 2) : ∃ v0 v1, a = #[v0, v1] := by
  obtain ⟨l⟩ := a
  match l, h with
  | [v0, v1], _ => exact ⟨v0, v1, rfl⟩
theorem own : ownKnob Tryz.prog.godebug = none := by kernel_rfl
theorem laidOut' : laidOutB Tryz.prog = true := by kernel_rfl

noncomputable def kk : List (Nat × List Value) := (Go.Ai.tabOf Tryz.prog Rows.queueNilRow.laid).getD []
def orc : Go.Ai.Orc := fun _ _ => false
def hard : FuncId → Bool := fun f => Nat.beq f 6
noncomputable def sums : Go.Ai.Sums := Go.Ai.diskSums Tryz.prog 89 75 110 9
theorem run0 (a b n : Int) (ts : Nat → TypeId) : Go.Ai.asked Tryz.prog sums hard orc 1000 200 3 [.agg [.int .u64 a, .int .u64 b].toArray, .int .u64 n] (Go.Ai.tabW Tryz.prog ts kk 0) Go.Ai.saysTrue = true := by kernel_rfl

set_option maxRecDepth 100000 in
theorem walk {base : Nat} (v0 v1 : Value) {W : World} (h0 : Value.okWide Tryz.prog W .any base 24 v0) (h1 : Value.okWide Tryz.prog W .any base 22 v1) (hL : Go.Ai.Tabled Tryz.prog W kk) :
    Calls Tryz.prog 3 #[v0, v1] W fun e W' => e = .returned (.bool true) ∧ Below W.heap.size W W' := by
  obtain ⟨cs, rfl, hl, hc⟩ := Go.Ai.okWide_struct (ts := [22, 22]) Tryz.underlying24 (by kernel_rfl) (by kernel_rfl) h0
  match cs, hl with
  | [c0, c1], _ =>
  obtain ⟨u0, e0, k0⟩ := hc 0 c0 rfl; cases e0
  obtain ⟨u1, e1, k1⟩ := hc 1 c1 rfl; cases e1
  obtain ⟨a, rfl, _⟩ := Go.Ai.cell_int Tryz.underlying22 k0
  obtain ⟨b, rfl, _⟩ := Go.Ai.cell_int Tryz.underlying22 k1
  obtain ⟨n, rfl, _⟩ := Go.Ai.cell_int Tryz.underlying22 (Go.Ai.okWide_cell h1 (fun fs h => by rw [Tryz.underlying22] at h; cases h) (fun m e h => by rw [Tryz.underlying22] at h; cases h))
  have hS : ∀ w0, Go.Ai.SumsSound Tryz.prog w0 sums := fun w0 => Go.Ai.diskSums_sound progOk' Tryz.sortsKeys w0
  exact Go.Ai.ai_asked progOk' (Checked.mixed Tryz.checked) sums hS hard orc 1000 200 3 kk [] _ _ W hL (.cons (.aggL (.cons (.int _ _) (.cons (.int _ _) (.nil _)))) (.cons (.int _ _) (.nil _))) (fun ts => run0 a b n ts)

theorem tabbed {w : World} (h : laidMetH Tryz.prog Rows.queueNilRow.laid w) : Go.Ai.Tabled Tryz.prog w kk := Go.Ai.tabled_of (by kernel_rfl) (by kernel_rfl) h

set_option maxRecDepth 100000 in
theorem lifted (os : Os) (started : os.Started) (H : Type) (enc : TypeId × Value → H) :
    ReturnsInHanded {} Tryz.checked os 3 .any (fun w args => (Rows.queueNilSpec.pre enc Tryz.prog Tryz.f3 [] false w args ∧ laidMetH Tryz.prog Rows.queueNilRow.laid w) ∧ sizedMet enc Tryz.prog Tryz.f3 (OpenSpec.ofChange Rows.queueNilSpec) false w args) (Rows.queueNilSpec.post enc Tryz.prog Tryz.f3 false true false false) := by
  refine returnsInHanded_of_change_and (C := Tryz.checked) (X := fun w _ => laidMetH Tryz.prog Rows.queueNilRow.laid w) (fun _ _ _ hh h => h.of_heap hh) own started (by kernel_rfl) Tryz.func3
    (ChangeSpec.witness_shaped (enc := enc) (C := Tryz.checked) (os := os) (X := fun w _ => laidMetH Tryz.prog Rows.queueNilRow.laid w) false (World.laidAll Tryz.prog os Rows.queueNilRow.laid) #[.agg #[.int .u64 0, .int .u64 0], .int .u64 0] 8 (World.laidAll_os _ _ _) (World.shaped_of_ZipB (by kernel_rfl) (by kernel_rfl)) (by kernel_rfl) (by kernel_rfl) (by kernel_rfl) (by rw [MakeChecks.laidMetH_plain _ _ _ (by kernel_rfl)]; exact laidMet_laidAll _ (by kernel_rfl) (by kernel_rfl))) ?_
  intro W base args ds gs before hval0 hW _ _ hL _
  have hval : ∀ (j : Nat) t v, Tryz.f3.params[j]? = some t → args[j]? = some v → Value.okWide Tryz.prog W .any base t v := hval0
  have hW' : DataW.Whole enc Tryz.prog Tryz.f3.params.toList Rows.queueNilSpec.vars false W args.toList ds gs before := hW
  clear hval0 hW
  have hsize : args.toList.length = 2 := by
    obtain ⟨p, q, hA0, _⟩ := hW'
    have hA : DataW.TrodAll enc Tryz.prog W 0 (fun _ => true) true Tryz.f3.params.toList args.toList ds p := hA0
    rw [Tryz.params3] at hA
    exact (Go.Ai.trodAll_len hA).1
  obtain ⟨v0, v1, rfl⟩ : ∃ v0 v1, args = #[v0, v1] := outer args hsize
  rw [Tryz.params3] at hval
  refine (walk v0 v1 (hval 0 24 v0 rfl rfl) (hval 1 22 v1 rfl rfl) (tabbed hL)).mono fun e W' ⟨he, hw⟩ => ?_
  refine ⟨_, he, Go.Ai.row_true (P := Tryz.prog) (f := Tryz.f3) (s := Rows.queueNilSpec) (tb := 4) laidOut' (by kernel_rfl) rfl (fun ds h => ?_) (by kernel_rfl) Tryz.underlying4 hW' hw⟩
  rw [Tryz.params3] at h
  match ds, h with
  | [d0, d1], _ => rfl

theorem over : Rows.queueNilRow.holds Tryz.pinned (OpenSpec.ofChange Rows.queueNilSpec) :=
  OpenClaim.holds_of_wide 3 Tryz.f3 rfl rfl rfl rfl rfl rfl rfl ⟨rfl, rfl, rfl, rfl, rfl⟩ rfl rfl rfl rfl rfl (by kernel_rfl) Tryz.func3 (by kernel_rfl)
    (of_decide_eq_true (by kernel_rfl)) (by unfold Func.isWrapper; first | (rw [if_pos (by decide +kernel)]; kernel_rfl) | (rw [if_neg (by decide +kernel)]; exact ⟨rfl, rfl⟩))
    (fun os started H enc _ => lifted os started H enc)

/-- ████ THE STATEMENT ████ -/
theorem proved : Rows.QueueNilCardSaid :=
  Claim7.holds_tied_plain_at .later [] [.data, .data, .data, .data, .data, .pinned] true (true, "bd122ab6968c7eb777ee42f06e56dcf0387cc65f718d5b866595da2d73949a57") false
    over (fun _ h => by cases h) (by kernel_rfl) (fun _ h => by cases h) queueNil_row_tie rfl ⟨rfl, rfl⟩ (by kernel_rfl) rfl
    (fun f fn hf hfn => by
      obtain rfl : f = 3 := Option.some.inj ((show Tryz.prog.funcNamed "equerry/equerrylaw19.QueueNil" = some 3 by kernel_rfl).symm.trans hf) |>.symm
      obtain rfl : fn = Tryz.f3 := (Option.some.inj (Tryz.func3.symm.trans hfn)).symm
      exact ⟨by kernel_rfl, fun j t ht => by
        rw [Tryz.params3] at ht
        have hm : t ∈ [24, 22] := by
          have := Array.mem_of_getElem? ht
          simp at this ⊢
          omega
        have hall : ([24, 22].all fun u => !Tryz.prog.wantsStandIn u) = true := by kernel_rfl
        exact (show Tryz.prog.wantsStandIn t = false by simpa using List.all_eq_true.1 hall t hm)⟩)
    (by kernel_rfl)
#print axioms proved
end Go.Proofs.YtafegpjhhppdgaaGreatDoor.queueNil
