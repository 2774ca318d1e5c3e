/- Proved: 'DiskFalls' answers true for every input, and leaves what it was handed as it was. Conditions: none. -/
import Derived.Test.YteleocgomdhcfaaRows
import Derived.WalkKit
import Derived.ProofKit
import Derived.OpenShut
import Derived.Test.YteleocgomdhcfaaAd
import Derived.SizedLaws
import Derived.Test.YteleocgomdhcfaaLv
namespace Go.Proofs.Yteleocgomdhcfaa.diskFalls
open Go.ChangeShapes Go.WideShapes Go.ChangeAt Go.RowKit
set_option linter.unusedVariables false
set_option linter.unusedSimpArgs false

theorem progOk' : Go.Ai.progOk Try.prog = true := by kernel_rfl
theorem outer (a : Array Value) (h : a.toList.length = 2) : ∃ v0 v1, a = #[v0, v1] := by
  obtain ⟨l⟩ := a
  match l, h with
  | [v0, v1], _ => exact ⟨v0, v1, rfl⟩
theorem own : ownKnob Try.prog.godebug = none := by kernel_rfl
theorem laidOut' : laidOutB Try.prog = true := by kernel_rfl

set_option maxRecDepth 100000 in
theorem walk {H : Type} {enc : TypeId × Value → H} {base : Nat} (v0 v1 : Value) {W : World} {ds : List (DataW H)} {p : List MemPlace} (h0 : Value.okWide Try.prog W .any base 22 v0) (h1 : Value.okWide Try.prog W .any base 23 v1) (hA : DataW.TrodAll enc Try.prog W 0 (fun _ => true) true #[22, 23].toList #[v0, v1].toList ds p)
    (hz : ∀ (j : Nat) (t : TypeId) (d : DataW H) (n : Nat), #[22, 23].toList[j]? = some t → ds[j]? = some d → n ∈ d.weights Try.prog t → n ≤ reachBytes) :
    Calls Try.prog 3 #[v0, v1] W fun e W' => e = .returned (.bool true) ∧ Below W.heap.size W W' := by
  obtain ⟨d0, d1, rfl, ⟨p0, f0, hT0⟩, ⟨p1, f1, hT1⟩⟩ : ∃ d0 d1, ds = [d0, d1] ∧ (∃ p0, DataW.Trod enc Try.prog W 0 (fun _ => true) true 22 v0 d0 p0) ∧ ∃ p1, DataW.Trod enc Try.prog W 0 (fun _ => true) true 23 v1 d1 p1 := by
    match ds, hA with
    | [d0, d1], ⟨p0, q, h1, ⟨p1, q1, h2, _⟩, _⟩ => exact ⟨d0, d1, rfl, ⟨p0, h1⟩, ⟨p1, h2⟩⟩
  rcases Go.Ai.cell_slice Try.underlying23 (Go.Ai.okWide_cell h1 (fun fs h => by rw [Try.underlying23] at h; cases h) (fun m e h => by rw [Try.underlying23] at h; cases h)) with rfl | ⟨b1, o1, l1, c1, rfl, _, _⟩
  all_goals
    obtain ⟨ks, pk, ck, ek, hk, hkm⟩ := DK.ints_of hT1
    rw [ek] at hk ⊢
    rcases Go.Ai.cell_slice Try.underlying22 (Go.Ai.okWide_cell h0 (fun fs h => by rw [Try.underlying22] at h; cases h) (fun m e h => by rw [Try.underlying22] at h; cases h)) with rfl | ⟨b, o, l, c, rfl, hlc, hcap⟩
    · exact DK.law [] none 0 ks _ _ W ⟨Nat.le_refl _, Nat.zero_le _, fun i x hx => by simp at hx⟩ hk hkm DK.c5
    · obtain ⟨k1, k2, xs, hl, hx⟩ := DK.ops_of hT0 (fun n hn => hz 0 22 d0 n rfl rfl hn)
      subst hl
      exact DK.law xs _ c ks _ _ W ⟨k1, k2, fun i x hi => ⟨b, o, rfl, hx i x hi⟩⟩ hk hkm DK.c5

set_option maxRecDepth 100000 in
theorem lifted (os : Os) (started : os.Started) (H : Type) (enc : TypeId × Value → H) :
    ReturnsInHanded {} Try.checked os 3 .any (Rows.diskFallsSpec.pre6 enc Try.prog Try.f3 Rows.diskFallsRow.domain false) (Rows.diskFallsSpec.post enc Try.prog Try.f3 false true false false) := by
  refine returnsInHanded_of_change_sized (C := Try.checked) own started (by kernel_rfl) Try.func3
    (ChangeSpec.witness6 (enc := enc) (C := Try.checked) false ⟨#[], #[.slice none 0 0, .slice none 0 0], []⟩ 8 (by kernel_rfl) (by kernel_rfl) (by kernel_rfl) (by kernel_rfl)) ?_
  intro W base args ds gs before hval0 hW _ hz _
  have hval : ∀ (j : Nat) t v, Try.f3.params[j]? = some t → args[j]? = some v → Value.okWide Try.prog W .any base t v := hval0
  have hW' : DataW.Whole enc Try.prog Try.f3.params.toList Rows.diskFallsSpec.vars false W args.toList ds gs before := hW
  clear hval0 hW
  have hsize : args.toList.length = 2 := by
    obtain ⟨p, q, hA0, _⟩ := hW'
    have hA : DataW.TrodAll enc Try.prog W 0 (fun _ => true) true Try.f3.params.toList args.toList ds p := hA0
    rw [Try.params3] at hA
    exact (Go.Ai.trodAll_len hA).1
  obtain ⟨v0, v1, rfl⟩ : ∃ v0 v1, args = #[v0, v1] := outer args hsize
  rw [Try.params3] at hval
  have hz' : ∀ (j : Nat) (t : TypeId) (d : DataW H) (n : Nat), #[22, 23].toList[j]? = some t → ds[j]? = some d → n ∈ d.weights Try.prog t → n ≤ reachBytes := fun j t d n ht hd hn => by
    have h1 := List.all_eq_true.1 hz n (DataW.weights_mem_each (j := j) (by rw [List.getElem?_append_left (by have := (List.getElem?_eq_some_iff.1 ht).1; rw [Try.params3]; exact this), Try.params3]; exact ht) (by rw [List.getElem?_append_left (List.getElem?_eq_some_iff.1 hd).1]; exact hd) n hn)
    simpa using h1
  obtain ⟨pA, qA, hA0, _⟩ := id hW'
  rw [Try.params3] at hA0
  refine (walk v0 v1 (hval 0 22 v0 rfl rfl) (hval 1 23 v1 rfl rfl) hA0 hz').mono fun e W' ⟨he, hw⟩ => ?_
  refine ⟨_, he, Go.Ai.row_true (P := Try.prog) (f := Try.f3) (s := Rows.diskFallsSpec) (tb := 4) laidOut' (by kernel_rfl) rfl (fun ds h => ?_) (by kernel_rfl) Try.underlying4 hW' hw⟩
  rw [Try.params3] at h
  match ds, h with
  | [d0, d1], _ => rfl

theorem over : Rows.diskFallsRow.holds Try.pinned (OpenSpec.ofChange Rows.diskFallsSpec) :=
  OpenClaim.holds_of_wide 3 Try.f3 rfl rfl rfl rfl rfl rfl rfl ⟨rfl, rfl, rfl, rfl, rfl⟩ rfl rfl rfl rfl rfl (by kernel_rfl) Try.func3 (by kernel_rfl)
    (of_decide_eq_true (by kernel_rfl)) (by unfold Func.isWrapper; first | (rw [if_pos (by decide +kernel)]; kernel_rfl) | (rw [if_neg (by decide +kernel)]; exact ⟨rfl, rfl⟩))
    (fun os started H enc _ => lifted os started H enc)

/-- ████ THE STATEMENT ████ -/
theorem proved : Rows.DiskFallsSaid :=
  over
#print axioms proved
end Go.Proofs.Yteleocgomdhcfaa.diskFalls
