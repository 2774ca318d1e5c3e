/- Proved: 'DueOrder' answers true for every input, and leaves what it was handed as it was. Conditions: none. -/
import Derived.Test.YtccmlmepcgcojaaRows
import Derived.WalkKit
import Derived.ProofKit
import Derived.OpenShut
import Derived.Test.YtccmlmepcgcojaaAd
import Derived.Test.YtccmlmepcgcojaaEb
namespace Go.Proofs.Ytccmlmepcgcojaa.dueOrder
open Go.ChangeShapes Go.WideShapes Go.ChangeAt Go.RowKit
set_option linter.unusedVariables false
set_option linter.unusedSimpArgs false

theorem progOk' : Go.Ai.progOk Try.prog = true := by kernel_rfl
theorem outer (a : Array Value) (h : a.toList.length = 2) : ∃ v0 v1, a = #[v0, v1] := by
  obtain ⟨l⟩ := a
  match l, h with
  | [v0, v1], _ => exact ⟨v0, v1, rfl⟩
theorem own : ownKnob Try.prog.godebug = none := by kernel_rfl
theorem laidOut' : laidOutB Try.prog = true := by kernel_rfl

theorem walk {H : Type} {enc : TypeId × Value → H} {base : Nat} (v0 v1 : Value) {W : World} {ds : List (DataW H)} {p : List MemPlace} (h0 : Value.okWide Try.prog W .any base 22 v0) (h1 : Value.okWide Try.prog W .any base 23 v1) (hA : DataW.TrodAll enc Try.prog W 0 (fun _ => true) true #[22, 23].toList #[v0, v1].toList ds p) :
    Calls Try.prog 3 #[v0, v1] W fun e W' => e = .returned (.bool true) ∧ Below W.heap.size W W' := by
  obtain ⟨d0, d1, rfl, hT⟩ : ∃ d0 d1, ds = [d0, d1] ∧ ∃ p0, DataW.Trod enc Try.prog W 0 (fun _ => true) true 22 v0 d0 p0 := by
    match ds, hA with
    | [d0, d1], ⟨p0, q, h1, _, _⟩ => exact ⟨d0, d1, rfl, p0, h1⟩
  obtain ⟨p0, fuel, hf⟩ := hT
  obtain ⟨now, rfl, _⟩ := Go.Ai.cell_int Try.underlying23 (Go.Ai.okWide_cell h1 (fun fs h => by rw [Try.underlying23] at h; cases h) (fun m e h => by rw [Try.underlying23] at h; cases h))
  rcases Go.Ai.cell_slice Try.underlying22 (Go.Ai.okWide_cell h0 (fun fs h => by rw [Try.underlying22] at h; cases h) (fun m e h => by rw [Try.underlying22] at h; cases h)) with rfl | ⟨b, o, l, c, rfl, hlc, hcap⟩
  · exact DU.c3 none 0 0 (fun _ => 0) now W (by omega) (fun i h => by omega) (fun i h => by omega)
  · obtain ⟨k1, k2, hx⟩ := DU.times_of hf
    by_cases hl : 300 < l
    · exact DU.c3big _ l c now W hl
    · obtain ⟨ts, hts⟩ := Classical.skolem.1 (show ∀ i, ∃ x : Int, i < l → b < W.heap.size ∧ 0 ≤ x ∧ x ≤ 18446744073709551615 ∧ W.cell? ⟨b, o + i, none⟩ = some (.int .u64 x) from fun i => by
        by_cases h : i < l
        · obtain ⟨x, hx⟩ := hx i h
          exact ⟨x, fun _ => hx⟩
        · exact ⟨0, fun h' => absurd h' h⟩)
      exact DU.c3 _ l c ts now W (by omega) (fun i h => (hts i h).2.2.1) (fun i h => ⟨b, o, rfl, (hts i h).1, (hts i h).2.2.2⟩)

set_option maxRecDepth 100000 in
theorem lifted (os : Os) (started : os.Started) (H : Type) (enc : TypeId × Value → H) :
    ReturnsInHanded {} Try.checked os 3 .any (Rows.dueOrderSpec.pre6 enc Try.prog Try.f3 Rows.dueOrderRow.domain false) (Rows.dueOrderSpec.post enc Try.prog Try.f3 false true false false) := by
  refine returnsInHanded_of_change (C := Try.checked) own started (by kernel_rfl) Try.func3
    (ChangeSpec.witness6 (enc := enc) (C := Try.checked) false ⟨#[], #[.slice none 0 0, .int .u64 0], []⟩ 8 (by kernel_rfl) (by kernel_rfl) (by kernel_rfl) (by kernel_rfl)) ?_
  intro W base args ds gs before hval0 hW _ _
  have hval : ∀ (j : Nat) t v, Try.f3.params[j]? = some t → args[j]? = some v → Value.okWide Try.prog W .any base t v := hval0
  have hW' : DataW.Whole enc Try.prog Try.f3.params.toList Rows.dueOrderSpec.vars false W args.toList ds gs before := hW
  clear hval0 hW
  have hsize : args.toList.length = 2 := by
    obtain ⟨p, q, hA0, _⟩ := hW'
    have hA : DataW.TrodAll enc Try.prog W 0 (fun _ => true) true Try.f3.params.toList args.toList ds p := hA0
    rw [Try.params3] at hA
    exact (Go.Ai.trodAll_len hA).1
  obtain ⟨v0, v1, rfl⟩ : ∃ v0 v1, args = #[v0, v1] := outer args hsize
  rw [Try.params3] at hval
  obtain ⟨pA, qA, hA0, _⟩ := id hW'
  rw [Try.params3] at hA0
  refine (walk v0 v1 (hval 0 22 v0 rfl rfl) (hval 1 23 v1 rfl rfl) hA0).mono fun e W' ⟨he, hw⟩ => ?_
  refine ⟨_, he, Go.Ai.row_true (P := Try.prog) (f := Try.f3) (s := Rows.dueOrderSpec) (tb := 4) laidOut' (by kernel_rfl) rfl (fun ds h => ?_) (by kernel_rfl) Try.underlying4 hW' hw⟩
  rw [Try.params3] at h
  match ds, h with
  | [d0, d1], _ => rfl

theorem over : Rows.dueOrderRow.holds Try.pinned (OpenSpec.ofChange Rows.dueOrderSpec) :=
  OpenClaim.holds_of_wide 3 Try.f3 rfl rfl rfl rfl rfl rfl rfl ⟨rfl, rfl, rfl, rfl, rfl⟩ rfl rfl rfl rfl rfl (by kernel_rfl) Try.func3 (by kernel_rfl)
    (of_decide_eq_true (by kernel_rfl)) (by unfold Func.isWrapper; first | (rw [if_pos (by decide +kernel)]; kernel_rfl) | (rw [if_neg (by decide +kernel)]; exact ⟨rfl, rfl⟩))
    (fun os started H enc _ => lifted os started H enc)

/-- ████ THE STATEMENT ████ -/
theorem proved : Rows.DueOrderSaid :=
  over
#print axioms proved
end Go.Proofs.Ytccmlmepcgcojaa.dueOrder
