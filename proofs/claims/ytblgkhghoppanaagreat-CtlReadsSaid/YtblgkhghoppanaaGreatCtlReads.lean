/- Proved: 'CtlReads' answers true for every input, and leaves what it was handed as it was. Conditions: none. -/
import Derived.Test.YtblgkhghoppanaaGreatRows
import Derived.WalkKit
import Derived.ProofKit
import Derived.OpenShut
import Derived.Test.YtblgkhghoppanaaGreatAd
import Derived.Test.YtblgkhghoppanaaGreatPo
namespace Go.Proofs.YtblgkhghoppanaaGreat.ctlReads
open Go.ChangeShapes Go.WideShapes Go.ChangeAt Go.RowKit
set_option linter.unusedVariables false
set_option linter.unusedSimpArgs false

theorem progOk' : Go.Ai.progOk Tryz.prog = true := by kernel_rfl
theorem outer (a : Array Value) (h : a.toList.length = 1) : ∃ v0, a = #[v0] := by
  obtain ⟨l⟩ := a
  match l, h with
  | [v0], _ => exact ⟨v0, rfl⟩
theorem own : ownKnob Tryz.prog.godebug = none := by kernel_rfl
theorem laidOut' : laidOutB Tryz.prog = true := by kernel_rfl

set_option maxRecDepth 100000 in
theorem walk {H : Type} {enc : TypeId × Value → H} {base : Nat} (v0 : Value) {W : World} {ds : List (DataW H)} {p : List MemPlace} (h0 : Value.okWide Tryz.prog W .any base 24 v0) (hA : DataW.TrodAll enc Tryz.prog W 0 (fun _ => true) true #[24].toList #[v0].toList ds p) :
    Calls Tryz.prog 4 #[v0] W fun e W' => e = .returned (.bool true) ∧ Below W.heap.size W W' := by
  obtain ⟨d0, rfl, hT⟩ : ∃ d0, ds = [d0] ∧ ∃ p0, DataW.Trod enc Tryz.prog W 0 (fun _ => true) true 24 v0 d0 p0 := by
    match ds, hA with
    | [d0], ⟨p0, q, h1, _, _⟩ => exact ⟨d0, rfl, p0, h1⟩
  obtain ⟨p0, fuel, hf⟩ := hT
  have five : Tryz.prog.cellsOf 5 = 1 := by kernel_rfl
  rcases Go.Ai.cell_slice Tryz.underlying24 (Go.Ai.okWide_cell h0 (fun fs h => by rw [Tryz.underlying24] at h; cases h) (fun m e h => by rw [Tryz.underlying24] at h; cases h)) with rfl | ⟨b, o, l, c, rfl, hlc, hcap⟩
  · exact PK.reads (.slice none 0 0) [] W (.inl ⟨0, rfl, rfl⟩) (fun x hx => by cases hx)
  · rcases open_ints Tryz.underlying24 Tryz.underlying5 five hf with ⟨h, _⟩ | ⟨ad, l', cap, zs, h, _, hlc', _, hzl, _, hcell, hwf⟩
    · simp [Value.cells] at h
    · have h : Value.slice (some ⟨b, o, none⟩) l c = .slice (some ad) l' cap := by simpa [Value.cells] using h
      cases h
      obtain ⟨q, hql, hby, hq⟩ := PK.rdc_of_ints (W := W) (blk := b) (off := o) hlc' (by simpa using hzl) hcell hwf
      exact PK.reads _ q W (.inr hq) hby

set_option maxRecDepth 100000 in
theorem lifted (os : Os) (started : os.Started) (H : Type) (enc : TypeId × Value → H) :
    ReturnsInHanded {} Tryz.checked os 4 .any (Rows.ctlReadsSpec.pre6 enc Tryz.prog Tryz.f4 Rows.ctlReadsRow.domain false) (Rows.ctlReadsSpec.post enc Tryz.prog Tryz.f4 false true false false) := by
  refine returnsInHanded_of_change (C := Tryz.checked) own started (by kernel_rfl) Tryz.func4
    (ChangeSpec.witness6 (enc := enc) (C := Tryz.checked) false ⟨#[], #[.slice none 0 0], []⟩ 8 (by kernel_rfl) (by kernel_rfl) (by kernel_rfl) (by kernel_rfl)) ?_
  intro W base args ds gs before hval0 hW _ _
  have hval : ∀ (j : Nat) t v, Tryz.f4.params[j]? = some t → args[j]? = some v → Value.okWide Tryz.prog W .any base t v := hval0
  have hW' : DataW.Whole enc Tryz.prog Tryz.f4.params.toList Rows.ctlReadsSpec.vars false W args.toList ds gs before := hW
  clear hval0 hW
  have hsize : args.toList.length = 1 := by
    obtain ⟨p, q, hA0, _⟩ := hW'
    have hA : DataW.TrodAll enc Tryz.prog W 0 (fun _ => true) true Tryz.f4.params.toList args.toList ds p := hA0
    rw [Tryz.params4] at hA
    exact (Go.Ai.trodAll_len hA).1
  obtain ⟨v0, rfl⟩ : ∃ v0, args = #[v0] := outer args hsize
  rw [Tryz.params4] at hval
  obtain ⟨pA, qA, hA0, _⟩ := id hW'
  rw [Tryz.params4] at hA0
  refine (walk v0 (hval 0 24 v0 rfl rfl) hA0).mono fun e W' ⟨he, hw⟩ => ?_
  refine ⟨_, he, Go.Ai.row_true (P := Tryz.prog) (f := Tryz.f4) (s := Rows.ctlReadsSpec) (tb := 4) laidOut' (by kernel_rfl) rfl (fun ds h => ?_) (by kernel_rfl) Tryz.underlying4 hW' hw⟩
  rw [Tryz.params4] at h
  match ds, h with
  | [d0], _ => rfl

theorem over : Rows.ctlReadsRow.holds Tryz.pinned (OpenSpec.ofChange Rows.ctlReadsSpec) :=
  OpenClaim.holds_of_wide 4 Tryz.f4 rfl rfl rfl rfl rfl rfl rfl ⟨rfl, rfl, rfl, rfl, rfl⟩ rfl rfl rfl rfl rfl (by kernel_rfl) Tryz.func4 (by kernel_rfl)
    (of_decide_eq_true (by kernel_rfl)) (by unfold Func.isWrapper; first | (rw [if_pos (by decide +kernel)]; kernel_rfl) | (rw [if_neg (by decide +kernel)]; exact ⟨rfl, rfl⟩))
    (fun os started H enc _ => lifted os started H enc)

/-- ████ THE STATEMENT ████ -/
theorem proved : Rows.CtlReadsSaid :=
  over
#print axioms proved
end Go.Proofs.YtblgkhghoppanaaGreat.ctlReads
