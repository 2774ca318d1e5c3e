/- Proved: 'CtlWrites' answers true for every input, and leaves what it was handed as it was. Conditions: none. -/
import Derived.Test.YtblgkhghoppanaaGreatRows
import Derived.WalkKit
import Derived.ProofKit
import Derived.OpenShut
import Derived.Test.YtblgkhghoppanaaGreatAd
import Derived.Test.YtblgkhghoppanaaGreatPo
namespace Go.Proofs.YtblgkhghoppanaaGreat.ctlWrites
open Go.ChangeShapes Go.WideShapes Go.ChangeAt Go.RowKit
set_option linter.unusedVariables false
set_option linter.unusedSimpArgs false

theorem progOk' : Go.Ai.progOk Tryz.prog = true := by kernel_rfl
theorem outer (a : Array Value) (h : a.toList.length = 1) : ∃ v0, a = #[v0] := by
  obtain ⟨l⟩ := a
  match l, h with
  | [v0], _ => exact ⟨v0, rfl⟩
theorem own : ownKnob Tryz.prog.godebug = none := by kernel_rfl
theorem laidOut' : laidOutB Tryz.prog = true := by kernel_rfl

set_option maxRecDepth 100000 in
theorem walk {H : Type} {enc : TypeId × Value → H} {base : Nat} (v0 : Value) {W : World} {ds : List (DataW H)} {p : List MemPlace} (h0 : Value.okWide Tryz.prog W .any base 26 v0) (hA : DataW.TrodAll enc Tryz.prog W 0 (fun _ => true) true #[26].toList #[v0].toList ds p) :
    Calls Tryz.prog 3 #[v0] W fun e W' => e = .returned (.bool true) ∧ Below W.heap.size W W' := by
  obtain ⟨d0, rfl, hT⟩ : ∃ d0, ds = [d0] ∧ ∃ p0, DataW.Trod enc Tryz.prog W 0 (fun _ => true) true 26 v0 d0 p0 := by
    match ds, hA with
    | [d0], ⟨p0, q, h1, _, _⟩ => exact ⟨d0, rfl, p0, h1⟩
  obtain ⟨p0, hT⟩ := hT
  obtain ⟨x0, x1, x2, x3, y0, y1, y2, y3, m, rfl, rfl, rfl, hy0, hy1, hy2, hy3⟩ := Go.Joins.open_agg4 Tryz.underlying26 (by kernel_rfl) (by kernel_rfl) h0 hT
  obtain ⟨cs, he, hl, hc⟩ := Go.Ai.okWide_struct (ts := [5, 22, 23, 24]) Tryz.underlying26 (by kernel_rfl) (by kernel_rfl) h0
  have hcs : cs = [x0, x1, x2, x3] := by
    have := Value.agg.inj he
    have := congrArg Array.toList this
    simpa using this.symm
  subst hcs
  obtain ⟨u0, e0, k0⟩ := hc 0 x0 rfl; cases e0
  obtain ⟨u1, e1, k1⟩ := hc 1 x1 rfl; cases e1
  obtain ⟨u2, e2, k2⟩ := hc 2 x2 rfl; cases e2
  obtain ⟨u3, e3, k3⟩ := hc 3 x3 rfl; cases e3
  obtain ⟨a, rfl, ka⟩ := Go.Ai.cell_int Tryz.underlying5 k0
  obtain ⟨b, rfl, kb⟩ := Go.Ai.cell_int Tryz.underlying22 k1
  obtain ⟨c, rfl, kc⟩ := Go.Ai.cell_int Tryz.underlying23 k2
  have ka := PK.has_u8 ka
  have kb := PK.has_u32 kb
  have kc := PK.has_u64 kc
  obtain ⟨a, rfl⟩ := Int.eq_ofNat_of_zero_le ka.1
  obtain ⟨b, rfl⟩ := Int.eq_ofNat_of_zero_le kb.1
  obtain ⟨c, rfl⟩ := Int.eq_ofNat_of_zero_le kc.1
  have five : Tryz.prog.cellsOf 5 = 1 := by kernel_rfl
  rcases open_ints Tryz.underlying24 Tryz.underlying5 five hy3 with ⟨h, _⟩ | ⟨⟨blk, off, sub⟩, l, cap, zs, h, _, hlc, hcm, hzl, _, hcell, hwf⟩
  · obtain rfl : x3 = .slice none 0 0 := by simpa using h
    exact PK.writes a b c (.slice none 0 0) [] W (by omega) (by omega) (by omega) (.inl ⟨0, rfl, rfl⟩) (fun x hx => by cases hx)
  · obtain rfl : x3 = .slice (some ⟨blk, off, sub⟩) l cap := by simpa using h
    have hs : sub = none := by
      rcases Go.Ai.cell_slice Tryz.underlying24 k3 with h | ⟨b', o', l', c', h, _⟩
      · cases h
      · cases h; rfl
    subst hs
    obtain ⟨q, hql, hby, hq⟩ := PK.rdc_of_ints (W := W) (blk := blk) (off := off) hlc (by simpa using hzl) hcell hwf
    exact PK.writes a b c _ q W (by omega) (by omega) (by omega) (.inr hq.rd) hby

set_option maxRecDepth 100000 in
theorem lifted (os : Os) (started : os.Started) (H : Type) (enc : TypeId × Value → H) :
    ReturnsInHanded {} Tryz.checked os 3 .any (Rows.ctlWritesSpec.pre6 enc Tryz.prog Tryz.f3 Rows.ctlWritesRow.domain false) (Rows.ctlWritesSpec.post enc Tryz.prog Tryz.f3 false true false false) := by
  refine returnsInHanded_of_change (C := Tryz.checked) own started (by kernel_rfl) Tryz.func3
    (ChangeSpec.witness6 (enc := enc) (C := Tryz.checked) false ⟨#[], #[.agg #[.int .u8 0, .int .u32 0, .int .u64 0, .slice none 0 0]], []⟩ 8 (by kernel_rfl) (by kernel_rfl) (by kernel_rfl) (by kernel_rfl)) ?_
  intro W base args ds gs before hval0 hW _ _
  have hval : ∀ (j : Nat) t v, Tryz.f3.params[j]? = some t → args[j]? = some v → Value.okWide Tryz.prog W .any base t v := hval0
  have hW' : DataW.Whole enc Tryz.prog Tryz.f3.params.toList Rows.ctlWritesSpec.vars false W args.toList ds gs before := hW
  clear hval0 hW
  have hsize : args.toList.length = 1 := by
    obtain ⟨p, q, hA0, _⟩ := hW'
    have hA : DataW.TrodAll enc Tryz.prog W 0 (fun _ => true) true Tryz.f3.params.toList args.toList ds p := hA0
    rw [Tryz.params3] at hA
    exact (Go.Ai.trodAll_len hA).1
  obtain ⟨v0, rfl⟩ : ∃ v0, args = #[v0] := outer args hsize
  rw [Tryz.params3] at hval
  obtain ⟨pA, qA, hA0, _⟩ := id hW'
  rw [Tryz.params3] at hA0
  refine (walk v0 (hval 0 26 v0 rfl rfl) hA0).mono fun e W' ⟨he, hw⟩ => ?_
  refine ⟨_, he, Go.Ai.row_true (P := Tryz.prog) (f := Tryz.f3) (s := Rows.ctlWritesSpec) (tb := 4) laidOut' (by kernel_rfl) rfl (fun ds h => ?_) (by kernel_rfl) Tryz.underlying4 hW' hw⟩
  rw [Tryz.params3] at h
  match ds, h with
  | [d0], _ => rfl

theorem over : Rows.ctlWritesRow.holds Tryz.pinned (OpenSpec.ofChange Rows.ctlWritesSpec) :=
  OpenClaim.holds_of_wide 3 Tryz.f3 rfl rfl rfl rfl rfl rfl rfl ⟨rfl, rfl, rfl, rfl, rfl⟩ rfl rfl rfl rfl rfl (by kernel_rfl) Tryz.func3 (by kernel_rfl)
    (of_decide_eq_true (by kernel_rfl)) (by unfold Func.isWrapper; first | (rw [if_pos (by decide +kernel)]; kernel_rfl) | (rw [if_neg (by decide +kernel)]; exact ⟨rfl, rfl⟩))
    (fun os started H enc _ => lifted os started H enc)

/-- ████ THE STATEMENT ████ -/
theorem proved : Rows.CtlWritesSaid :=
  over
#print axioms proved
end Go.Proofs.YtblgkhghoppanaaGreat.ctlWrites
