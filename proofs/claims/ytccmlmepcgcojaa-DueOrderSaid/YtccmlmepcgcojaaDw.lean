/- Proved: the rows of operations and of times that the laws are handed, read. Each theorem says its own conditions. -/
import Derived.Test.YtccmlmepcgcojaaDv
import Derived.Test.YtccmlmepcgcojaaAd
import Derived.ChangeSame
import Derived.ChangeSlices
set_option linter.unusedVariables false
set_option linter.unusedSimpArgs false
namespace Go.Proofs.DU
open Go.RowKit Go.Ai Go.ChangeShapes Go.WideShapes
structure Opr where
  e : Int
  k : Int
  t : Int
def OpAt (W : World) (b o : Nat) (x : Opr) : Prop := b < W.heap.size ∧ W.cell? ⟨b, o, none⟩ = some (.int .i64 x.e) ∧ W.cell? ⟨b, o + 1, none⟩ = some (.int .u64 x.k) ∧ W.cell? ⟨b, o + 2, none⟩ = some (.int .u64 x.t)
section
variable {H : Type} {enc : TypeId × Value → H} {W : World}
set_option maxRecDepth 10000 in
theorem op_of {b o : Nat} {fuel : Nat} {y : DataW H × List MemPlace} {cs : List Value} (hc : W.cells? 0 ⟨b, o, none⟩ 3 = some cs) (h : DataW.trod enc Try.prog W 0 (fun _ => true) true fuel 36 cs = some y) : ∃ x, OpAt W b o x := by
  obtain ⟨_, hl, hat⟩ := World.cells?_some hc
  match cs, hl with
  | [c0, c1, c2], _ =>
    have g0 := hat 0 (by omega); have g1 := hat 1 (by omega); have g2 := hat 2 (by omega)
    rw [Addr.add_lit] at g0 g1 g2
    obtain ⟨xs, n, _, _, _, hlen, hf⟩ := DataW.trod_struct Try.underlying36 h
    have e3 : Try.prog.cellsOf 3 = 1 := by kernel_rfl
    have e23 : Try.prog.cellsOf 23 = 1 := by kernel_rfl
    have h0 := hf 0; have h1 := hf 1; have h2 := hf 2
    simp only [List.getElem?_toArray, List.getElem?_cons_succ, List.getElem?_cons_zero, Option.some.injEq, forall_eq'] at h0 h1 h2
    match xs, hlen, h0, h1, h2 with
    | [x0, x1, x2], _, h0, h1, h2 =>
      simp only [e3, e23, List.drop_succ_cons, List.drop_zero, List.take_succ_cons, List.take_zero, List.getElem?_cons_succ, List.getElem?_cons_zero] at h0 h1 h2
      obtain ⟨z0, f0, _⟩ := DataW.trod_int Try.underlying3 h0
      obtain ⟨z1, f1, _⟩ := DataW.trod_int Try.underlying23 h1
      obtain ⟨z2, f2, _⟩ := DataW.trod_int Try.underlying23 h2
      simp only [List.cons.injEq, and_true] at f0 f1 f2
      subst f0 f1 f2
      exact ⟨⟨z0, z1, z2⟩, World.block_lt_of_cell? W _ g0, by simpa using g0, g1, g2⟩
/-- The rows of operations. -/
theorem ops_of {b o l c : Nat} {fuel : Nat} {y : DataW H × List MemPlace} (h : DataW.trod enc Try.prog W 0 (fun _ => true) true fuel 32 [.slice (some ⟨b, o, none⟩) l c] = some y) : l ≤ c ∧ c ≤ maxLen ∧ ∀ i, i < l → ∃ x, OpAt W b (o + i * 3) x := by
  have e36 : Try.prog.cellsOf 36 = 3 := by kernel_rfl
  rcases DataW.trod_slice Try.underlying32 h with ⟨h, _⟩ | ⟨a, l', c', elems, rest, n, _, h, _, _, hl', hm, hlen, hel, _, _⟩
  · simp at h
  · have h : Value.slice (some ⟨b, o, none⟩) l c = .slice (some a) l' c' := by simpa using h
    cases h
    refine ⟨hl', hm, fun i hi => ?_⟩
    have h1 := hel i hi
    rw [e36, Addr.add_lit, List.getElem?_eq_getElem (by omega)] at h1
    obtain ⟨cs, hc, ht⟩ := Option.bind_eq_some_iff.1 h1
    exact op_of hc ht
/-- The rows of times. -/
theorem times_of {b o l c : Nat} {fuel : Nat} {y : DataW H × List MemPlace} (h : DataW.trod enc Try.prog W 0 (fun _ => true) true fuel 22 [.slice (some ⟨b, o, none⟩) l c] = some y) : l ≤ c ∧ c ≤ maxLen ∧ ∀ i, i < l → ∃ x, b < W.heap.size ∧ 0 ≤ x ∧ x ≤ 18446744073709551615 ∧ W.cell? ⟨b, o + i, none⟩ = some (.int .u64 x) := by
  have e23 : Try.prog.cellsOf 23 = 1 := by kernel_rfl
  rcases DataW.trod_slice Try.underlying22 h with ⟨h, _⟩ | ⟨a, l', c', elems, rest, n, _, h, _, _, hl', hm, hlen, hel, _, _⟩
  · simp at h
  · have h : Value.slice (some ⟨b, o, none⟩) l c = .slice (some a) l' c' := by simpa using h
    cases h
    refine ⟨hl', hm, fun i hi => ?_⟩
    have h1 := hel i hi
    rw [e23, Addr.add_lit, List.getElem?_eq_getElem (by omega)] at h1
    obtain ⟨cs, hc, ht⟩ := Option.bind_eq_some_iff.1 h1
    obtain ⟨_, hl, hat⟩ := World.cells?_some hc
    match cs, hl with
    | [c0], _ =>
      have g0 := hat 0 (by omega)
      rw [Addr.add_lit] at g0
      obtain ⟨z, f0, _, hw⟩ := DataW.trod_int Try.underlying23 ht
      simp only [List.cons.injEq, and_true] at f0
      subst f0
      have hw : IntKind.u64.min ≤ z ∧ z ≤ IntKind.u64.max := by simpa [Lit.wf] using hw
      have e1 : IntKind.u64.min = 0 := by decide
      have e2 : IntKind.u64.max = 18446744073709551615 := by decide
      rw [e1, e2] at hw
      exact ⟨z, World.block_lt_of_cell? W _ g0, hw.1, hw.2, by simpa using g0⟩
end
end Go.Proofs.DU
