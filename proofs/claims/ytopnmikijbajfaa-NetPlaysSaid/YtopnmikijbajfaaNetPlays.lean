/- Proved: 'NetPlays' answers true for every input, and leaves what it was handed as it was. Conditions: none. -/
import Derived.Test.YtopnmikijbajfaaRows
import Derived.WalkKit
import Derived.ProofKit
import Derived.OpenShut
import Derived.Test.YtopnmikijbajfaaAd
import Derived.Test.YtopnmikijbajfaaOb
import Derived.Test.YtopnmikijbajfaaNm
namespace Go.Proofs.Ytopnmikijbajfaa.netPlays
open Go.ChangeShapes Go.WideShapes Go.ChangeAt Go.RowKit
set_option linter.unusedVariables false
set_option linter.unusedSimpArgs false

theorem progOk' : Go.Ai.progOk Try.prog = true := by kernel_rfl
theorem outer (a : Array Value) (h : a.toList.length = 2) : ∃ v0 v1, a = #[v0, v1] := by
  obtain ⟨l⟩ := a
  match l, h with
  | [v0, v1], _ => exact ⟨v0, v1, rfl⟩
theorem own : ownKnob Try.prog.godebug = none := by kernel_rfl
theorem laidOut' : laidOutB Try.prog = true := by kernel_rfl

theorem cutn (W w : World) : Calls Try.prog 8 #[.slice none 0 0] w (NT.CutG W w) :=
  (NT.c8n w).mono fun e w' ⟨h, h2⟩ => ⟨none, 0, 0, h, by omega, fun i hi => by omega, h2 ▸ Below.refl _ _⟩
theorem cutg (b o l c : Nat) (W : World) (xs : List NT.Opr) (hl : xs.length = l) (hlc : l ≤ c) (hmax : c ≤ 9223372036854775807) (hops : ∀ (i : Nat) (x : NT.Opr), xs[i]? = some x → NT.OpAt W b (o + i * 5) x) (hlen : ∀ (i : Nat) (x : NT.Opr), xs[i]? = some x → x.s.length ≤ 9223372036854775807)
    (w : World) (hB : Below W.heap.size W w) : Calls Try.prog 8 #[.slice (some ⟨b, o, none⟩) l c] w (NT.CutG W w) :=
  (NT.c8 b o l c w xs hl hlc hmax (fun i x hx => (hops i x hx).mono hB) hlen).mono fun e w' ⟨n, e1, hn, hn2, hs, hB'⟩ =>
    ⟨_, n, c, e1, hn2, fun i hi => by
      have hi' : i < xs.length := by omega
      exact ⟨b, o, xs[i], rfl, hops i _ (List.getElem?_eq_getElem hi'), hs i _ hi (List.getElem?_eq_getElem hi')⟩, hB'⟩
theorem play (v0 : Value) (W : World) (many : Bool) (hcut : ∀ w, Below W.heap.size W w → Calls Try.prog 8 #[v0] w (NT.CutG W w)) :
    Calls Try.prog 4 #[v0, .bool many] W fun e W' => e = .returned (.bool true) ∧ Below W.heap.size W W' := by
  cases many
  · exact NT.c4f v0 W hcut
  · exact NT.c4t v0 W hcut
theorem walk {H : Type} {enc : TypeId × Value → H} {base : Nat} (v0 v1 : Value) {W : World} {ds : List (DataW H)} {p : List MemPlace} (h0 : Value.okWide Try.prog W .any base 22 v0) (h1 : Value.okWide Try.prog W .any base 4 v1) (hA : DataW.TrodAll enc Try.prog W 0 (fun _ => true) true #[22, 4].toList #[v0, v1].toList ds p) :
    Calls Try.prog 4 #[v0, v1] W fun e W' => e = .returned (.bool true) ∧ Below W.heap.size W W' := by
  obtain ⟨d0, d1, rfl, hT⟩ : ∃ d0 d1, ds = [d0, d1] ∧ ∃ p0, DataW.Trod enc Try.prog W 0 (fun _ => true) true 22 v0 d0 p0 := by
    match ds, hA with
    | [d0, d1], ⟨p0, q, h1, _, _⟩ => exact ⟨d0, d1, rfl, p0, h1⟩
  obtain ⟨p0, fuel, hf⟩ := hT
  obtain ⟨many, rfl⟩ := Go.Ai.cell_bool Try.underlying4 (Go.Ai.okWide_cell h1 (fun fs h => by rw [Try.underlying4] at h; cases h) (fun m e h => by rw [Try.underlying4] at h; cases h))
  rcases Go.Ai.cell_slice Try.underlying22 (Go.Ai.okWide_cell h0 (fun fs h => by rw [Try.underlying22] at h; cases h) (fun m e h => by rw [Try.underlying22] at h; cases h)) with rfl | ⟨b, o, l, c, rfl, hlc, hcap⟩
  · exact play _ W many fun w _ => cutn W w
  · obtain ⟨k1, k2, xs, hl, hx⟩ := NT.ops_of hf
    refine play _ W many (cutg b o l c W xs hl k1 (by unfold maxLen at k2; omega) (fun i x e => (hx i x e).1) (fun i x e => ?_))
    have := (hx i x e).2.2
    unfold maxLen at this
    omega

set_option maxRecDepth 100000 in
theorem lifted (os : Os) (started : os.Started) (H : Type) (enc : TypeId × Value → H) :
    ReturnsInHanded {} Try.checked os 4 .any (Rows.netPlaysSpec.pre6 enc Try.prog Try.f4 Rows.netPlaysRow.domain false) (Rows.netPlaysSpec.post enc Try.prog Try.f4 false true false false) := by
  refine returnsInHanded_of_change (C := Try.checked) own started (by kernel_rfl) Try.func4
    (ChangeSpec.witness6 (enc := enc) (C := Try.checked) false ⟨#[], #[.slice none 0 0, .bool false], []⟩ 8 (by kernel_rfl) (by kernel_rfl) (by kernel_rfl) (by kernel_rfl)) ?_
  intro W base args ds gs before hval0 hW _ _
  have hval : ∀ (j : Nat) t v, Try.f4.params[j]? = some t → args[j]? = some v → Value.okWide Try.prog W .any base t v := hval0
  have hW' : DataW.Whole enc Try.prog Try.f4.params.toList Rows.netPlaysSpec.vars false W args.toList ds gs before := hW
  clear hval0 hW
  have hsize : args.toList.length = 2 := by
    obtain ⟨p, q, hA0, _⟩ := hW'
    have hA : DataW.TrodAll enc Try.prog W 0 (fun _ => true) true Try.f4.params.toList args.toList ds p := hA0
    rw [Try.params4] at hA
    exact (Go.Ai.trodAll_len hA).1
  obtain ⟨v0, v1, rfl⟩ : ∃ v0 v1, args = #[v0, v1] := outer args hsize
  rw [Try.params4] at hval
  obtain ⟨pA, qA, hA0, _⟩ := id hW'
  rw [Try.params4] at hA0
  refine (walk v0 v1 (hval 0 22 v0 rfl rfl) (hval 1 4 v1 rfl rfl) hA0).mono fun e W' ⟨he, hw⟩ => ?_
  refine ⟨_, he, Go.Ai.row_true (P := Try.prog) (f := Try.f4) (s := Rows.netPlaysSpec) (tb := 4) laidOut' (by kernel_rfl) rfl (fun ds h => ?_) (by kernel_rfl) Try.underlying4 hW' hw⟩
  rw [Try.params4] at h
  match ds, h with
  | [d0, d1], _ => rfl

theorem over : Rows.netPlaysRow.holds Try.pinned (OpenSpec.ofChange Rows.netPlaysSpec) :=
  OpenClaim.holds_of_wide 4 Try.f4 rfl rfl rfl rfl rfl rfl rfl ⟨rfl, rfl, rfl, rfl, rfl⟩ rfl rfl rfl rfl rfl (by kernel_rfl) Try.func4 (by kernel_rfl)
    (of_decide_eq_true (by kernel_rfl)) (by unfold Func.isWrapper; first | (rw [if_pos (by decide +kernel)]; kernel_rfl) | (rw [if_neg (by decide +kernel)]; exact ⟨rfl, rfl⟩))
    (fun os started H enc _ => lifted os started H enc)

/-- ████ THE STATEMENT ████ -/
theorem proved : Rows.NetPlaysSaid :=
  over
#print axioms proved
end Go.Proofs.Ytopnmikijbajfaa.netPlays
