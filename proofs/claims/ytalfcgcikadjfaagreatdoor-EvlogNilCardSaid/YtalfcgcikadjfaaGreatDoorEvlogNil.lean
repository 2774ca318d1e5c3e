/- Proved: 'EvlogNil' answers true for every input, and leaves what it was handed as it was; its tied card. Conditions: the card's own. -/
import Derived.Test.YtalfcgcikadjfaaGreatDoorRows
import Derived.WalkKit
import Derived.ProofKit
import Derived.OpenShut
import Derived.Stop.Joined
import Derived.LaidMore
import Derived.Lay
import Derived.SevenTiedAt
import Derived.Test.YtalfcgcikadjfaaGreatDoorCards
import Derived.Test.YtalfcgcikadjfaaGreatDoorTie
import Derived.Test.YtalfcgcikadjfaaGreatDoorAd
import Derived.Test.YtalfcgcikadjfaaGreatDoorEb
import Derived.Test.YtalfcgcikadjfaaGreatDoorEc
import Derived.ChangeSame
import Derived.Lib.SmallJoins
namespace Go.Proofs.YtalfcgcikadjfaaGreatDoor.evlogNil
open Go.ChangeShapes Go.WideShapes Go.ChangeAt Go.RowKit
set_option linter.unusedVariables false
set_option linter.unusedSimpArgs false

theorem progOk' : Go.Ai.progOk Tryz.prog = true := by kernel_rfl
theorem outer (a : Array Value) (h : a.toList.length = 1) : ∃ v0, a = #[v0] := by
  obtain ⟨l⟩ := a
  match l, h with
  | [v0], _ => exact ⟨v0, rfl⟩
theorem own : ownKnob Tryz.prog.godebug = none := by kernel_rfl
theorem laidOut' : laidOutB Tryz.prog = true := by kernel_rfl

noncomputable def kk : List (Nat × List Value) := Go.Proofs.YtalfcgcikadjfaaGreatDoor.ev.kk
theorem tabled_mono {W w' : World} (h : Go.Ai.Tabled Tryz.prog W kk) (hb : Below W.heap.size W w') : Go.Ai.Tabled Tryz.prog w' kk := fun g vs hm => by
  obtain ⟨a, b, c⟩ := h g vs hm
  exact ⟨a, b, fun i v hi => ⟨(c i v hi).1, by rw [hb.cell (p := ⟨g, i, none⟩) (World.block_lt_of_cell? W _ (c i v hi).2)]; exact (c i v hi).2⟩⟩
section
variable {H : Type} {enc : TypeId × Value → H}
set_option maxRecDepth 10000 in
theorem fields_of {W : World} {c0 c1 c2 c3 c4 c5 c6 c7 c8 : Value} {fuel : Nat} {y : DataW H × List MemPlace} (h : DataW.trod enc Tryz.prog W 0 (fun _ => true) true fuel 29 [c0, c1, c2, c3, c4, c5, c6, c7, c8] = some y) : EV.Raws W c5 := by
  obtain ⟨xs, n, _, _, _, hlen, hf⟩ := DataW.trod_struct Tryz.underlying29 h
  have e26 : Tryz.prog.cellsOf 26 = 2 := by kernel_rfl
  have e24 : Tryz.prog.cellsOf 24 = 1 := by kernel_rfl
  have h4 := hf 4
  simp only [List.getElem?_toArray, List.getElem?_cons_succ, List.getElem?_cons_zero, Option.some.injEq, forall_eq'] at h4
  match xs, hlen, h4 with
  | [x0, x1, x2, x3, x4, x5, x6, x7], _, h4 =>
    simp only [e26, List.drop_succ_cons, List.drop_zero, List.take_succ_cons, List.take_zero, List.getElem?_cons_succ, List.getElem?_cons_zero] at h4
    obtain ⟨z0, z1, n', _, _, _, h3⟩ := trod_struct2 Tryz.underlying26 h4
    simp only [e24, List.drop_succ_cons, List.drop_zero, List.take_succ_cons, List.take_zero] at h3
    exact (EV.raws_of h3).1
end
set_option maxRecDepth 100000 in
theorem walk {H : Type} {enc : TypeId × Value → H} {base : Nat} (v0 : Value) {W : World} {ds : List (DataW H)} {p : List MemPlace} (h0 : Value.okWide Tryz.prog W .any base 29 v0) (hA : DataW.TrodAll enc Tryz.prog W 0 (fun _ => true) true #[29].toList #[v0].toList ds p) (hL : Go.Ai.Tabled Tryz.prog W kk) :
    Calls Tryz.prog 3 #[v0] W fun e W' => e = .returned (.bool true) ∧ Below W.heap.size W W' := by
  obtain ⟨d0, rfl, hT⟩ : ∃ d0, ds = [d0] ∧ ∃ p0, DataW.Trod enc Tryz.prog W 0 (fun _ => true) true 29 v0 d0 p0 := by
    match ds, hA with
    | [d0], ⟨p0, q, h1, _, _⟩ => exact ⟨d0, rfl, p0, h1⟩
  obtain ⟨p0, fuel, hf⟩ := hT
  obtain ⟨cs, rfl, hl, hc⟩ := Go.Ai.okWide_struct (ts := [3, 22, 23, 23, 5, 24, 5, 5, 27]) Tryz.underlying29 (by kernel_rfl) (by kernel_rfl) h0
  match cs, hl with
  | [c0, c1, c2, c3, c4, c5, c6, c7, c8], _ =>
  obtain ⟨u0, e0, k0⟩ := hc 0 c0 rfl; cases e0
  obtain ⟨u1, e1, k1⟩ := hc 1 c1 rfl; cases e1
  obtain ⟨u2, e2, k2⟩ := hc 2 c2 rfl; cases e2
  obtain ⟨u3, e3, k3⟩ := hc 3 c3 rfl; cases e3
  obtain ⟨u4, e4, k4⟩ := hc 4 c4 rfl; cases e4
  obtain ⟨u6, e6, k6⟩ := hc 6 c6 rfl; cases e6
  obtain ⟨u7, e7, k7⟩ := hc 7 c7 rfl; cases e7
  obtain ⟨u8, e8, k8⟩ := hc 8 c8 rfl; cases e8
  obtain ⟨a0, rfl, _⟩ := Go.Ai.cell_int Tryz.underlying3 k0
  obtain ⟨a1, rfl, _⟩ := Go.Ai.cell_int Tryz.underlying22 k1
  obtain ⟨a2, rfl, _⟩ := Go.Ai.cell_int Tryz.underlying23 k2
  obtain ⟨a3, rfl, _⟩ := Go.Ai.cell_int Tryz.underlying23 k3
  obtain ⟨a4, rfl, _⟩ := Go.Ai.cell_int Tryz.underlying5 k4
  obtain ⟨a6, rfl, _⟩ := Go.Ai.cell_int Tryz.underlying5 k6
  obtain ⟨a7, rfl, _⟩ := Go.Ai.cell_int Tryz.underlying5 k7
  obtain ⟨kp, kl, kc, rfl⟩ : ∃ kp kl kc, c8 = .slice kp kl kc := by
    rcases Go.Ai.cell_slice Tryz.underlying27 k8 with rfl | ⟨b, o, l, c, rfl, _⟩
    · exact ⟨_, _, _, rfl⟩
    · exact ⟨_, _, _, rfl⟩
  have hr : EV.Raws W c5 := fields_of hf
  exact EV.c3 a0 a1 a2 a3 a4 a6 a7 c5 kp kl kc W hr fun w' hb => Go.Proofs.YtalfcgcikadjfaaGreatDoor.ev.c7 (tabled_mono hL hb)

theorem tabbed {w : World} (h : laidMetH Tryz.prog Rows.evlogNilRow.laid w) : Go.Ai.Tabled Tryz.prog w kk := Go.Ai.tabled_of (by kernel_rfl) (by kernel_rfl) h

set_option maxRecDepth 100000 in
theorem lifted (os : Os) (started : os.Started) (H : Type) (enc : TypeId × Value → H) :
    ReturnsInHanded {} Tryz.checked os 3 .any (fun w args => (Rows.evlogNilSpec.pre enc Tryz.prog Tryz.f3 [] false w args ∧ laidMetH Tryz.prog Rows.evlogNilRow.laid w) ∧ sizedMet enc Tryz.prog Tryz.f3 (OpenSpec.ofChange Rows.evlogNilSpec) false w args) (Rows.evlogNilSpec.post enc Tryz.prog Tryz.f3 false true false false) := by
  refine returnsInHanded_of_change_and (C := Tryz.checked) (X := fun w _ => laidMetH Tryz.prog Rows.evlogNilRow.laid w) (fun _ _ _ hh h => h.of_heap hh) own started (by kernel_rfl) Tryz.func3
    (ChangeSpec.witness_shaped (enc := enc) (C := Tryz.checked) (os := os) (X := fun w _ => laidMetH Tryz.prog Rows.evlogNilRow.laid w) false (World.laidAll Tryz.prog os Rows.evlogNilRow.laid) #[.agg #[.int .i64 0, .int .u32 0, .int .u64 0, .int .u64 0, .int .u8 0, .slice none 0 0, .int .u8 0, .int .u8 0, .slice none 0 0]] 8 (World.laidAll_os _ _ _) (World.shaped_of_ZipB (by kernel_rfl) (by kernel_rfl)) (by kernel_rfl) (by kernel_rfl) (by kernel_rfl) (by rw [MakeChecks.laidMetH_plain _ _ _ (by kernel_rfl)]; exact laidMet_laidAll _ (by kernel_rfl) (by kernel_rfl))) ?_
  intro W base args ds gs before hval0 hW _ _ hL _
  have hval : ∀ (j : Nat) t v, Tryz.f3.params[j]? = some t → args[j]? = some v → Value.okWide Tryz.prog W .any base t v := hval0
  have hW' : DataW.Whole enc Tryz.prog Tryz.f3.params.toList Rows.evlogNilSpec.vars false W args.toList ds gs before := hW
  clear hval0 hW
  have hsize : args.toList.length = 1 := by
    obtain ⟨p, q, hA0, _⟩ := hW'
    have hA : DataW.TrodAll enc Tryz.prog W 0 (fun _ => true) true Tryz.f3.params.toList args.toList ds p := hA0
    rw [Tryz.params3] at hA
    exact (Go.Ai.trodAll_len hA).1
  obtain ⟨v0, rfl⟩ : ∃ v0, args = #[v0] := outer args hsize
  rw [Tryz.params3] at hval
  obtain ⟨pA, qA, hA0, _⟩ := id hW'
  rw [Tryz.params3] at hA0
  refine (walk v0 (hval 0 29 v0 rfl rfl) hA0 (tabbed hL)).mono fun e W' ⟨he, hw⟩ => ?_
  refine ⟨_, he, Go.Ai.row_true (P := Tryz.prog) (f := Tryz.f3) (s := Rows.evlogNilSpec) (tb := 4) laidOut' (by kernel_rfl) rfl (fun ds h => ?_) (by kernel_rfl) Tryz.underlying4 hW' hw⟩
  rw [Tryz.params3] at h
  match ds, h with
  | [d0], _ => rfl

theorem over : Rows.evlogNilRow.holds Tryz.pinned (OpenSpec.ofChange Rows.evlogNilSpec) :=
  OpenClaim.holds_of_wide 3 Tryz.f3 rfl rfl rfl rfl rfl rfl rfl ⟨rfl, rfl, rfl, rfl, rfl⟩ rfl rfl rfl rfl rfl (by kernel_rfl) Tryz.func3 (by kernel_rfl)
    (of_decide_eq_true (by kernel_rfl)) (by unfold Func.isWrapper; first | (rw [if_pos (by decide +kernel)]; kernel_rfl) | (rw [if_neg (by decide +kernel)]; exact ⟨rfl, rfl⟩))
    (fun os started H enc _ => lifted os started H enc)

/-- ████ THE STATEMENT ████ -/
theorem proved : Rows.EvlogNilCardSaid :=
  Claim7.holds_tied_plain_at .later [] [.data, .data, .data, .data, .data, .pinned] true (true, "f6eb571a9dd61fe1fda5dba6d83c46af04713766b41e4552f3ba569151b16c7c") false
    over (fun _ h => by cases h) (by kernel_rfl) (fun _ h => by cases h) evlogNil_row_tie rfl ⟨rfl, rfl⟩ (by kernel_rfl) rfl
    (fun f fn hf hfn => by
      obtain rfl : f = 3 := Option.some.inj ((show Tryz.prog.funcNamed "equerry/equerrylaw17.EvlogNil" = some 3 by kernel_rfl).symm.trans hf) |>.symm
      obtain rfl : fn = Tryz.f3 := (Option.some.inj (Tryz.func3.symm.trans hfn)).symm
      exact ⟨by kernel_rfl, fun j t ht => by
        rw [Tryz.params3] at ht
        have hm : t ∈ [29] := by
          have := Array.mem_of_getElem? ht
          simp at this ⊢
          omega
        have hall : ([29].all fun u => !Tryz.prog.wantsStandIn u) = true := by kernel_rfl
        exact (show Tryz.prog.wantsStandIn t = false by simpa using List.all_eq_true.1 hall t hm)⟩)
    (by kernel_rfl)
#print axioms proved
end Go.Proofs.YtalfcgcikadjfaaGreatDoor.evlogNil
