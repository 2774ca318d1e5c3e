/- Proved: 'DiskNil' answers true for every input, and leaves what it was handed as it was. Conditions: none. -/
import Derived.Test.YteleocgomdhcfaaRows
import Derived.WalkKit
import Derived.ProofKit
import Derived.OpenShut
import Derived.Test.YteleocgomdhcfaaAd
import Derived.Test.YteleocgomdhcfaaIter
namespace Go.Proofs.Yteleocgomdhcfaa.diskNil
open Go.ChangeShapes Go.WideShapes Go.ChangeAt Go.RowKit
set_option linter.unusedVariables false
set_option linter.unusedSimpArgs false

theorem progOk' : Go.Ai.progOk Try.prog = true := by kernel_rfl
theorem outer (a : Array Value) (h : a.toList.length = 1) : ∃ v0, a = #[v0] := by
  obtain ⟨l⟩ := a
  match l, h with
  | [v0], _ => exact ⟨v0, rfl⟩
theorem own : ownKnob Try.prog.godebug = none := by kernel_rfl
theorem laidOut' : laidOutB Try.prog = true := by kernel_rfl

/-- The tests in 'cut' at which the run parts. -/
def orc : Go.Ai.Orc := fun f t => match f, t with
  | 7, 32 => true
  | 7, 38 => true
  | _, _ => false
def hard : FuncId → Bool := fun f => Nat.beq f 5
noncomputable def sums : Go.Ai.Sums := Go.Ai.diskSums Try.prog 21 32 46 9
abbrev arg (k : Int) (s t : ByteArray) (b : Value) (n m : Int) (c : Value) : Value := .agg [.int .i64 k, .string s, .string t, b, .int .i64 n, .int .i64 m, c].toArray
abbrev sl (i off len cap : Nat) : Value := .slice (some ⟨0 + i, off, none⟩) len cap
theorem run0 (k n m : Int) (s t : ByteArray) (ts : Nat → TypeId) : Go.Ai.asked Try.prog sums hard orc 1000 200 4 [arg k s t (.slice none 0 0) n m (.slice none 0 0)] (Go.Ai.tabW Try.prog ts [] 0) Go.Ai.saysTrue = true := by kernel_rfl
theorem run1 (k n m : Int) (s t : ByteArray) (o l c : Nat) (ts : Nat → TypeId) : Go.Ai.asked Try.prog sums hard orc 1000 200 4 [arg k s t (sl 0 o l c) n m (.slice none 0 0)] (Go.Ai.tabW Try.prog ts [] 1) Go.Ai.saysTrue = true := by kernel_rfl
theorem run2 (k n m : Int) (s t : ByteArray) (o l c : Nat) (ts : Nat → TypeId) : Go.Ai.asked Try.prog sums hard orc 1000 200 4 [arg k s t (.slice none 0 0) n m (sl 0 o l c)] (Go.Ai.tabW Try.prog ts [] 1) Go.Ai.saysTrue = true := by kernel_rfl
theorem run3 (k n m : Int) (s t : ByteArray) (o l c o' l' c' : Nat) (ts : Nat → TypeId) : Go.Ai.asked Try.prog sums hard orc 1000 200 4 [arg k s t (sl 0 o l c) n m (sl 1 o' l' c')] (Go.Ai.tabW Try.prog ts [] 2) Go.Ai.saysTrue = true := by kernel_rfl

set_option maxRecDepth 100000 in
theorem walk {base : Nat} (v0 : Value) {W : World} (h0 : Value.okWide Try.prog W .any base 35 v0) :
    Calls Try.prog 4 #[v0] W fun e W' => e = .returned (.bool true) ∧ Below W.heap.size W W' := by
  obtain ⟨cs, rfl, hl, hc⟩ := Go.Ai.okWide_struct (ts := [3, 9, 9, 33, 3, 3, 23]) Try.underlying35 (by kernel_rfl) (by kernel_rfl) h0
  match cs, hl with
  | [c0, c1, c2, c3, c4, c5, c6], _ =>
  obtain ⟨u0, e0, k0⟩ := hc 0 c0 rfl; cases e0
  obtain ⟨u1, e1, k1⟩ := hc 1 c1 rfl; cases e1
  obtain ⟨u2, e2, k2⟩ := hc 2 c2 rfl; cases e2
  obtain ⟨u3, e3, k3⟩ := hc 3 c3 rfl; cases e3
  obtain ⟨u4, e4, k4⟩ := hc 4 c4 rfl; cases e4
  obtain ⟨u5, e5, k5⟩ := hc 5 c5 rfl; cases e5
  obtain ⟨u6, e6, k6⟩ := hc 6 c6 rfl; cases e6
  obtain ⟨k, rfl, _⟩ := Go.Ai.cell_int Try.underlying3 k0
  obtain ⟨s, rfl, _⟩ := Go.Ai.cell_string Try.underlying9 k1
  obtain ⟨t, rfl, _⟩ := Go.Ai.cell_string Try.underlying9 k2
  obtain ⟨n, rfl, _⟩ := Go.Ai.cell_int Try.underlying3 k4
  obtain ⟨m, rfl, _⟩ := Go.Ai.cell_int Try.underlying3 k5
  have hG : Try.prog.globals.size = 0 := by kernel_rfl
  have hS : ∀ w0, Go.Ai.SumsSound Try.prog w0 sums := fun w0 => Go.Ai.diskSums_sound progOk' Try.sortsKeys w0
  have args : ∀ (bs : List Nat) (b b' c c' : Value), Go.Ai.VRel (Go.Ai.mixInj Try.prog bs) b b' → Go.Ai.VRel (Go.Ai.mixInj Try.prog bs) c c' →
      Go.Ai.LRel (Go.Ai.mixInj Try.prog bs) [arg k s t b n m c] [.agg [.int .i64 k, .string s, .string t, b', .int .i64 n, .int .i64 m, c'].toArray] := fun bs b b' c c' hb hc =>
    .cons (.aggL (.cons (.int _ _) (.cons (.string _) (.cons (.string _) (.cons hb (.cons (.int _ _) (.cons (.int _ _) (.cons hc (.nil _))))))))) (.nil _)
  rcases Go.Ai.cell_slice Try.underlying33 k3 with rfl | ⟨b1, o1, l1, a1, rfl, q1, r1⟩ <;> rcases Go.Ai.cell_slice Try.underlying23 k6 with rfl | ⟨b2, o2, l2, a2, rfl, q2, r2⟩
  · exact Go.Ai.ai_asked progOk' (Checked.mixed Try.checked) sums hS hard orc 1000 200 4 [] [] _ _ W (Go.Ai.tabled_nil _) (args _ _ _ _ _ (.snil _ _) (.snil _ _)) (fun ts => run0 k n m s t ts)
  · have h2 := Go.Ai.mix_slice (P := Try.prog) (bs := [b2]) 0 rfl o2 l2 a2 q2 r2
    rw [hG] at h2
    exact Go.Ai.ai_asked progOk' (Checked.mixed Try.checked) sums hS hard orc 1000 200 4 [] [b2] _ _ W (Go.Ai.tabled_nil _) (args _ _ _ _ _ (.snil _ _) h2) (fun ts => run2 k n m s t o2 l2 a2 ts)
  · have h1 := Go.Ai.mix_slice (P := Try.prog) (bs := [b1]) 0 rfl o1 l1 a1 q1 r1
    rw [hG] at h1
    exact Go.Ai.ai_asked progOk' (Checked.mixed Try.checked) sums hS hard orc 1000 200 4 [] [b1] _ _ W (Go.Ai.tabled_nil _) (args _ _ _ _ _ h1 (.snil _ _)) (fun ts => run1 k n m s t o1 l1 a1 ts)
  · have h1 := Go.Ai.mix_slice (P := Try.prog) (bs := [b1, b2]) 0 rfl o1 l1 a1 q1 r1
    have h2 := Go.Ai.mix_slice (P := Try.prog) (bs := [b1, b2]) 1 rfl o2 l2 a2 q2 r2
    rw [hG] at h1 h2
    exact Go.Ai.ai_asked progOk' (Checked.mixed Try.checked) sums hS hard orc 1000 200 4 [] [b1, b2] _ _ W (Go.Ai.tabled_nil _) (args _ _ _ _ _ h1 h2) (fun ts => run3 k n m s t o1 l1 a1 o2 l2 a2 ts)

set_option maxRecDepth 100000 in
theorem lifted (os : Os) (started : os.Started) (H : Type) (enc : TypeId × Value → H) :
    ReturnsInHanded {} Try.checked os 4 .any (Rows.diskNilSpec.pre6 enc Try.prog Try.f4 Rows.diskNilRow.domain false) (Rows.diskNilSpec.post enc Try.prog Try.f4 false true false false) := by
  refine returnsInHanded_of_change (C := Try.checked) own started (by kernel_rfl) Try.func4
    (ChangeSpec.witness6 (enc := enc) (C := Try.checked) false ⟨#[], #[.agg #[.int .i64 0, .string ⟨#[]⟩, .string ⟨#[]⟩, .slice none 0 0, .int .i64 0, .int .i64 0, .slice none 0 0]], []⟩ 8 (by kernel_rfl) (by kernel_rfl) (by kernel_rfl) (by kernel_rfl)) ?_
  intro W base args ds gs before hval0 hW _ _
  have hval : ∀ (j : Nat) t v, Try.f4.params[j]? = some t → args[j]? = some v → Value.okWide Try.prog W .any base t v := hval0
  have hW' : DataW.Whole enc Try.prog Try.f4.params.toList Rows.diskNilSpec.vars false W args.toList ds gs before := hW
  clear hval0 hW
  have hsize : args.toList.length = 1 := by
    obtain ⟨p, q, hA0, _⟩ := hW'
    have hA : DataW.TrodAll enc Try.prog W 0 (fun _ => true) true Try.f4.params.toList args.toList ds p := hA0
    rw [Try.params4] at hA
    exact (Go.Ai.trodAll_len hA).1
  obtain ⟨v0, rfl⟩ : ∃ v0, args = #[v0] := outer args hsize
  rw [Try.params4] at hval
  refine (walk v0 (hval 0 35 v0 rfl rfl)).mono fun e W' ⟨he, hw⟩ => ?_
  refine ⟨_, he, Go.Ai.row_true (P := Try.prog) (f := Try.f4) (s := Rows.diskNilSpec) (tb := 4) laidOut' (by kernel_rfl) rfl (fun ds h => ?_) (by kernel_rfl) Try.underlying4 hW' hw⟩
  rw [Try.params4] at h
  match ds, h with
  | [d0], _ => rfl

theorem over : Rows.diskNilRow.holds Try.pinned (OpenSpec.ofChange Rows.diskNilSpec) :=
  OpenClaim.holds_of_wide 4 Try.f4 rfl rfl rfl rfl rfl rfl rfl ⟨rfl, rfl, rfl, rfl, rfl⟩ rfl rfl rfl rfl rfl (by kernel_rfl) Try.func4 (by kernel_rfl)
    (of_decide_eq_true (by kernel_rfl)) (by unfold Func.isWrapper; first | (rw [if_pos (by decide +kernel)]; kernel_rfl) | (rw [if_neg (by decide +kernel)]; exact ⟨rfl, rfl⟩))
    (fun os started H enc _ => lifted os started H enc)

/-- ████ THE STATEMENT ████ -/
theorem proved : Rows.DiskNilSaid :=
  over
#print axioms proved
end Go.Proofs.Yteleocgomdhcfaa.diskNil
