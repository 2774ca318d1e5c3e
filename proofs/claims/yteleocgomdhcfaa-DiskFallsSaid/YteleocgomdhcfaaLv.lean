/- Proved: the chapter's example, and the law whatever it is handed. Each theorem says its own conditions. -/
import Derived.Test.YteleocgomdhcfaaLu
import Derived.Test.YteleocgomdhcfaaIter
import Derived.Test.YteleocgomdhcfaaChecked
set_option linter.unusedVariables false
set_option linter.unusedSimpArgs false
namespace Go.Proofs.DK
open Go.RowKit
theorem progOk : Go.Ai.progOk Try.prog = true := by kernel_rfl
noncomputable def sums : Go.Ai.Sums := Go.Ai.diskSums Try.prog 21 32 46 9
def orc : Go.Ai.Orc := fun _ _ => false
def hard : FuncId → Bool := fun f => Nat.beq f 5
theorem run5 (ts : Nat → TypeId) : Go.Ai.asked Try.prog sums hard orc 1000 200 5 [] (Go.Ai.tabW Try.prog ts [] 0) Go.Ai.saysTrue = true := by kernel_rfl
/-- The chapter's example. -/
theorem c5 (W : World) : Calls Try.prog 5 #[] W fun e w' => e = .returned (.bool true) ∧ Below W.heap.size W w' :=
  Go.Ai.ai_asked progOk (Checked.mixed Try.checked) sums (fun w0 => Go.Ai.diskSums_sound progOk Try.sortsKeys w0) hard orc 1000 200 5 [] [] [] [] W (Go.Ai.tabled_nil _) (.nil _) (fun ts => run5 ts)
set_option maxRecDepth 100000 in
theorem c3big (p : Option Addr) (l c : Nat) (pk : Option Addr) (n ck : Nat) (W : World) (hk : n ≤ maxLen) (hkl : 300 < n)
    (hfix : ∀ w, Calls Try.prog 5 #[] w fun e w' => e = .returned (.bool true) ∧ Below w.heap.size w w') :
    Calls Try.prog 3 #[.slice p l c, .slice pk n ck] W fun e W' => e = .returned (.bool true) ∧ Below W.heap.size W W' := by
  unfold maxLen at hk
  go_enter Try.func3, Try.ntmps3
  go_wp2_with (go_at_call 5; (refine (hfix _).mono ?_); rintro e w2 ⟨rfl, hB2⟩)
  go_ret
  exact ⟨rfl, hB2⟩
theorem law (ops : List Opn) (p : Option Addr) (c : Nat) (keep : List Int) (pk : Option Addr) (ck : Nat) (W : World) (hg : Given W p c ops) (hkeep : RdIN W.heap.size W (.slice pk keep.length ck) keep) (hkm : keep.length ≤ maxLen)
    (hfix : ∀ w, Calls Try.prog 5 #[] w fun e w' => e = .returned (.bool true) ∧ Below w.heap.size w w') :
    Calls Try.prog 3 #[.slice p ops.length c, .slice pk keep.length ck] W fun e W' => e = .returned (.bool true) ∧ Below W.heap.size W W' := by
  rcases Nat.lt_or_ge 300 keep.length with h | h
  · exact c3big p ops.length c pk keep.length ck W hkm h hfix
  · exact c3 ops p c keep pk ck W hg hkeep h hfix
end Go.Proofs.DK
