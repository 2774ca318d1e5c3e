/- The pictures of patterns, as runs of both texts' functions make them. Definitions alone. -/
import Derived.Test.YtojfppkibmmmdaaDoorProg
import Derived.Test.YtojfppkibmmmdaaDoorAf
import Derived.KernelRfl
set_option linter.unusedVariables false
set_option linter.unusedSimpArgs false
namespace Go.Proofs.SA
open Go.Ai
noncomputable def pic (f : Nat) (n lo : Nat) : Out := aCallT Tryd.prog noSums (Go.Ai.runT Tryd.prog noSums 1000 200) f [.int (if f = 13 then .u8 else .i64) (Int.ofNat n)] (blankAt lo)
noncomputable def form2 (v : Value) : Bool := match v with
  | .agg cs => match cs.toList with
    | [.slice (some _) _ _, .int .u64 _] => true
    | _ => false
  | _ => false
noncomputable def fine (f n lo : Nat) : Bool := picOk (pic f n lo) lo (lo + 60) && form2 (picV (pic f n lo))
noncomputable def isNone (v : Value) : Bool := match v with
  | .int .i64 n => decide (n = 0)
  | _ => false
noncomputable def mayRun (n : Nat) : Out := aCallT Tryd.prog noSums (Go.Ai.runT Tryd.prog noSums 1000 200) 12 [picV (pic 13 n 100)] ⟨picT (pic 13 n 100), 160, INF⟩
noncomputable def sameRun (f n : Nat) : Out := aCallT Tryd.prog noSums (Go.Ai.runT Tryd.prog noSums 1000 200) 14 [picV (pic 13 n 100), picV (pic f n 160)] ⟨(picT (pic 13 n 100)).or (picT (pic f n 160)), 220, INF⟩
end Go.Proofs.SA
