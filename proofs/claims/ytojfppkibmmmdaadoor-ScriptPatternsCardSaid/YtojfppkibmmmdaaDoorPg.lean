/- The inputs' goal. Definitions alone. -/
import Derived.Test.YtojfppkibmmmdaaDoorProg
import Derived.Test.YtojfppkibmmmdaaDoorAc
namespace Go.Proofs.YtojfppkibmmmdaaDoor.scriptPatterns
open Go.Ai
def kk : List (Nat × List Value) := [(0, [1,1,1,1,3,13,4,4,4,2,5,6,7,9,12,11].map fun n => .int .u8 n)]
def Goal (n : Nat) : Prop := ∀ ts : Nat → TypeId, answers (aCallT Tryd.prog noSums (Go.Ai.runT Tryd.prog noSums 1000 200) 4 [.int .u8 (Int.ofNat n)] (tabW Tryd.prog ts kk 0)) isTrue = true
end Go.Proofs.YtojfppkibmmmdaaDoor.scriptPatterns
