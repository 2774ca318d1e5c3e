/- Proved: contracts of single functions of the program and lemmas that they need; each theorem says its own conditions. -/
import Derived.Test.YtblgkhghoppanaaGreatPa
import Derived.Lib.Strings
import Derived.Lib.Slices
import Derived.Lib.Small
import Derived.Lib.Walk
import Derived.Lib.BitFns
import Derived.Laws.MakeOwn
import Derived.Laws.Bits128
set_option linter.unusedVariables false
set_option linter.unusedSimpArgs false
namespace Go.Proofs.PK
open Go.RowKit
theorem tab_size : (Lib.len8tab.size : Int) = 256 := by
  have : Lib.len8tab.size = 256 := Lib.len8tab_size
  omega
theorem byte_small (b : UInt8) (k : Nat) (hk : k ≤ 56) : 0 ≤ wrap64 ((k : Int) + wrap64 (b.toNat : Int)) ∧ wrap64 ((k : Int) + wrap64 (b.toNat : Int)) ≤ 400 := by
  have := b.toNat_lt
  unfold wrap64
  omega
theorem byte_small0 (b : UInt8) : 0 ≤ wrap64 (b.toNat : Int) ∧ wrap64 (b.toNat : Int) ≤ 400 := by
  have := b.toNat_lt
  unfold wrap64
  omega
theorem byte_small1 (b : UInt8) : 0 ≤ wrap64 (wrap64 (b.toNat : Int)) ∧ wrap64 (wrap64 (b.toNat : Int)) ≤ 400 := by
  have := b.toNat_lt
  unfold wrap64
  omega
set_option maxRecDepth 100000 in
set_option maxHeartbeats 4000000 in
theorem c67 (x : Int) (w : World) (h0 : 0 ≤ x) (h1 : x ≤ 18446744073709551615) : Calls Tryz.prog 67 #[.int .u64 x] w fun e w' => w' = w ∧ ∃ r : Int, e = .returned (.int .i64 r) ∧ 0 ≤ r ∧ r ≤ 400 := by
  go_enter Tryz.func67, Tryz.ntmps67
  simp only [List.append_eq, List.cons_append, List.nil_append, Lib.fold_len8tab]
  go_wp2
  all_goals (have hs := tab_size)
  all_goals first
    | (go_ret; exact ⟨rfl, _, rfl, byte_small _ 56 (by omega)⟩)
    | (go_ret; exact ⟨rfl, _, rfl, byte_small _ 48 (by omega)⟩)
    | (go_ret; exact ⟨rfl, _, rfl, byte_small _ 40 (by omega)⟩)
    | (go_ret; exact ⟨rfl, _, rfl, byte_small _ 32 (by omega)⟩)
    | (go_ret; exact ⟨rfl, _, rfl, byte_small _ 24 (by omega)⟩)
    | (go_ret; exact ⟨rfl, _, rfl, byte_small _ 16 (by omega)⟩)
    | (go_ret; exact ⟨rfl, _, rfl, byte_small _ 8 (by omega)⟩)
    | (go_ret; exact ⟨rfl, _, rfl, byte_small0 _⟩)
    | (go_ret; exact ⟨rfl, _, rfl, byte_small1 _⟩)
    | skip
  all_goals try (exfalso; omega)
end Go.Proofs.PK
