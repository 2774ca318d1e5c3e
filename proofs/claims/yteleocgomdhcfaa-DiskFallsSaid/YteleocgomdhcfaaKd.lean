/- Proved: what the document's least functions of a disk come to. Each theorem says its own conditions. -/
import Derived.Test.YteleocgomdhcfaaProg
import Derived.WalkKit
import Derived.WalkMore
import Derived.OwnWalk
import Derived.Lib.Hide
import Derived.Laws.AppendOwn
import Derived.Deep.RegionHeld
import Derived.Test.YteleocgomdhcfaaKc
set_option linter.unusedVariables false
set_option linter.unusedSimpArgs false
namespace Go.Proofs.DK
open Go.RowKit
/-- The document's disk as a value: its row of files stands for itself. -/
def MV (S : Ds) (fv : Value) : Value := .agg #[.int .i64 S.room, fv, .bool S.down, .int .i64 S.falls, .bool S.fused, .int .i64 S.fuse, .int .i64 S.part]
theorem c40 (s : ByteArray) (w : World) (hs : s.size ≤ 9223372036854775807) : Calls Try.prog 40 #[.string s] w fun e w' => e = .returned (.bool (decide (1 ≤ s.size ∧ s.size ≤ 32))) ∧ w = w' := by
  by_cases h1 : 1 ≤ s.size
  · go_enter Try.func40, Try.ntmps40
    go_wp2
    go_ret
    exact ⟨congrArg (fun b => Ending.returned (Value.bool b)) (decide_eq_decide.2 (by omega)), rfl⟩
  · have h0 : s.size = 0 := by omega
    rw [decide_eq_false (fun h => h1 h.1)]
    go_enter Try.func40, Try.ntmps40
    go_wp2
    go_ret
    exact ⟨rfl, rfl⟩
theorem c35 (s : ByteArray) (w : World) (hs : s.size ≤ 9223372036854775807) : Calls Try.prog 35 #[.string s] w fun e w' => e = .returned (.bool (decide (1 ≤ s.size ∧ s.size ≤ 32))) ∧ w = w' := by
  by_cases h1 : 1 ≤ s.size
  · go_enter Try.func35, Try.ntmps35
    go_wp2
    go_ret
    exact ⟨congrArg (fun b => Ending.returned (Value.bool b)) (decide_eq_decide.2 (by omega)), rfl⟩
  · have h0 : s.size = 0 := by omega
    rw [decide_eq_false (fun h => h1 h.1)]
    go_enter Try.func35, Try.ntmps35
    go_wp2
    go_ret
    exact ⟨rfl, rfl⟩
set_option maxHeartbeats 1000000 in
theorem c29 (S : Ds) (p : Option Addr) (l c : Nat) (w : World) (h0 : 0 ≤ S.falls) (h1 : S.falls ≤ 100000) : Calls Try.prog 29 #[MV S (.slice p l c)] w fun e w' => e = .returned (MV S.crash (.slice p l c)) ∧ Below w.heap.size w w' := by
  obtain ⟨room, fs, down, falls, fused, fuse, part⟩ := S
  unfold Ds.crash MV
  simp only at h0 h1 ⊢
  cases down
  · go_enter Try.func29, Try.ntmps29
    go_wp2
    refine bodyPost_ret (v := .agg #[.int .i64 room, .slice p l c, .bool true, .int .i64 (falls + 1), .bool false, .int .i64 0, .int .i64 0]) (by simp [results, Try.results29, go_sem]) rfl ⟨rfl, ?_⟩
    exact ((Below.refl _ w).alloc (Nat.le_refl _) _).alloc (by simp) _
  · go_enter Try.func29, Try.ntmps29
    go_wp2
    refine bodyPost_ret (v := .agg #[.int .i64 room, .slice p l c, .bool true, .int .i64 falls, .bool false, .int .i64 0, .int .i64 0]) (by simp [results, Try.results29, go_sem]) rfl ⟨rfl, ?_⟩
    exact ((Below.refl _ w).alloc (Nat.le_refl _) _).alloc (by simp) _
set_option maxHeartbeats 1000000 in
theorem c28 (S : Ds) (p : Option Addr) (l c : Nat) (n k : Int) (w : World) : Calls Try.prog 28 #[MV S (.slice p l c), .int .i64 n, .int .i64 k] w fun e w' => e = .returned (MV (S.light n k) (.slice p l c)) ∧ Below w.heap.size w w' := by
  obtain ⟨room, fs, down, falls, fused, fuse, part⟩ := S
  unfold Ds.light MV
  simp only
  go_enter Try.func28, Try.ntmps28
  go_wp2
  all_goals refine bodyPost_ret (v := .agg #[.int .i64 room, .slice p l c, .bool down, .int .i64 falls, .bool true, .int .i64 (max n 0), .int .i64 (max k 0)]) (by simp [results, Try.results28, go_sem] <;> omega) rfl ⟨rfl, ?_⟩
  all_goals exact ((Below.refl _ w).alloc (Nat.le_refl _) _).alloc (by simp) _
end Go.Proofs.DK
