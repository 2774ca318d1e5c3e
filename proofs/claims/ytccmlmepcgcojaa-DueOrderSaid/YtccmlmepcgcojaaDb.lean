/- Proved: the list of dues in memory, and what its least functions come to. Each theorem says its own conditions. -/
import Derived.Test.YtccmlmepcgcojaaDa
import Derived.Test.YtccmlmepcgcojaaProg
import Derived.Test.YtccmlmepcgcojaaChecked
import Derived.WalkKit
import Derived.WalkMore
import Derived.OwnWalk
import Derived.Lib.Hide
import Derived.Laws.AppendOwn
import Derived.Deep.AppendLies
import Derived.Deep.RegionHeld3
import Derived.Deep.RegionHeld
import Derived.Deep.RegionWith
import Derived.Deep.RegionLaw
import Derived.Deep.QuietTactic
import Derived.BigQuiet
import Derived.LoopN
import Derived.IntWalk
import Derived.Outline
set_option linter.unusedVariables false
set_option linter.unusedSimpArgs false
namespace Go.Proofs.DU
open Go.RowKit
theorem bcell {W w1 : World} (hb : Below W.heap.size W w1) : (∀ b o, b < W.heap.size → w1.cell? ⟨b, o, none⟩ = W.cell? ⟨b, o, none⟩) ∧ (∀ b o, b < W.heap.size → w1.frozen? ⟨b, o, none⟩ = W.frozen? ⟨b, o, none⟩) :=
  ⟨fun b o h => hb.cell (p := ⟨b, o, none⟩) h, fun b o h => hb.frozen (p := ⟨b, o, none⟩) h⟩
/-- Nothing that was there has turned, but blocks of F. -/
structure Turn (F : Nat → Prop) (W W' : World) : Prop where
  os : W'.os = W.os
  tape : W'.tape = W.tape
  output : W'.output = W.output
  size : W.heap.size ≤ W'.heap.size
  block : ∀ b, b < W.heap.size → ¬ F b → W'.heap[b]? = W.heap[b]?
section
variable {F F' : Nat → Prop} {W W' W'' : World}
theorem Turn.of (h : Below W.heap.size W W') : Turn F W W' := ⟨h.os, h.tape, h.output, h.size, fun b hb _ => h.block b hb⟩
theorem Turn.refl (F : Nat → Prop) (W : World) : Turn F W W := ⟨rfl, rfl, rfl, Nat.le_refl _, fun _ _ _ => rfl⟩
theorem Turn.trans (h : Turn F W W') (k : Turn F' W' W'') (hF : ∀ b, b < W.heap.size → F' b → F b) : Turn F W W'' :=
  ⟨k.os.trans h.os, k.tape.trans h.tape, k.output.trans h.output, Nat.le_trans h.size k.size, fun b hb hn => (k.block b (Nat.lt_of_lt_of_le hb h.size) fun x => hn (hF b hb x)).trans (h.block b hb hn)⟩
theorem Turn.more (h : Turn F W W') (hF : ∀ b, F b → F' b) : Turn F' W W' := ⟨h.os, h.tape, h.output, h.size, fun b hb hn => h.block b hb fun x => hn (hF b x)⟩
theorem Turn.grown {row : Option Nat} (h : W.grownBy W' row) (hr : ∀ g, row = some g → F g) : Turn F W W' := ⟨h.os, h.tape, h.output, h.size, fun b hb hn => h.block b hb fun e => hn (hr b e.symm)⟩
theorem Turn.set (W : World) (p : Addr) (u : Value) (hF : F p.block) : Turn F W (W.setCell p u) := ⟨rfl, rfl, rfl, by rw [World.size_setCell]; exact Nat.le_refl _, fun b hb hn => Below.heap_setCell _ _ _ _ (fun e => hn (e ▸ hF))⟩
theorem Turn.drew (h : Turn F W W') : Turn F W W'.drew := ⟨h.os, h.tape, h.output, h.size, h.block⟩
theorem Turn.below {n : Nat} {W0 : World} (h : Turn F W W') (h0 : Below n W0 W) (hF : ∀ b, F b → n ≤ b) (hn : n ≤ W.heap.size) : Below n W0 W' :=
  ⟨h.os.trans h0.os, h.tape.trans h0.tape, h.output.trans h0.output, Nat.le_trans h0.size h.size, fun b hb => (h.block b (by omega) (fun e => by have := hF b e; omega)).trans (h0.block b hb)⟩
end
theorem cell_of_heap {w : World} {b : Nat} {c : Array Value} {t : TypeId} {fz : Nat × Nat} (h : w.heap[b]? = some (.cells c t fz)) (j : Nat) : w.cell? ⟨b, j, none⟩ = c[j]? := by
  unfold World.cell?
  rw [h]
  rfl
theorem frozen_of_heap {w : World} {b : Nat} {c : Array Value} {t : TypeId} (h : w.heap[b]? = some (.cells c t (0, 0))) (j : Nat) : w.frozen? ⟨b, j, none⟩ = false := by
  unfold World.frozen?
  rw [h]
  simp
/-- What compares two numbers. -/
def cmpI (a b : Int) : Int := if a < b then -1 else if b < a then 1 else 0
theorem c47 (a b : Int) (w : World) : Calls Try.prog 47 #[.int .u64 a, .int .u64 b] w fun e w' => e = .returned (.int .i64 (cmpI a b)) ∧ w = w' := by
  by_cases h1 : a < b
  · go_enter Try.func47, Try.ntmps47
    go_wp2
    go_ret
    exact ⟨by simp [cmpI, h1], rfl⟩
  · by_cases h2 : b < a
    · have h3 : ¬ a < b := h1
      have e : cmpI a b = 1 := by simp [cmpI, h1, h2]
      rw [e]
      go_enter Try.func47, Try.ntmps47
      go_wp2
      go_ret
      exact ⟨rfl, rfl⟩
    · have e : cmpI a b = 0 := by simp [cmpI, h1, h2]
      rw [e]
      go_enter Try.func47, Try.ntmps47
      go_wp2
      go_ret
      exact ⟨rfl, rfl⟩
theorem c46 (g : Nat) (c : Nat) (x y : Int) (w : World) (h0 : w.cell? ⟨g, 0, none⟩ = some (.int .i64 x)) (h1 : w.cell? ⟨g, 1, none⟩ = some (.int .i64 y)) :
    Calls Try.prog 46 #[.slice (some ⟨g, 0, none⟩) 2 c] w fun e w' => e = .returned (.int .i64 (if x = 0 then y else x)) ∧ w = w' := by
  by_cases hx : x = 0
  · rw [if_pos hx]
    by_cases hy : y = 0
    · have d1 : decide (x = 0) = true := by simp [hx]
      have d2 : decide (y = 0) = true := by simp [hy]
      subst hx hy
      go_enter Try.func46, Try.ntmps46
      go_wp2
      refine Go.wp_loop_rounds 3 ?_
      simp only [Go.rounds_succ]
      go_wp2
      simp only [Go.rounds_succ]
      go_wp2
      try simp only [Go.rounds_succ]
      try go_wp2
      go_ret
      exact ⟨rfl, rfl⟩
    · subst hx
      go_enter Try.func46, Try.ntmps46
      go_wp2
      refine Go.wp_loop_rounds 3 ?_
      simp only [Go.rounds_succ]
      go_wp2
      simp only [Go.rounds_succ]
      go_wp2
      try simp only [Go.rounds_succ]
      try go_wp2
      go_ret
      exact ⟨rfl, rfl⟩
  · rw [if_neg hx]
    go_enter Try.func46, Try.ntmps46
    go_wp2
    refine Go.wp_loop_rounds 3 ?_
    simp only [Go.rounds_succ]
    go_wp2
    go_ret
    exact ⟨rfl, rfl⟩
end Go.Proofs.DU
