/- Proved: 'ScriptConfs' answers true for every input, and leaves what it was handed as it was; its tied card. Conditions: the card's own. -/
import Derived.Test.YtojfppkibmmmdaaDoorRows
import Derived.WalkKit
import Derived.ProofKit
import Derived.OpenShut
import Derived.Stop.Joined
import Derived.LaidMore
import Derived.Lay
import Derived.SevenTiedAt
import Derived.Test.YtojfppkibmmmdaaDoorCards
import Derived.Test.YtojfppkibmmmdaaDoorTie
import Derived.Test.YtojfppkibmmmdaaDoorAd
import Derived.Deep.AppendSrc
import Derived.Deep.RegionHeld3
import Derived.Deep.RegionWith
import Derived.IntWalk
import Derived.Laws.BytesString
import Derived.Laws.CopyRow
import Derived.Laws.StructEq
import Derived.Lib.Hide
import Derived.StillTailTactics
import Derived.WalkMore
import Derived.WalkSpells
namespace Go.Proofs.YtojfppkibmmmdaaDoor.scriptConfs
open Go.ChangeShapes Go.WideShapes Go.ChangeAt Go.RowKit
set_option linter.unusedVariables false
set_option linter.unusedSimpArgs false

theorem progOk' : Go.Ai.progOk Tryd.prog = true := by kernel_rfl
theorem outer (a : Array Value) (h : a.toList.length = 1) : ∃ v0, a = #[v0] := by
  obtain ⟨l⟩ := a
  match l, h with
  | [v0], _ => exact ⟨v0, rfl⟩
theorem own : ownKnob Tryd.prog.godebug = none := by kernel_rfl
theorem laidOut' : laidOutB Tryd.prog = true := by kernel_rfl

/-- A row of bytes lies there. -/
def Bts (w : World) (blk off l : Nat) (f : Nat → Int) : Prop := (0 < l → blk < w.heap.size) ∧ ∀ i, i < l → w.cell? ⟨blk, off + i, none⟩ = some (.int .u8 (f i)) ∧ 0 ≤ f i ∧ f i ≤ 255
theorem Bts.mono {w w' : World} {blk off l : Nat} {f : Nat → Int} (h : Bts w blk off l f) (hb : Below w.heap.size w w') : Bts w' blk off l f :=
  ⟨fun hp => Nat.lt_of_lt_of_le (h.1 hp) hb.size, fun i hi => ⟨by rw [hb.cell (p := ⟨blk, off + i, none⟩) (h.1 (by omega))]; exact (h.2 i hi).1, (h.2 i hi).2⟩⟩
theorem bcell {W w1 : World} (hb : Below W.heap.size W w1) : (∀ b o, b < W.heap.size → w1.cell? ⟨b, o, none⟩ = W.cell? ⟨b, o, none⟩) ∧ (∀ b o, b < W.heap.size → w1.frozen? ⟨b, o, none⟩ = W.frozen? ⟨b, o, none⟩) :=
  ⟨fun b o h => hb.cell (p := ⟨b, o, none⟩) h, fun b o h => hb.frozen (p := ⟨b, o, none⟩) h⟩
def atF (l : Nat) (f : Nat → Int) (i : Nat) : Int := if i < l then f i else 0
theorem c21 (blk off l cap : Nat) (f : Nat → Int) (i : Nat) (hi : i < 5) (w : World) (h : Bts w blk off l f) :
    Calls Tryd.prog 21 #[.slice (some ⟨blk, off, none⟩) l cap, .int .i64 i] w fun e w' => e = .returned (.int .i64 (atF l f i)) ∧ w = w' := by
  by_cases hl : i < l
  · obtain ⟨h1, h2, h3⟩ := h.2 i hl
    have hF : atF l f i = f i := if_pos hl
    rw [hF]
    generalize f i = x at h1 h2 h3
    clear hF h
    go_enter Tryd.func21, Tryd.ntmps21
    go_wp2
    go_ret
    simp
  · have hF : atF l f i = 0 := if_neg hl
    rw [hF]
    clear hF h
    go_enter Tryd.func21, Tryd.ntmps21
    go_wp2
    go_ret
    simp

/-- A row of bytes of the call's own. -/
def GivesB (l : Nat) (f : Nat → Int) (w : World) (e : Ending) (w' : World) : Prop := ∃ nb cap, e = .returned (.slice (some ⟨nb, 0, none⟩) l cap) ∧ w.heap.size ≤ nb ∧ Bts w' nb 0 l f ∧ Below w.heap.size w w'
def newsOf (l : Nat) (f : Nat → Int) : Array Value := ((List.range l).map fun i => Value.int .u8 (f i)).toArray
theorem load_bts {P : Program} (w W : World) (blk off l : Nat) (f : Nat → Int) (hW : ∀ i, i < l → W.cell? ⟨blk, off + i, none⟩ = w.cell? ⟨blk, off + i, none⟩) (h : Bts w blk off l f) :
    Sem.run P (loadCellsFrom ⟨blk, off, none⟩ 0 l #[]) W = .ok (newsOf l f) W := by
  have h := run_firstCells_some (P := P) W 1 l ⟨blk, off, none⟩ l l ((List.range l).map fun i => Value.int .u8 (f i)) (by simp) (fun j u hu => by
    rw [List.getElem?_map] at hu
    by_cases hj : j < l
    · rw [List.getElem?_range hj] at hu
      simp only [Option.map_some, Option.some.injEq] at hu
      rw [Addr.add_lit, hW j hj, ← hu, (h.2 j hj).1]
    · rw [List.getElem?_eq_none (by simpa using hj)] at hu; cases hu)
  simpa [Builtin.firstCells, loadCells, newsOf] using h
theorem cell_new (w : World) (c : Array Value) (t i : Nat) : (w.alloc (.cells c t)).drew.cell? ⟨w.heap.size, i, none⟩ = c[i]? := by
  have h : (w.alloc (.cells c t)).drew.heap[w.heap.size]? = some (.cells c t) := heap_alloc_new w _
  unfold World.cell?
  rw [h]
  simp
theorem next_small (l : Nat) (h : l ≤ 5000) : Builtin.nextslicecap l 0 ≤ 281474976710656 := by
  unfold Builtin.nextslicecap
  split <;> first | omega | (split <;> omega)
theorem bytes5 : Tryd.t5.bytes = 1 := by kernel_rfl
theorem news_at (l : Nat) (f : Nat → Int) (z : Array Value) (i : Nat) (h : i < l) : (newsOf l f ++ z)[i]? = some (.int .u8 (f i)) := by
  have hs : i < (newsOf l f).size := by simp [newsOf, h]
  rw [Array.getElem?_append_left hs]
  simp [newsOf, h]
theorem cell_own (w : World) (a b c : Obj) (z : Array Value) (l : Nat) (g : Nat → Int) (i : Nat) (hi : i < l) :
    (((((w.alloc a).alloc b).alloc c).alloc (.cells (newsOf l g ++ z) 5)).drew.drew).cell? ⟨w.heap.size + 1 + 1 + 1, 0 + i, none⟩ = some (.int .u8 (g i)) := by
  have e := cell_new (((w.alloc a).alloc b).alloc c) (newsOf l g ++ z) 5 i
  rw [show (((w.alloc a).alloc b).alloc c).heap.size = w.heap.size + 1 + 1 + 1 by simp] at e
  rw [Nat.zero_add]
  exact e.trans (news_at l g z i hi)
theorem Bts.zero {w : World} {b : Nat} (o : Nat) (f : Nat → Int) : Bts w b o 0 f := ⟨fun h => absurd h (by omega), fun i hi => by omega⟩
theorem eq22 (w : World) (a : Option Addr) (n c n' c' : Nat) : (binOp .eql 22 (.slice a n c) (.slice none n' c')).run Tryd.prog w = .ok (.bool a.isNone) w := Lib.run_eql_slice_nil w _ _ a n c n' c' Tryd.underlying22
set_option maxRecDepth 100000 in
set_option maxHeartbeats 1000000 in
theorem c20 (blk off l cap : Nat) (f : Nat → Int) (w : World) (h2 : l ≤ 5000) (h : Bts w blk off l f) : Calls Tryd.prog 20 #[.slice (some ⟨blk, off, none⟩) l cap] w (GivesB l f w) := by
  rcases Nat.eq_zero_or_pos l with rfl | hpos
  · clear h
    have heq := eq22
    go_enter Tryd.func20, Tryd.ntmps20
    go_wp2
    go_ret
    exact ⟨w.heap.size, _, rfl, Nat.le_refl _, Bts.zero _ _, (Below.refl _ w).alloc (Nat.le_refl _) _⟩
  · have hld := load_bts (P := Tryd.prog) w (w.alloc (.cells #[] 5)).drew blk off l f (fun i hi => by
      show (w.alloc _).cell? _ = _
      rw [Below.cell ((Below.refl w.heap.size w).alloc (Nat.le_refl _) _) (p := ⟨blk, off + i, none⟩) (h.1 (by omega))]) h
    have hns : ¬ (281474976710656 < Builtin.nextslicecap l 0 * Tryd.t5.bytes) := by
      have := next_small l h2
      rw [bytes5]; omega
    have hf := fun i hi => (h.2 i hi).2
    have HF := Lib.hid hf
    clear h hf
    have hn : newsOf l f = newsOf l f := rfl
    generalize hN : newsOf l f = news at hld
    have HN := Lib.hid hN
    clear hn hN
    have heq := eq22
    go_enter Tryd.func20, Tryd.ntmps20
    go_wp2
    go_ret
    refine ⟨w.heap.size + 1, _, rfl, by omega, ⟨fun _ => by simp, fun i hi => ⟨?_, HF.out i hi⟩⟩, (((Below.refl _ w).alloc (Nat.le_refl _) _).alloc (by simp) _).drew⟩
    have hN := HN.out
    subst hN
    rw [Nat.zero_add]
    have e := cell_new (w.alloc (.cells #[] 5)) (newsOf l f ++ Builtin.zeroCells #[.int .u8 0] ((Question.appendCap l 0 5).cut (w.tape w.drawn (Question.appendCap l 0 5)) - l)) 5 i
    rw [show (w.alloc (.cells #[] 5)).heap.size = w.heap.size + 1 by simp] at e
    rw [e]
    exact news_at l f _ i hi

set_option maxRecDepth 100000 in
set_option maxHeartbeats 2000000 in
theorem c35 (b m t : Int) (w : World) (h1 : 0 < b) (h2 : b ≤ 65536) (h3 : b ≤ m) (h4 : m ≤ 1048576) (h5 : 0 < t) (h6 : t ≤ 64) :
    Calls Tryd.prog 35 #[.agg #[.int .u32 b, .int .u32 m, .int .u32 t]] w fun e w' => e = .returned (.bool true) ∧ Below w.heap.size w w' := by
  go_enter Tryd.func35, Tryd.ntmps35
  go_wp2
  go_ret
  exact ⟨rfl, (Below.refl _ w).alloc (Nat.le_refl _) _⟩
abbrev confA (s d b m t n : Int) : Value := .agg #[.int .i64 s, .int .i64 d, .int .u32 b, .int .u32 m, .int .u32 t, .int .i64 n]
set_option maxRecDepth 100000 in
set_option maxHeartbeats 2000000 in
theorem c18 (s d b m t n : Int) (w : World) (g1 : 1 ≤ s) (g2 : s ≤ 1048576) (g3 : 1 ≤ d) (g4 : d ≤ 64) (h1 : 0 < b) (h2 : b ≤ 65536) (h3 : b ≤ m) (h4 : m ≤ 1048576) (h5 : 0 < t) (h6 : t ≤ 64) (g5 : 1 ≤ n) (g6 : n ≤ 64) :
    Calls Tryd.prog 18 #[confA s d b m t n] w fun e w' => e = .returned (.bool true) ∧ Below w.heap.size w w' := by
  go_enter Tryd.func18, Tryd.ntmps18
  go_wp2_with (go_at_call 35; refine (c35 b m t _ h1 h2 h3 h4 h5 h6).mono ?_; rintro e w1 ⟨rfl, k1⟩; obtain ⟨hc1, hf1⟩ := bcell k1; have hz1 : w.heap.size < w1.heap.size := (by have := k1.size; simp at this; omega); have hB1 : Below w.heap.size w w1 := ((Below.refl _ w).alloc (Nat.le_refl _) _).trans (k1.mono (by simp)))
  go_ret
  exact ⟨rfl, hB1⟩

theorem Bts.alloc {w : World} {blk off l : Nat} {f : Nat → Int} (h : Bts w blk off l f) (o : Obj) : Bts (w.alloc o) blk off l f := h.mono ((Below.refl _ w).alloc (Nat.le_refl _) _)
theorem Bts.drew {w : World} {blk off l : Nat} {f : Nat → Int} (h : Bts w blk off l f) : Bts w.drew blk off l f := h.mono (Below.refl _ w).drew
def refB (l : Nat) (f : Nat → Int) (g : Nat → Int) (w : World) (v : Value) (e : Ending) (w' : World) : Prop :=
  ∃ nb cap, e = .returned (.tuple #[v, .slice (some ⟨nb, 0, none⟩) l cap]) ∧ w.heap.size ≤ nb ∧ Bts w' nb 0 l g ∧ Below w.heap.size w w'
set_option maxRecDepth 100000 in
set_option maxHeartbeats 4000000 in
theorem c17a (blk off l cap : Nat) (f : Nat → Int) (w : World) (x0 x1 x2 x3 x4 : Int) (h2 : l ≤ 5) (h : Bts w blk off l f) (e0 : atF l f 0 = x0) (e1 : atF l f 1 = x1) (e2 : atF l f 2 = x2) (e3 : atF l f 3 = x3) (e4 : atF l f 4 = x4)
    (b0 : 0 ≤ x0) (d0 : x0 ≤ 255) (b1 : 0 ≤ x1) (d1 : x1 ≤ 255) (b2 : 0 ≤ x2) (d2 : x2 ≤ 255) (b3 : 0 ≤ x3) (d3 : x3 ≤ 255) (b4 : 0 ≤ x4) (d4 : x4 ≤ 255) :
    Calls Tryd.prog 17 #[.slice (some ⟨blk, off, none⟩) l cap] w (refB 0 f f w (confA (20 + x0 % 20 * 10) (x1 % 4 + 1) (x2 % 3 + 1) (x2 % 3 + 1 + x3 % 7) (x3 / 7 % 4 + 1) (x4 % 3 + 1))) := by
  have k0 : ∀ W, Bts W blk off l f → Calls Tryd.prog 21 #[.slice (some ⟨blk, off, none⟩) l cap, .int .i64 0] W fun e w' => e = .returned (.int .i64 x0) ∧ W = w' := fun W hW => by rw [← e0]; exact c21 blk off l cap f 0 (by omega) W hW
  have k1 : ∀ W, Bts W blk off l f → Calls Tryd.prog 21 #[.slice (some ⟨blk, off, none⟩) l cap, .int .i64 1] W fun e w' => e = .returned (.int .i64 x1) ∧ W = w' := fun W hW => by rw [← e1]; exact c21 blk off l cap f 1 (by omega) W hW
  have k2 : ∀ W, Bts W blk off l f → Calls Tryd.prog 21 #[.slice (some ⟨blk, off, none⟩) l cap, .int .i64 2] W fun e w' => e = .returned (.int .i64 x2) ∧ W = w' := fun W hW => by rw [← e2]; exact c21 blk off l cap f 2 (by omega) W hW
  have k3 : ∀ W, Bts W blk off l f → Calls Tryd.prog 21 #[.slice (some ⟨blk, off, none⟩) l cap, .int .i64 3] W fun e w' => e = .returned (.int .i64 x3) ∧ W = w' := fun W hW => by rw [← e3]; exact c21 blk off l cap f 3 (by omega) W hW
  have k4 : ∀ W, Bts W blk off l f → Calls Tryd.prog 21 #[.slice (some ⟨blk, off, none⟩) l cap, .int .i64 4] W fun e w' => e = .returned (.int .i64 x4) ∧ W = w' := fun W hW => by rw [← e4]; exact c21 blk off l cap f 4 (by omega) W hW
  clear e0 e1 e2 e3 e4
  have H := Lib.hid h
  clear h
  have K0 := Lib.hid k0; have K1 := Lib.hid k1; have K2 := Lib.hid k2; have K3 := Lib.hid k3; have K4 := Lib.hid k4
  clear k0 k1 k2 k3 k4
  go_enter Tryd.func17, Tryd.ntmps17
  go_wp2_with (first
    | (go_at_call 21; ((with_reducible refine (K0.out _ (by repeat (first | exact H.out | refine Bts.alloc ?_ _ | refine Bts.drew ?_))).mono ?_); rintro e w' ⟨rfl, rfl⟩))
    | (go_at_call 21; ((with_reducible refine (K1.out _ (by repeat (first | exact H.out | refine Bts.alloc ?_ _ | refine Bts.drew ?_))).mono ?_); rintro e w' ⟨rfl, rfl⟩))
    | (go_at_call 21; ((with_reducible refine (K2.out _ (by repeat (first | exact H.out | refine Bts.alloc ?_ _ | refine Bts.drew ?_))).mono ?_); rintro e w' ⟨rfl, rfl⟩))
    | (go_at_call 21; ((with_reducible refine (K3.out _ (by repeat (first | exact H.out | refine Bts.alloc ?_ _ | refine Bts.drew ?_))).mono ?_); rintro e w' ⟨rfl, rfl⟩))
    | (go_at_call 21; ((with_reducible refine (K4.out _ (by repeat (first | exact H.out | refine Bts.alloc ?_ _ | refine Bts.drew ?_))).mono ?_); rintro e w' ⟨rfl, rfl⟩)))
  go_region_with (go_at_call 21; ((with_reducible refine (K3.out _ (by repeat (first | exact H.out | refine Bts.alloc ?_ _ | refine Bts.drew ?_))).mono ?_); rintro e w' ⟨rfl, rfl⟩))
  all_goals go_wp2_with (go_at_call 21; ((with_reducible refine (K3.out _ (by repeat (first | exact H.out | refine Bts.alloc ?_ _ | refine Bts.drew ?_))).mono ?_); rintro e w' ⟨rfl, rfl⟩))
  all_goals exact bodyPost_ret (v := .tuple #[confA (20 + x0 % 20 * 10) (x1 % 4 + 1) (x2 % 3 + 1) (x2 % 3 + 1 + x3 % 7) (x3 / 7 % 4 + 1) (x4 % 3 + 1), .slice (some ⟨w.heap.size + 1 + 1, 0, none⟩) 0 0]) (by simp [results, Tryd.results17, go_sem]) rfl ⟨_, _, rfl, by omega, Bts.zero _ _, ((((Below.refl _ w).alloc (Nat.le_refl _) _).alloc (by simp) _).alloc (by simp; omega) _).drew⟩
set_option maxRecDepth 100000 in
set_option maxHeartbeats 4000000 in
theorem c17b (blk off l cap : Nat) (f : Nat → Int) (w : World) (x0 x1 x2 x3 x4 : Int) (h2 : 5 < l) (h3 : l ≤ 3000) (hc : l ≤ cap) (h : Bts w blk off l f) (e0 : atF l f 0 = x0) (e1 : atF l f 1 = x1) (e2 : atF l f 2 = x2) (e3 : atF l f 3 = x3) (e4 : atF l f 4 = x4)
    (b0 : 0 ≤ x0) (d0 : x0 ≤ 255) (b1 : 0 ≤ x1) (d1 : x1 ≤ 255) (b2 : 0 ≤ x2) (d2 : x2 ≤ 255) (b3 : 0 ≤ x3) (d3 : x3 ≤ 255) (b4 : 0 ≤ x4) (d4 : x4 ≤ 255) :
    Calls Tryd.prog 17 #[.slice (some ⟨blk, off, none⟩) l cap] w (refB (l - 5) f (fun i => f (5 + i)) w (confA (20 + x0 % 20 * 10) (x1 % 4 + 1) (x2 % 3 + 1) (x2 % 3 + 1 + x3 % 7) (x3 / 7 % 4 + 1) (x4 % 3 + 1))) := by
  have h5 : Bts w blk (off + 5) (l - 5) (fun i => f (5 + i)) := ⟨fun hp => h.1 (by omega), fun i hi => by have := h.2 (5 + i) (by omega); rw [← Nat.add_assoc] at this; exact this⟩
  have hld : ∀ a b c, Sem.run Tryd.prog (loadCellsFrom ⟨blk, off + 5, none⟩ 0 (l - 5) #[]) ((((w.alloc a).alloc b).alloc c).drew.drew) = .ok (newsOf (l - 5) (fun i => f (5 + i))) ((((w.alloc a).alloc b).alloc c).drew.drew) := fun a b c =>
    load_bts (P := Tryd.prog) w _ blk (off + 5) (l - 5) _ (fun i hi => by
      show (((w.alloc a).alloc b).alloc c).cell? _ = _
      rw [Below.cell ((((Below.refl w.heap.size w).alloc (Nat.le_refl _) _).alloc (by simp) _).alloc (by simp; omega) _) (p := ⟨blk, off + 5 + i, none⟩) (h.1 (by omega))]) h5
  have hns : ¬ (281474976710656 < Builtin.nextslicecap (l - 5) 0 * Tryd.t5.bytes) := by
    have := next_small (l - 5) (by omega)
    rw [bytes5]; omega
  have HF := Lib.hid h5
  generalize hN : newsOf (l - 5) (fun i => f (5 + i)) = news at hld
  have HN := Lib.hid hN
  clear hN h5
  have k0 : ∀ W, Bts W blk off l f → Calls Tryd.prog 21 #[.slice (some ⟨blk, off, none⟩) l cap, .int .i64 0] W fun e w' => e = .returned (.int .i64 x0) ∧ W = w' := fun W hW => by rw [← e0]; exact c21 blk off l cap f 0 (by omega) W hW
  have k1 : ∀ W, Bts W blk off l f → Calls Tryd.prog 21 #[.slice (some ⟨blk, off, none⟩) l cap, .int .i64 1] W fun e w' => e = .returned (.int .i64 x1) ∧ W = w' := fun W hW => by rw [← e1]; exact c21 blk off l cap f 1 (by omega) W hW
  have k2 : ∀ W, Bts W blk off l f → Calls Tryd.prog 21 #[.slice (some ⟨blk, off, none⟩) l cap, .int .i64 2] W fun e w' => e = .returned (.int .i64 x2) ∧ W = w' := fun W hW => by rw [← e2]; exact c21 blk off l cap f 2 (by omega) W hW
  have k3 : ∀ W, Bts W blk off l f → Calls Tryd.prog 21 #[.slice (some ⟨blk, off, none⟩) l cap, .int .i64 3] W fun e w' => e = .returned (.int .i64 x3) ∧ W = w' := fun W hW => by rw [← e3]; exact c21 blk off l cap f 3 (by omega) W hW
  have k4 : ∀ W, Bts W blk off l f → Calls Tryd.prog 21 #[.slice (some ⟨blk, off, none⟩) l cap, .int .i64 4] W fun e w' => e = .returned (.int .i64 x4) ∧ W = w' := fun W hW => by rw [← e4]; exact c21 blk off l cap f 4 (by omega) W hW
  clear e0 e1 e2 e3 e4
  have H := Lib.hid h
  clear h
  have K0 := Lib.hid k0; have K1 := Lib.hid k1; have K2 := Lib.hid k2; have K3 := Lib.hid k3; have K4 := Lib.hid k4
  clear k0 k1 k2 k3 k4
  go_enter Tryd.func17, Tryd.ntmps17
  go_wp2_with (first
    | (go_at_call 21; ((with_reducible refine (K0.out _ (by repeat (first | exact H.out | refine Bts.alloc ?_ _ | refine Bts.drew ?_))).mono ?_); rintro e w' ⟨rfl, rfl⟩))
    | (go_at_call 21; ((with_reducible refine (K1.out _ (by repeat (first | exact H.out | refine Bts.alloc ?_ _ | refine Bts.drew ?_))).mono ?_); rintro e w' ⟨rfl, rfl⟩))
    | (go_at_call 21; ((with_reducible refine (K2.out _ (by repeat (first | exact H.out | refine Bts.alloc ?_ _ | refine Bts.drew ?_))).mono ?_); rintro e w' ⟨rfl, rfl⟩))
    | (go_at_call 21; ((with_reducible refine (K3.out _ (by repeat (first | exact H.out | refine Bts.alloc ?_ _ | refine Bts.drew ?_))).mono ?_); rintro e w' ⟨rfl, rfl⟩))
    | (go_at_call 21; ((with_reducible refine (K4.out _ (by repeat (first | exact H.out | refine Bts.alloc ?_ _ | refine Bts.drew ?_))).mono ?_); rintro e w' ⟨rfl, rfl⟩)))
  go_region_with (go_at_call 21; ((with_reducible refine (K3.out _ (by repeat (first | exact H.out | refine Bts.alloc ?_ _ | refine Bts.drew ?_))).mono ?_); rintro e w' ⟨rfl, rfl⟩))
  all_goals go_wp2_with (go_at_call 21; ((with_reducible refine (K3.out _ (by repeat (first | exact H.out | refine Bts.alloc ?_ _ | refine Bts.drew ?_))).mono ?_); rintro e w' ⟨rfl, rfl⟩))
  all_goals have hN := HN.out
  all_goals subst hN
  all_goals refine bodyPost_ret (v := .tuple #[confA (20 + x0 % 20 * 10) (x1 % 4 + 1) (x2 % 3 + 1) (x2 % 3 + 1 + x3 % 7) (x3 / 7 % 4 + 1) (x4 % 3 + 1), .slice (some ⟨w.heap.size + 1 + 1 + 1, 0, none⟩) (l - 5) ((Question.appendCap (l - 5) 0 5).cut (w.tape (w.drawn + 1) (Question.appendCap (l - 5) 0 5)))]) (by simp [results, Tryd.results17, go_sem]) rfl ⟨_, _, rfl, by omega, ⟨fun _ => by simp, fun i hi => ⟨?_, (HF.out.2 i hi).2⟩⟩, (((((Below.refl _ w).alloc (Nat.le_refl _) _).alloc (by simp) _).alloc (by simp; omega) _).alloc (by simp; omega) _).drew.drew⟩
  all_goals exact cell_own w _ _ _ _ _ (fun i => f (5 + i)) i hi

theorem setRow_alloc (w : World) (c d : Array Value) (t : TypeId) : (w.alloc (.cells c t)).setRow w.heap.size d = w.alloc (.cells d t) := by
  unfold World.setRow World.alloc
  congr 1
  apply Array.ext
  · simp
  · intro i h1 h2
    simp only [Array.getElem_modify, Array.getElem_push]
    by_cases hi : i < w.heap.size
    · simp [hi]; omega
    · have : i = w.heap.size := by simp at h2; omega
      subst this; simp
theorem arr5 (l : Nat) (f : Nat → Int) : (([.int .u8 0, .int .u8 0, .int .u8 0, .int .u8 0, .int .u8 0] : List Value).take 0 ++ ((List.range (Nat.min l 5)).map fun i => Value.int .u8 (f i)) ++ ([.int .u8 0, .int .u8 0, .int .u8 0, .int .u8 0, .int .u8 0] : List Value).drop (0 + ((List.range (Nat.min l 5)).map fun i => Value.int .u8 (f i)).length)).toArray
    = #[.int .u8 (atF l f 0), .int .u8 (atF l f 1), .int .u8 (atF l f 2), .int .u8 (atF l f 3), .int .u8 (atF l f 4)] := by
  have key : l = 0 ∨ l = 1 ∨ l = 2 ∨ l = 3 ∨ l = 4 ∨ 5 ≤ l := by omega
  rcases key with rfl | rfl | rfl | rfl | rfl | h
  · rfl
  · rfl
  · rfl
  · rfl
  · rfl
  · have e : Nat.min l 5 = 5 := Nat.min_eq_right h
    rw [e]
    simp only [atF, show 0 < l by omega, show 1 < l by omega, show 2 < l by omega, show 3 < l by omega, show 4 < l by omega, if_true]
    rfl
theorem copy5 (blk off l cap : Nat) (f : Nat → Int) (w : World) (h : Bts w blk off l f) (A : Obj) :
    (Builtin.copy_ #[22, 22] 3 #[.slice (some ⟨w.heap.size + 1, 0, none⟩) 5 5, .slice (some ⟨blk, off, none⟩) l cap]).run Tryd.prog ((w.alloc A).alloc (.cells #[.int .u8 0, .int .u8 0, .int .u8 0, .int .u8 0, .int .u8 0] 82)) =
      .ok (.int .i64 ((Nat.min l 5 : Nat) : Int)) ((w.alloc A).alloc (.cells #[.int .u8 (atF l f 0), .int .u8 (atF l f 1), .int .u8 (atF l f 2), .int .u8 (atF l f 3), .int .u8 (atF l f 4)] 82)) := by
  have hs : (w.alloc A).heap.size = w.heap.size + 1 := by simp
  have := run_copy_row (P := Tryd.prog) ((w.alloc A).alloc (.cells #[.int .u8 0, .int .u8 0, .int .u8 0, .int .u8 0, .int .u8 0] 82)) 22 22 3 5 (w.heap.size + 1) 0 5 5 ⟨blk, off, none⟩ l cap #[.int .u8 0, .int .u8 0, .int .u8 0, .int .u8 0, .int .u8 0] 82
    ((List.range (Nat.min l 5)).map fun i => Value.int .u8 (f i)) Tryd.underlying22 (by kernel_rfl) (by rw [← hs]; exact heap_alloc_new _ _) (by simp) (fun j v hv => by
      rw [List.getElem?_map] at hv
      by_cases hj : j < Nat.min l 5
      · have hjl : j < l := Nat.lt_of_lt_of_le hj (Nat.min_le_left _ _)
        rw [List.getElem?_range hj] at hv
        simp only [Option.map_some, Option.some.injEq] at hv
        rw [Addr.add_lit, Below.cell (((Below.refl w.heap.size w).alloc (Nat.le_refl _) _).alloc (by simp) _) (p := ⟨blk, off + j, none⟩) (h.1 (by omega)), (h.2 j hjl).1, hv]
      · rw [List.getElem?_eq_none (by simp only [List.length_range]; omega)] at hv; cases hv) (by
        have := Nat.min_le_right l 5
        simp only [List.length_map, List.length_range]; show 0 + Nat.min l 5 ≤ 5; rw [Nat.zero_add]; exact Nat.min_le_right l 5) (fun v hv => by
        obtain ⟨i, _, rfl⟩ := List.mem_map.1 hv; rfl)
  rw [this, arr5, ← hs, setRow_alloc]
  simp [goInt]
theorem Bts.setCell {w : World} {blk off l : Nat} {f : Nat → Int} (h : Bts w blk off l f) {p : Addr} (v : Value) (hne : blk ≠ p.block) : Bts (w.setCell p v) blk off l f :=
  ⟨fun hp => by simp [World.setCell]; exact h.1 hp, fun i hi => ⟨by
    rw [World.cell?_setCell_other (h := fun (e : p = ⟨blk, off + i, none⟩) => hne (by rw [e]))]; exact (h.2 i hi).1, (h.2 i hi).2⟩⟩
theorem slice5 (blk off l cap n : Nat) (h1 : n ≤ l) (w : World) : (Instr.sliceAt 22 (.slice (some ⟨blk, off, none⟩) l cap) (some (.int .i64 (n : Int))) none none).run Tryd.prog w =
    .ok (.slice (some ⟨blk, if cap = n then off else off + n, none⟩) (l - n) (cap - n)) w := by
  have hu := run_underlying (w := w) Tryd.underlying22
  have hs := Tryd.sizeOf5
  have hn : ¬ ((n : Int) < 0 ∨ (l : Int) < (n : Int)) := by omega
  have hn2 : ¬ ((l : Int) < (n : Int)) := by omega
  by_cases hc : cap = n <;> simp [Instr.sliceAt, Instr.slice, hu, Instr.sliceBounds, Instr.sliceBound, hs, hn, hn2, h1, hc, Addr.add_lit, go_sem]
theorem n1 (x : Int) (a : 0 ≤ x) (b : x ≤ 255) : IntKind.i64.wrap (20 + IntKind.i64.wrap (10 * IntKind.i64.wrap (x.tmod 20))) = 20 + x % 20 * 10 := by
  rw [IntWalk.rem_in _ _ a, IntWalk.i64_in (x % 20) (by omega), IntWalk.i64_in (10 * (x % 20)) (by omega), IntWalk.i64_in _ (by omega)]; omega
theorem n2 (x m : Int) (hm : 0 < m) (hm2 : m ≤ 255) (a : 0 ≤ x) (b : x ≤ 255) : IntKind.i64.wrap (1 + IntKind.i64.wrap (x.tmod m)) = x % m + 1 := by
  have h1 := Int.emod_nonneg x (show m ≠ 0 by omega)
  have h2 := Int.emod_lt_of_pos x hm
  rw [IntWalk.rem_in _ _ a, IntWalk.i64_in (x % m) (by omega), IntWalk.i64_in _ (by omega)]; omega
theorem n4 (x y : Int) (a : 0 ≤ x) (b : x ≤ 255) (c : 0 ≤ y) (d : y ≤ 255) : IntKind.u32.wrap (x % 3 + 1 + IntKind.u32.wrap (y.tmod 7)) = x % 3 + 1 + y % 7 := by
  rw [IntWalk.rem_in _ _ c, IntWalk.u32_in (y % 7) (by omega), IntWalk.u32_in _ (by omega)]
theorem n5 (x : Int) (a : 0 ≤ x) (b : x ≤ 255) : IntKind.u32.wrap (1 + IntKind.u32.wrap ((IntKind.u8.wrap (x.tdiv 7)).tmod 4)) = x / 7 % 4 + 1 := by
  rw [IntWalk.u8_quo x 7 (by omega), IntWalk.rem_in _ _ (by omega), IntWalk.u32_in (x / 7 % 4) (by omega), IntWalk.u32_in _ (by omega)]; omega
theorem n3 (x : Int) : 1 + x % 3 = x % 3 + 1 := by omega
set_option maxRecDepth 100000 in
set_option maxHeartbeats 8000000 in
theorem c16 (blk off l cap : Nat) (f : Nat → Int) (w : World) (x0 x1 x2 x3 x4 : Int) (n : Nat) (hn : Nat.min l 5 = n) (h3 : l ≤ 3000) (hlc : l ≤ cap) (h : Bts w blk off l f) (e0 : atF l f 0 = x0) (e1 : atF l f 1 = x1) (e2 : atF l f 2 = x2) (e3 : atF l f 3 = x3) (e4 : atF l f 4 = x4)
    (b0 : 0 ≤ x0) (d0 : x0 ≤ 255) (b1 : 0 ≤ x1) (d1 : x1 ≤ 255) (b2 : 0 ≤ x2) (d2 : x2 ≤ 255) (b3 : 0 ≤ x3) (d3 : x3 ≤ 255) (b4 : 0 ≤ x4) (d4 : x4 ≤ 255) :
    Calls Tryd.prog 16 #[.slice (some ⟨blk, off, none⟩) l cap] w (refB (l - n) f (fun i => f (n + i)) w (confA (20 + x0 % 20 * 10) (x1 % 4 + 1) (x2 % 3 + 1) (x2 % 3 + 1 + x3 % 7) (x3 / 7 % 4 + 1) (x4 % 3 + 1))) := by
  have hcp := copy5 blk off l cap f w h
  rw [e0, e1, e2, e3, e4, hn] at hcp
  have hnl : n ≤ l := by rw [← hn]; exact Nat.min_le_left l 5
  have hsl := slice5 blk off l cap n hnl
  generalize hoo : (if cap = n then off else off + n) = oo at hsl
  clear e0 e1 e2 e3 e4
  have hB : Bts w blk oo (l - n) (fun i => f (n + i)) := ⟨fun hp => h.1 (by omega), fun i hi => by
    by_cases hcn : cap = n
    · exfalso
      have := Nat.min_le_right l 5
      omega
    · rw [if_neg hcn] at hoo
      subst hoo
      have := h.2 (n + i) (by omega)
      rw [← Nat.add_assoc] at this; exact this⟩
  have HB := Lib.hid hB
  clear h hn hB
  have HO := Lib.hid hoo
  clear hoo
  go_enter Tryd.func16, Tryd.ntmps16
  go_wp2
  go_region_held3 (fun w' => w'.cell? ⟨w.heap.size + 1, 0, none⟩ = some (.int .u8 x0) ∧ w'.cell? ⟨w.heap.size + 1, 1, none⟩ = some (.int .u8 x1) ∧ w'.cell? ⟨w.heap.size + 1, 2, none⟩ = some (.int .u8 x2) ∧ w'.cell? ⟨w.heap.size + 1, 3, none⟩ = some (.int .u8 x3) ∧ w'.cell? ⟨w.heap.size + 1, 4, none⟩ = some (.int .u8 x4))
    (go_keep)
    (first | (go_at_call 20; refine (c20 blk oo (l - n) (cap - n) (fun i => f (n + i)) _ (by omega) ?_).mono ?_; (exact Bts.drew (Bts.alloc (Bts.alloc HB.out _) _)); rintro e w2 ⟨nb, cap2, rfl, hnb, hbt, hbl⟩; obtain ⟨hc2, hf2⟩ := bcell hbl; have hz2 : w.heap.size + 1 < w2.heap.size := (by have := hbl.size; simp at this; omega); have HT := Lib.hid hbt; clear hbt))
  rename_i hS
  clear hS
  simp only [n1 x0 b0 d0, n2 x1 4 (by omega) (by omega) b1 d1, n4 x2 x3 b2 d2 b3 d3, n5 x3 b3 d3, n2 x4 3 (by omega) (by omega) b4 d4, n3 x2]
  go_wp2
  have hwz : w.heap.size + 1 + 1 ≤ nb := by simpa using hnb
  have hBw : Below w.heap.size w w2 := ((((Below.refl _ w).alloc (Nat.le_refl _) _).alloc (by simp) _).drew).trans (hbl.mono (by simp; omega))
  have g0 : (w2.cell? ⟨w.heap.size, 0, none⟩).isSome = true := by rw [hc2 _ _ (by simp; omega)]; simp
  have g1 : (w2.cell? ⟨w.heap.size, 1, none⟩).isSome = true := by rw [hc2 _ _ (by simp; omega)]; simp
  have g2 : (w2.cell? ⟨w.heap.size, 2, none⟩).isSome = true := by rw [hc2 _ _ (by simp; omega)]; simp
  have g3 : (w2.cell? ⟨w.heap.size, 3, none⟩).isSome = true := by rw [hc2 _ _ (by simp; omega)]; simp
  have g4 : (w2.cell? ⟨w.heap.size, 4, none⟩).isSome = true := by rw [hc2 _ _ (by simp; omega)]; simp
  have g5 : (w2.cell? ⟨w.heap.size, 5, none⟩).isSome = true := by rw [hc2 _ _ (by simp; omega)]; simp
  clear hc2 hf2 hcp hsl
  refine bodyPost_ret (v := .tuple #[confA (20 + x0 % 20 * 10) (x1 % 4 + 1) (x2 % 3 + 1) (x2 % 3 + 1 + x3 % 7) (x3 / 7 % 4 + 1) (x4 % 3 + 1), .slice (some ⟨nb, 0, none⟩) (l - n) cap2]) (by simp [results, Tryd.results16, go_sem, g0, g1, g2, g3, g4, g5]) rfl ⟨nb, cap2, rfl, by omega, ?_, ?_⟩
  · have hne : nb ≠ w.heap.size := by omega
    exact ((((((HT.out.setCell _ hne).setCell _ hne).setCell _ hne).setCell _ hne).setCell _ hne).setCell _ hne)
  · exact (((((hBw.setCell (Nat.le_refl _) _).setCell (Nat.le_refl _) _).setCell (Nat.le_refl _) _).setCell (Nat.le_refl _) _).setCell (Nat.le_refl _) _).setCell (Nat.le_refl _) _
theorem at_ge {w : World} {blk off l : Nat} {f : Nat → Int} (h : Bts w blk off l f) (i : Nat) : 0 ≤ atF l f i := by
  unfold atF; split
  · exact (h.2 i ‹_›).2.1
  · omega
theorem at_le {w : World} {blk off l : Nat} {f : Nat → Int} (h : Bts w blk off l f) (i : Nat) : atF l f i ≤ 255 := by
  unfold atF; split
  · exact (h.2 i ‹_›).2.2
  · omega
def strF (l : Nat) (f : Nat → Int) : ByteArray := ((List.range l).map f).foldl (fun r n => r.push (UInt8.ofNat n.toNat)) ByteArray.empty
theorem conv_bts (w : World) (blk off l cap : Nat) (f : Nat → Int) (h : Bts w blk off l f) : (convert 22 9 (.slice (some ⟨blk, off, none⟩) l cap)).run Tryd.prog w = .ok (.string (strF l f)) w := by
  rw [run_convert_bytes_string w 22 9 5 (some ⟨blk, off, none⟩) l cap Tryd.underlying22 Tryd.underlying5 Tryd.underlying9]
  refine run_bytesToString w _ l cap ((List.range l).map f) ?_
  have := load_bts (P := Tryd.prog) w w blk off l f (fun _ _ => rfl) h
  have e : newsOf l f = (((List.range l).map f).map (Value.int .u8)).toArray := by simp [newsOf, List.map_map, Function.comp_def]
  rw [← e]
  simpa [loadCells] using this
theorem held50 : Tryd.prog.stoodInHeld 50 = false := by kernel_rfl
theorem held48 : Tryd.prog.stoodInHeld 48 = false := by kernel_rfl
theorem und50 : Tryd.prog.underlying 50 = some (.struct (Tryd.prog.fieldsOf 50)) := by kernel_rfl
theorem und48 : Tryd.prog.underlying 48 = some (.struct (Tryd.prog.fieldsOf 48)) := by kernel_rfl
theorem guard50 : Tryd.prog.eqGuardType Tryd.prog.depth 50 = false := by kernel_rfl
set_option maxRecDepth 100000 in
set_option maxHeartbeats 1000000 in
theorem eq50 (s d b m t n : Int) (w : World) : (binOp .eql 50 (confA s d b m t n) (confA s d b m t n)).run Tryd.prog w = .ok (.bool true) w := by
  rw [run_eql_struct, run_equalIn_agg _ _ _ _ _ und50 held50]
  simp [go_sem, Tryd.underlying50, Tryd.underlying48, Tryd.underlying3, Tryd.underlying26, held48, und48]
theorem c17 (blk off l cap : Nat) (f : Nat → Int) (w : World) (x0 x1 x2 x3 x4 : Int) (n : Nat) (hn : Nat.min l 5 = n) (h3 : l ≤ 3000) (hlc : l ≤ cap) (h : Bts w blk off l f) (e0 : atF l f 0 = x0) (e1 : atF l f 1 = x1) (e2 : atF l f 2 = x2) (e3 : atF l f 3 = x3) (e4 : atF l f 4 = x4)
    (b0 : 0 ≤ x0) (d0 : x0 ≤ 255) (b1 : 0 ≤ x1) (d1 : x1 ≤ 255) (b2 : 0 ≤ x2) (d2 : x2 ≤ 255) (b3 : 0 ≤ x3) (d3 : x3 ≤ 255) (b4 : 0 ≤ x4) (d4 : x4 ≤ 255) :
    Calls Tryd.prog 17 #[.slice (some ⟨blk, off, none⟩) l cap] w (refB (l - n) f (fun i => f (n + i)) w (confA (20 + x0 % 20 * 10) (x1 % 4 + 1) (x2 % 3 + 1) (x2 % 3 + 1 + x3 % 7) (x3 / 7 % 4 + 1) (x4 % 3 + 1))) := by
  by_cases hl : l ≤ 5
  · have e : n = l := by rw [← hn]; exact Nat.min_eq_left hl
    subst e
    rw [Nat.sub_self]
    exact (c17a blk off n cap f w x0 x1 x2 x3 x4 hl h e0 e1 e2 e3 e4 b0 d0 b1 d1 b2 d2 b3 d3 b4 d4).mono fun e w' ⟨nb, c, h1, h2, h3, h4⟩ => ⟨nb, c, h1, h2, Bts.zero _ _, h4⟩
  · have e : n = 5 := by rw [← hn]; exact Nat.min_eq_right (by omega)
    subst e
    exact c17b blk off l cap f w x0 x1 x2 x3 x4 (by omega) h3 hlc h e0 e1 e2 e3 e4 b0 d0 b1 d1 b2 d2 b3 d3 b4 d4
set_option maxRecDepth 100000 in
set_option maxHeartbeats 8000000 in
theorem law_small (blk off l cap : Nat) (f : Nat → Int) (w : World) (h3 : l ≤ 3000) (hlc : l ≤ cap) (h : Bts w blk off l f) (hfix : ∀ w', Below w.heap.size w w' → Calls Tryd.prog 7 #[] w' fun e w2 => e = .returned (.bool true) ∧ Below w'.heap.size w' w2) :
    Calls Tryd.prog 6 #[.slice (some ⟨blk, off, none⟩) l cap] w fun e w' => e = .returned (.bool true) ∧ Below w.heap.size w w' := by
  have K16 : ∀ W, Bts W blk off l f → Calls Tryd.prog 16 #[.slice (some ⟨blk, off, none⟩) l cap] W (refB (l - Nat.min l 5) f (fun i => f (Nat.min l 5 + i)) W (confA (20 + atF l f 0 % 20 * 10) (atF l f 1 % 4 + 1) (atF l f 2 % 3 + 1) (atF l f 2 % 3 + 1 + atF l f 3 % 7) (atF l f 3 / 7 % 4 + 1) (atF l f 4 % 3 + 1))) :=
    fun W hW => c16 blk off l cap f W _ _ _ _ _ _ rfl h3 hlc hW rfl rfl rfl rfl rfl (at_ge h 0) (at_le h 0) (at_ge h 1) (at_le h 1) (at_ge h 2) (at_le h 2) (at_ge h 3) (at_le h 3) (at_ge h 4) (at_le h 4)
  have K17 : ∀ W, Bts W blk off l f → Calls Tryd.prog 17 #[.slice (some ⟨blk, off, none⟩) l cap] W (refB (l - Nat.min l 5) f (fun i => f (Nat.min l 5 + i)) W (confA (20 + atF l f 0 % 20 * 10) (atF l f 1 % 4 + 1) (atF l f 2 % 3 + 1) (atF l f 2 % 3 + 1 + atF l f 3 % 7) (atF l f 3 / 7 % 4 + 1) (atF l f 4 % 3 + 1))) :=
    fun W hW => c17 blk off l cap f W _ _ _ _ _ _ rfl h3 hlc hW rfl rfl rfl rfl rfl (at_ge h 0) (at_le h 0) (at_ge h 1) (at_le h 1) (at_ge h 2) (at_le h 2) (at_ge h 3) (at_le h 3) (at_ge h 4) (at_le h 4)
  have b0 := at_ge h 0; have d0 := at_le h 0; have b1 := at_ge h 1; have d1 := at_le h 1; have b2 := at_ge h 2; have d2 := at_le h 2; have b3 := at_ge h 3; have d3 := at_le h 3; have b4 := at_ge h 4; have d4 := at_le h 4
  generalize atF l f 0 = x0 at *
  generalize atF l f 1 = x1 at *
  generalize atF l f 2 = x2 at *
  generalize atF l f 3 = x3 at *
  generalize atF l f 4 = x4 at *
  generalize l - Nat.min l 5 = l2 at *
  generalize (fun i => f (Nat.min l 5 + i)) = g at *
  have c1 : 1 ≤ 20 + x0 % 20 * 10 ∧ 20 + x0 % 20 * 10 ≤ 1048576 ∧ 1 ≤ x1 % 4 + 1 ∧ x1 % 4 + 1 ≤ 64 ∧ 0 < x2 % 3 + 1 ∧ x2 % 3 + 1 ≤ 65536 ∧ x2 % 3 + 1 ≤ x2 % 3 + 1 + x3 % 7 ∧ x2 % 3 + 1 + x3 % 7 ≤ 1048576 ∧ 0 < x3 / 7 % 4 + 1 ∧ x3 / 7 % 4 + 1 ≤ 64 ∧ 1 ≤ x4 % 3 + 1 ∧ x4 % 3 + 1 ≤ 64 := by omega
  generalize 20 + x0 % 20 * 10 = s at *
  generalize x1 % 4 + 1 = d at *
  generalize x2 % 3 + 1 + x3 % 7 = m at *
  generalize x2 % 3 + 1 = b at *
  generalize x3 / 7 % 4 + 1 = t at *
  generalize x4 % 3 + 1 = n at *
  clear b0 d0 b1 d1 b2 d2 b3 d3 b4 d4
  obtain ⟨p1, p2, p3, p4, p5, p6, p7, p8, p9, p10, p11, p12⟩ := c1
  have K18 := fun W => c18 s d b m t n W p1 p2 p3 p4 p5 p6 p7 p8 p9 p10 p11 p12
  have heq := eq50 s d b m t n
  clear p1 p2 p3 p4 p5 p6 p7 p8 p9 p10 p11 p12
  have H := Lib.hid h
  clear h
  have L16 := Lib.hid K16; have L17 := Lib.hid K17; have L18 := Lib.hid K18; have HF := Lib.hid hfix
  clear K16 K17 K18 hfix
  go_enter Tryd.func6, Tryd.ntmps6
  go_wp2_with (first
    | (go_at_call 16; refine (L16.out _ H.out).mono ?_; rintro e w1 ⟨nb1, cp1, rfl, hnb1, hbt1, hbl1⟩; obtain ⟨hc1, hf1⟩ := bcell hbl1; have hz1 : w.heap.size ≤ w1.heap.size := hbl1.size; have H1 := Lib.hid hbt1; clear hbt1; have B1 := Lib.hid hbl1; clear hbl1)
    | (go_at_call 17; refine (L17.out _ (H.out.mono (B1.out.alloc B1.out.size _))).mono ?_; rintro e w2 ⟨nb2, cp2, rfl, hnb2, hbt2, hbl2⟩; obtain ⟨hc2, hf2⟩ := bcell hbl2; have hz2 : w1.heap.size < w2.heap.size := (by have := hbl2.size; simp at this; omega); have H2 := Lib.hid hbt2; clear hbt2; have B2 := Lib.hid (((B1.out.alloc B1.out.size _).trans (hbl2.mono (by have := B1.out.size; simp; omega)))); have G1 := Lib.hid ((H1.out.alloc _).mono hbl2); clear hbl2)
    | (go_at_call 7; refine (HF.out _ (B2.out.alloc B2.out.size _)).mono ?_; rintro e w3 ⟨rfl, hbl3⟩; obtain ⟨hc3, hf3⟩ := bcell hbl3; have hz3 : w2.heap.size < w3.heap.size := (by have := hbl3.size; simp at this; omega); have hv1 := conv_bts w3 nb1 0 l2 cp1 g ((G1.out.alloc _).mono hbl3); have hv2 := conv_bts w3 nb2 0 l2 cp2 g ((H2.out.alloc _).mono hbl3); have B3 := Lib.hid (((B2.out.alloc B2.out.size _).trans (hbl3.mono (by have := B2.out.size; simp; omega)))); clear hbl3; generalize strF l2 g = str at hv1 hv2)
    | (go_at_call 18; refine (L18.out _).mono ?_; rintro e w4 ⟨rfl, hbl4⟩; have B4 := Lib.hid (B3.out.trans (hbl4.mono B3.out.size)); clear hbl4))
  go_ret
  exact ⟨rfl, B4.out⟩
theorem law_great (blk off l cap : Nat) (w : World) (h3 : 3000 < l) (hfix : Calls Tryd.prog 7 #[] w fun e w2 => e = .returned (.bool true) ∧ Below w.heap.size w w2) :
    Calls Tryd.prog 6 #[.slice (some ⟨blk, off, none⟩) l cap] w fun e w' => e = .returned (.bool true) ∧ Below w.heap.size w w' := by
  go_enter Tryd.func6, Tryd.ntmps6
  go_wp2_with (go_at_call 7; refine hfix.mono ?_; rintro e w3 ⟨rfl, hbl3⟩)
  go_ret
  exact ⟨rfl, hbl3⟩

noncomputable def kk : List (Nat × List Value) := (Go.Ai.tabOf Tryd.prog Rows.scriptConfsRow.laid).getD []
theorem tabled_mono {W w' : World} (h : Go.Ai.Tabled Tryd.prog W kk) (hb : Below W.heap.size W w') : Go.Ai.Tabled Tryd.prog w' kk := fun g vs hm => by
  obtain ⟨a, b, c⟩ := h g vs hm
  exact ⟨a, b, fun i v hi => ⟨(c i v hi).1, by rw [hb.cell (p := ⟨g, i, none⟩) (World.block_lt_of_cell? W _ (c i v hi).2)]; exact (c i v hi).2⟩⟩
theorem c7 {W : World} (hL : Go.Ai.Tabled Tryd.prog W kk) : Calls Tryd.prog 7 #[] W fun e w2 => e = .returned (.bool true) ∧ Below W.heap.size W w2 :=
  Go.Ai.ai_test progOk' (Checked.mixed Tryd.checked) 1000 200 7 [] rfl kk (fun ts => Go.Ai.fast_true (by kernel_rfl)) W hL
theorem c6n {W : World} (hL : Go.Ai.Tabled Tryd.prog W kk) : Calls Tryd.prog 6 #[.slice none 0 0] W fun e w2 => e = .returned (.bool true) ∧ Below W.heap.size W w2 :=
  Go.Ai.ai_test progOk' (Checked.mixed Tryd.checked) 1000 200 6 [.slice none 0 0] rfl kk (fun ts => Go.Ai.fast_true (by kernel_rfl)) W hL
theorem wf_u8 {n : Int} (h : (Lit.int .u8 n).wf = true) : 0 ≤ n ∧ n ≤ 255 := by
  have h : IntKind.u8.min ≤ n ∧ n ≤ IntKind.u8.max := by simpa [Lit.wf] using h
  have e1 : IntKind.u8.min = 0 := by decide
  have e2 : IntKind.u8.max = 255 := by decide
  obtain ⟨h1, h2⟩ := h
  exact ⟨by rw [e1] at h1; exact h1, by rw [e2] at h2; exact h2⟩
set_option maxRecDepth 100000 in
theorem walk {H : Type} {enc : TypeId × Value → H} {base : Nat} (v0 : Value) {W : World} {ds : List (DataW H)} {p : List MemPlace} (h0 : Value.okWide Tryd.prog W .any base 22 v0) (hA : DataW.TrodAll enc Tryd.prog W 0 (fun _ => true) true #[22].toList #[v0].toList ds p) (hL : Go.Ai.Tabled Tryd.prog W kk) :
    Calls Tryd.prog 6 #[v0] W fun e W' => e = .returned (.bool true) ∧ Below W.heap.size W W' := by
  obtain ⟨d0, rfl, hT⟩ : ∃ d0, ds = [d0] ∧ ∃ p0, DataW.Trod enc Tryd.prog W 0 (fun _ => true) true 22 v0 d0 p0 := by
    match ds, hA with
    | [d0], ⟨p0, q, h1, _, _⟩ => exact ⟨d0, rfl, p0, h1⟩
  obtain ⟨p0, fuel, hf⟩ := hT
  have five : Tryd.prog.cellsOf 5 = 1 := by kernel_rfl
  have hfix : ∀ w', Below W.heap.size W w' → Calls Tryd.prog 7 #[] w' fun e w2 => e = .returned (.bool true) ∧ Below w'.heap.size w' w2 := fun w' hb => c7 (tabled_mono hL hb)
  rcases Go.Ai.cell_slice Tryd.underlying22 (Go.Ai.okWide_cell h0 (fun fs h => by rw [Tryd.underlying22] at h; cases h) (fun m e h => by rw [Tryd.underlying22] at h; cases h)) with rfl | ⟨blk, off, l, cap, rfl, hlc, hcap⟩
  · exact c6n hL
  · rcases open_ints Tryd.underlying22 Tryd.underlying5 five hf with ⟨h, _⟩ | ⟨a, l', cap', zs, h, _, hlc', hcm, hzl, _, hcell, hwf⟩
    · simp [Value.cells] at h
    · have h : Value.slice (some ⟨blk, off, none⟩) l cap = .slice (some a) l' cap' := by simpa [Value.cells] using h
      cases h
      by_cases hl5 : 3000 < l
      · exact law_great blk off l cap W hl5 (hfix W (Below.refl _ W))
      · have hz : zs.length = cap := by simpa using hzl
        rcases Nat.eq_zero_or_pos l with rfl | hpos
        · exact law_small blk off 0 cap (fun _ => 0) W (by omega) (by omega) (Bts.zero _ _) hfix
        · have hblk : blk < W.heap.size := by
            have := hcell 0 (by omega)
            rw [Addr.add_lit] at this
            exact World.block_lt_of_cell? W _ this
          refine law_small blk off l cap (fun i => zs.getD i 0) W (by omega) hlc ⟨fun _ => hblk, fun i hi => ⟨by rw [← Addr.add_lit]; exact hcell i (by omega), ?_⟩⟩ hfix
          refine wf_u8 (hwf _ ?_)
          show zs.getD i 0 ∈ zs
          rw [List.getD_eq_getElem?_getD, List.getElem?_eq_getElem (by omega)]
          exact List.getElem_mem _

theorem tabbed {w : World} (h : laidMetH Tryd.prog Rows.scriptConfsRow.laid w) : Go.Ai.Tabled Tryd.prog w kk := Go.Ai.tabled_of (by kernel_rfl) (by kernel_rfl) h

set_option maxRecDepth 100000 in
theorem lifted (os : Os) (started : os.Started) (H : Type) (enc : TypeId × Value → H) :
    ReturnsInHanded {} Tryd.checked os 6 .any (fun w args => (Rows.scriptConfsSpec.pre enc Tryd.prog Tryd.f6 [] false w args ∧ laidMetH Tryd.prog Rows.scriptConfsRow.laid w) ∧ sizedMet enc Tryd.prog Tryd.f6 (OpenSpec.ofChange Rows.scriptConfsSpec) false w args) (Rows.scriptConfsSpec.post enc Tryd.prog Tryd.f6 false true false false) := by
  refine returnsInHanded_of_change_and (C := Tryd.checked) (X := fun w _ => laidMetH Tryd.prog Rows.scriptConfsRow.laid w) (fun _ _ _ hh h => h.of_heap hh) own started (by kernel_rfl) Tryd.func6
    (ChangeSpec.witness_shaped (enc := enc) (C := Tryd.checked) (os := os) (X := fun w _ => laidMetH Tryd.prog Rows.scriptConfsRow.laid w) false (World.laidAll Tryd.prog os Rows.scriptConfsRow.laid) #[.slice none 0 0] 8 (World.laidAll_os _ _ _) (World.shaped_of_ZipB (by kernel_rfl) (by kernel_rfl)) (by kernel_rfl) (by kernel_rfl) (by kernel_rfl) (by rw [MakeChecks.laidMetH_plain _ _ _ (by kernel_rfl)]; exact laidMet_laidAll _ (by kernel_rfl) (by kernel_rfl))) ?_
  intro W base args ds gs before hval0 hW _ _ hL _
  have hval : ∀ (j : Nat) t v, Tryd.f6.params[j]? = some t → args[j]? = some v → Value.okWide Tryd.prog W .any base t v := hval0
  have hW' : DataW.Whole enc Tryd.prog Tryd.f6.params.toList Rows.scriptConfsSpec.vars false W args.toList ds gs before := hW
  clear hval0 hW
  have hsize : args.toList.length = 1 := by
    obtain ⟨p, q, hA0, _⟩ := hW'
    have hA : DataW.TrodAll enc Tryd.prog W 0 (fun _ => true) true Tryd.f6.params.toList args.toList ds p := hA0
    rw [Tryd.params6] at hA
    exact (Go.Ai.trodAll_len hA).1
  obtain ⟨v0, rfl⟩ : ∃ v0, args = #[v0] := outer args hsize
  rw [Tryd.params6] at hval
  obtain ⟨pA, qA, hA0, _⟩ := id hW'
  rw [Tryd.params6] at hA0
  refine (walk v0 (hval 0 22 v0 rfl rfl) hA0 (tabbed hL)).mono fun e W' ⟨he, hw⟩ => ?_
  refine ⟨_, he, Go.Ai.row_true (P := Tryd.prog) (f := Tryd.f6) (s := Rows.scriptConfsSpec) (tb := 4) laidOut' (by kernel_rfl) rfl (fun ds h => ?_) (by kernel_rfl) Tryd.underlying4 hW' hw⟩
  rw [Tryd.params6] at h
  match ds, h with
  | [d0], _ => rfl

theorem over : Rows.scriptConfsRow.holds Tryd.pinned (OpenSpec.ofChange Rows.scriptConfsSpec) :=
  OpenClaim.holds_of_wide 6 Tryd.f6 rfl rfl rfl rfl rfl rfl rfl ⟨rfl, rfl, rfl, rfl, rfl⟩ rfl rfl rfl rfl rfl (by kernel_rfl) Tryd.func6 (by kernel_rfl)
    (of_decide_eq_true (by kernel_rfl)) (by unfold Func.isWrapper; first | (rw [if_pos (by decide +kernel)]; kernel_rfl) | (rw [if_neg (by decide +kernel)]; exact ⟨rfl, rfl⟩))
    (fun os started H enc _ => lifted os started H enc)

/-- ████ THE STATEMENT ████ -/
theorem proved : Rows.ScriptConfsCardSaid :=
  Claim7.holds_tied_plain_at .later [] [.data] true (true, "018ce4b2d2721757188613fd15d872e134e218230fc6cf0112f1e1ed7588fe74") false
    over (fun _ h => by cases h) (by kernel_rfl) (fun _ h => by cases h) scriptConfs_row_tie rfl ⟨rfl, rfl⟩ (by kernel_rfl) rfl
    (fun f fn hf hfn => by
      obtain rfl : f = 6 := Option.some.inj ((show Tryd.prog.funcNamed "equerry/equerrylaw29.ScriptConfs" = some 6 by kernel_rfl).symm.trans hf) |>.symm
      obtain rfl : fn = Tryd.f6 := (Option.some.inj (Tryd.func6.symm.trans hfn)).symm
      exact ⟨by kernel_rfl, fun j t ht => by
        rw [Tryd.params6] at ht
        have hm : t ∈ [22] := by
          have := Array.mem_of_getElem? ht
          simp at this ⊢
          omega
        have hall : ([22].all fun u => !Tryd.prog.wantsStandIn u) = true := by kernel_rfl
        exact (show Tryd.prog.wantsStandIn t = false by simpa using List.all_eq_true.1 hall t hm)⟩)
    (by kernel_rfl)
#print axioms proved
end Go.Proofs.YtojfppkibmmmdaaDoor.scriptConfs
