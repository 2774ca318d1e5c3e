/- Proved: contracts of the script's 'emitted' and of the document's; each theorem says its own conditions. -/
import Derived.Test.YtojfppkibmmmdaaDoorSa
import Derived.KernelRfl
set_option linter.unusedVariables false
set_option linter.unusedSimpArgs false
namespace Go.Proofs.SA
open Go.RowKit
/-- The float of a whole number and a half, as the program and as the document reckon it. -/
noncomputable def fA (m : Nat) : Nat := match Go.Ai.pureRun Tryd.prog (convert 5 59 (.int .u8 (Int.ofNat m))) with
  | some (.float .f64 n) => n
  | _ => 0
noncomputable def fV (m : Nat) : Nat := match Go.Ai.pureRun Tryd.prog (binOp .add 59 (.float .f64 (fA m)) (.float .f64 4602678819172646912)) with
  | some (.float .f64 n) => n
  | _ => 0
noncomputable def fB (m : Nat) : Nat := match Go.Ai.pureRun Tryd.prog (convert 3 59 (.int .i64 (Int.ofNat (2 * m + 1)))) with
  | some (.float .f64 n) => n
  | _ => 0
noncomputable def fGood (m : Nat) : Bool :=
  (match Go.Ai.pureRun Tryd.prog (convert 5 59 (.int .u8 (Int.ofNat m))) with | some (.float .f64 n) => Nat.beq n (fA m) | _ => false) &&
  (match Go.Ai.pureRun Tryd.prog (binOp .add 59 (.float .f64 (fA m)) (.float .f64 4602678819172646912)) with | some (.float .f64 n) => Nat.beq n (fV m) | _ => false) &&
  (match Go.Ai.pureRun Tryd.prog (convert 3 59 (.int .i64 (Int.ofNat (2 * m + 1)))) with | some (.float .f64 n) => Nat.beq n (fB m) | _ => false) &&
  (match Go.Ai.pureRun Tryd.prog (binOp .quo 59 (.float .f64 (fB m)) (.float .f64 4611686018427387904)) with | some (.float .f64 n) => Nat.beq n (fV m) | _ => false)
theorem all_good : ((List.range 32).all fun m => fGood m) = true := by kernel_rfl
theorem pr {s : Sem Value} {n : Nat} (h : (match Go.Ai.pureRun Tryd.prog s with | some (.float .f64 x) => Nat.beq x n | _ => false) = true) (w : World) : s.run Tryd.prog w = .ok (.float .f64 n) w := by
  split at h
  · rename_i x e
    rw [Nat.eq_of_beq_eq_true h] at e
    exact Go.Ai.pureRun_spec _ _ e w
  · cases h
theorem floats (m : Nat) (h : m < 32) (w : World) : (convert 5 59 (.int .u8 (m : Int))).run Tryd.prog w = .ok (.float .f64 (fA m)) w ∧ (binOp .add 59 (.float .f64 (fA m)) (.float .f64 4602678819172646912)).run Tryd.prog w = .ok (.float .f64 (fV m)) w ∧
    (convert 3 59 (.int .i64 ((2 * m + 1 : Nat) : Int))).run Tryd.prog w = .ok (.float .f64 (fB m)) w ∧ (binOp .quo 59 (.float .f64 (fB m)) (.float .f64 4611686018427387904)).run Tryd.prog w = .ok (.float .f64 (fV m)) w := by
  have hg : fGood m = true := List.all_eq_true.1 all_good m (List.mem_range.2 h)
  unfold fGood at hg
  simp only [Bool.and_eq_true] at hg
  exact ⟨pr hg.1.1.1 w, pr hg.1.1.2 w, pr hg.1.2 w, pr hg.2 w⟩
/-- The cells of the one field of an event. -/
noncomputable def val (y : Nat) : List Value := if y % 4 = 3 then [.int .u8 2, .int .i64 0, .float .f64 (fV (y / 4)), .string ⟨#[]⟩] else [.int .u8 1, .int .i64 ((y % 4 : Nat) : Int), .float .f64 0, .string ⟨#[]⟩]
noncomputable def FldIs (ok : Nat → Prop) (w : World) (v : Value) : Option Nat → Prop
  | none => v = .slice none 0 0
  | some y => y < 128 ∧ ∃ b, v = .slice (some ⟨b, 0, none⟩) 1 1 ∧ ok b ∧ b < w.heap.size ∧ ∀ (j : Nat) (x : Value), (val y)[j]? = some x → w.cell? ⟨b, j, none⟩ = some x
theorem FldIs.mono {ok : Nat → Prop} {w w' : World} {v : Value} {o : Option Nat} (h : FldIs ok w v o) (hB : Go.Ai.Keeps ok w w') : FldIs ok w' v o := by
  cases o with
  | none => exact h
  | some y =>
    obtain ⟨hy, b, rfl, ho, hb, hc⟩ := h
    exact ⟨hy, b, rfl, ho, Nat.lt_of_lt_of_le hb hB.1, fun j x e => (hB.cell hb ho j).trans (hc j x e)⟩
theorem FldIs.weaken {ok ok' : Nat → Prop} {w : World} {v : Value} {o : Option Nat} (h : FldIs ok w v o) (hl : ∀ b, b < w.heap.size → ok b → ok' b) : FldIs ok' w v o := by
  cases o with
  | none => exact h
  | some y =>
    obtain ⟨hy, b, rfl, ho, hb, hc⟩ := h
    exact ⟨hy, b, rfl, hl b hb ho, hb, hc⟩
theorem FldIs.slice {ok : Nat → Prop} {w : World} {v : Value} {o : Option Nat} (h : FldIs ok w v o) : ∃ a l c, v = .slice a l c := by
  cases o with
  | none => exact ⟨_, _, _, h⟩
  | some y =>
    obtain ⟨_, b, rfl, _⟩ := h
    exact ⟨_, _, _, rfl⟩
def fldOf (x : Nat) : Option Nat := if x % 2 = 1 then some (x / 2) else none
noncomputable def EvOut (n x : Nat) (w : World) (e : Ending) (w' : World) : Prop := ∃ v, e = .returned (.agg #[.int .u8 ((n % 4 : Nat) : Int), v]) ∧ FldIs (w.heap.size ≤ ·) w' v (fldOf x) ∧ Below w.heap.size w w'
theorem cell_of_heap {w : World} {b : Nat} {c : Array Value} {t : TypeId} {fz : Nat × Nat} (h : w.heap[b]? = some (.cells c t fz)) (j : Nat) : w.cell? ⟨b, j, none⟩ = c[j]? := by
  unfold World.cell?
  rw [h]
  rfl
theorem fld_of {ok : Nat → Prop} {w : World} {b y : Nat} (ho : ok b) {t : TypeId} {fz : Nat × Nat} (hy : y < 128) (h : w.heap[b]? = some (.cells (val y).toArray t fz)) : FldIs ok w (.slice (some ⟨b, 0, none⟩) 1 1) (some y) :=
  ⟨hy, b, rfl, ho, (Array.getElem?_eq_some_iff.1 h).1, fun j x e => by rw [cell_of_heap h]; simpa using e⟩
theorem run_store_float (P : Program) (w : World) (a : Addr) (k : FloatKind) (n : Nat) (m : Mode) : (store a (.float k n) m).run P w = stored P w a (.float k n) m := run_store P w a _ m rfl
attribute [local go_sem] run_store_float
theorem val_real {y : Nat} (h : y % 4 = 3) : (val y).toArray = #[.int .u8 2, .int .i64 0, .float .f64 (fV (y / 4)), .string ⟨#[]⟩] := by unfold val; rw [if_pos h]
theorem val_whole {y : Nat} (h : ¬ y % 4 = 3) : (val y).toArray = #[.int .u8 1, .int .i64 ((y : Int) % 4), .float .f64 0, .string ⟨#[]⟩] := by unfold val; rw [if_neg h]; simp
theorem fld_new {ok : Nat → Prop} {W w : World} {o : Obj} {y n : Nat} (hk : ok n) (hy : y < 128) (hw : w = W.alloc o) (ho : o = .cells (val y).toArray 61) (hn : n = W.heap.size) : FldIs ok w (.slice (some ⟨n, 0, none⟩) 1 1) (some y) := by
  subst hw ho hn
  exact fld_of (fz := (0, 0)) hk hy (heap_alloc_new W _)
theorem ev_ret {n x : Nat} {w w' : World} {v : Value} {t : Int} (ht : t = ((n % 4 : Nat) : Int)) (h : FldIs (w.heap.size ≤ ·) w' v (fldOf x)) (hB : Below w.heap.size w w') : EvOut n x w (.returned (.agg #[.int .u8 t, v])) w' := by
  subst ht
  exact ⟨v, rfl, h, hB⟩
theorem b2 (w : World) (a b : Obj) : Below w.heap.size w ((w.alloc a).alloc b) := ((Below.refl _ w).alloc (Nat.le_refl _) _).alloc (by simp) _
theorem b3 (w : World) (a b c : Obj) : Below w.heap.size w (((w.alloc a).alloc b).alloc c) := (b2 w a b).alloc (by simp; omega) _
theorem b4 (w : World) (a b c d : Obj) : Below w.heap.size w ((((w.alloc a).alloc b).alloc c).alloc d) := (b3 w a b c).alloc (by simp; omega) _
set_option maxRecDepth 100000 in
set_option maxHeartbeats 1000000 in
theorem c37 (n x : Nat) (w : World) (hn : n < 256) (hx : x < 256) : Calls Tryd.prog 37 #[.int .u8 n, .int .u8 x] w (EvOut n x w) := by
  by_cases h1 : x % 2 = 1
  · have e0 : fldOf x = some (x / 2) := if_pos h1
    by_cases h2 : x / 2 % 4 = 3
    · have hf := fun w => (floats (x / 2 / 4) (by omega) w).1
      have hg := fun w => (floats (x / 2 / 4) (by omega) w).2.1
      have hV := Lib.hid (val_real h2)
      have E0 := Lib.hid e0
      clear e0
      rw [show ((x / 2 / 4 : Nat) : Int) = (x : Int) / 2 / 4 by omega] at hf
      generalize fA (x / 2 / 4) = fa at hf hg
      go_enter Tryd.func37, Tryd.ntmps37
      go_wp2
      exact bodyPost_ret (v := .agg #[.int .u8 ((n : Int) % 4), .slice (some ⟨w.heap.size + 1 + 1 + 1, 0, none⟩) 1 1]) (by simp [results, Tryd.results37, go_sem]) rfl (ev_ret (by simp) (by rw [E0.out]; exact fld_new (by omega) (by omega) rfl (by rw [hV.out]) (by simp)) (b4 _ _ _ _ _))
    · have hV := Lib.hid (val_whole h2)
      have E0 := Lib.hid e0
      clear e0
      go_enter Tryd.func37, Tryd.ntmps37
      go_wp2
      exact bodyPost_ret (v := .agg #[.int .u8 ((n : Int) % 4), .slice (some ⟨w.heap.size + 1 + 1 + 1, 0, none⟩) 1 1]) (by simp [results, Tryd.results37, go_sem]) rfl (ev_ret (by simp) (by rw [E0.out]; exact fld_new (by omega) (by omega) rfl (by rw [hV.out]; simp) (by simp)) (b4 _ _ _ _ _))
  · have E0 := Lib.hid (show fldOf x = none from if_neg h1)
    go_enter Tryd.func37, Tryd.ntmps37
    go_wp2
    exact bodyPost_ret (v := .agg #[.int .u8 ((n : Int) % 4), .slice none 0 0]) (by simp [results, Tryd.results37, go_sem]) rfl (ev_ret (by simp) (by rw [E0.out]; rfl) (b2 _ _ _))
set_option maxRecDepth 100000 in
set_option maxHeartbeats 1000000 in
theorem c23 (n x : Nat) (w : World) (hn : n < 256) (hx : x < 256) : Calls Tryd.prog 23 #[.int .i64 n, .int .i64 x] w (EvOut n x w) := by
  by_cases h1 : x % 2 = 1
  · have e0 : fldOf x = some (x / 2) := if_pos h1
    by_cases h2 : x / 2 % 4 = 3
    · have hf := fun w => (floats (x / 2 / 4) (by omega) w).2.2.1
      have hg := fun w => (floats (x / 2 / 4) (by omega) w).2.2.2
      have hV := Lib.hid (val_real h2)
      have E0 := Lib.hid e0
      clear e0
      rw [show ((2 * (x / 2 / 4) + 1 : Nat) : Int) = 2 * ((x : Int) / 2 / 4) + 1 by omega] at hf
      generalize fB (x / 2 / 4) = fa at hf hg
      go_enter Tryd.func23, Tryd.ntmps23
      go_wp2
      exact bodyPost_ret (v := .agg #[.int .u8 ((n : Int) % 4), .slice (some ⟨w.heap.size + 1 + 1, 0, none⟩) 1 1]) (by simp [results, Tryd.results23, go_sem]) rfl (ev_ret (by simp) (by rw [E0.out]; exact fld_new (by omega) (by omega) rfl (by rw [hV.out]) (by simp)) (b3 _ _ _ _))
    · have hV := Lib.hid (val_whole h2)
      have E0 := Lib.hid e0
      clear e0
      go_enter Tryd.func23, Tryd.ntmps23
      go_wp2
      exact bodyPost_ret (v := .agg #[.int .u8 ((n : Int) % 4), .slice (some ⟨w.heap.size + 1 + 1, 0, none⟩) 1 1]) (by simp [results, Tryd.results23, go_sem]) rfl (ev_ret (by simp) (by rw [E0.out]; exact fld_new (by omega) (by omega) rfl (by rw [hV.out]; simp) (by simp)) (b3 _ _ _ _))
  · have E0 := Lib.hid (show fldOf x = none from if_neg h1)
    go_enter Tryd.func23, Tryd.ntmps23
    go_wp2
    exact bodyPost_ret (v := .agg #[.int .u8 ((n : Int) % 4), .slice none 0 0]) (by simp [results, Tryd.results23, go_sem]) rfl (ev_ret (by simp) (by rw [E0.out]; rfl) (b2 _ _ _))
end Go.Proofs.SA
