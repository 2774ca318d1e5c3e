/- Proved: slices.Sorted of maps.Keys of a map without entries is nil. Conditions: that the map holds no entry. -/
import Derived.Test.YtajjmepenakgkaaGreatDoorProg
import Derived.Test.YtajjmepenakgkaaGreatDoorChecked
import Derived.Test.YtajjmepenakgkaaGreatDoorAe
import Derived.RangeFuncFrom
import Derived.Laws.IdiomRangeMap
import Derived.TacticsInMore
import Derived.RegionIn
import Derived.LoopNIn
import Derived.LoopIn
import Derived.OwnWalkIn
import Derived.WalkKit
import Derived.WalkMore
set_option linter.unusedVariables false
set_option linter.unusedSimpArgs false
namespace Go.Proofs.GK
open Go.RowKit
theorem next_none (w : World) (ty : TypeId) (bm c : Nat) (hb : w.heap[bm]? = some (.map #[] c)) :
    (Instr.next (.pointer (some ⟨w.heap.size, 0, none⟩)) false ty).run Tryz.prog (w.alloc (.mapIter (some bm) c #[] c)) = .ok (.tuple #[.bool false]) (w.alloc (.mapIter (some bm) c #[] c)) := by
  rcases run_next_map (P := Tryz.prog) w ty bm c c #[] #[] c hb (by simp) (Nat.le_refl _) with ⟨_, h⟩ | ⟨e, he, _⟩
  · exact h
  · simp [leftOf] at he
set_option maxRecDepth 100000 in
set_option maxHeartbeats 1000000 in
theorem it195 (F : Fence) (n : Nat) (h10 : F.fn 195) (hro : F.round = none) (l bx bm c : Nat) (J : List Empty → World → Prop) (W : World) (hJ : AbidesFrom W.heap.size J) (hm : W.cell? ⟨bx, 0, none⟩ = some (.map (some bm))) (hb : W.heap[bm]? = some (.map #[] c)) (h0 : J [] W) :
    CallsIn F n Tryz.prog 195 #[.func (.yield l) #[] #[], .pointer (some ⟨bx, 0, none⟩)] W fun e W' => (∃ v, e = .returned v) ∧ J [] W' := by
  refine callsIn_of_wp Tryz.func195 rfl h10 ?_ hro
  simp only [Tryz.ntmps195, List.size_toArray, List.length_cons, List.length_nil, Nat.reduceAdd, Nat.reduceSub, Array.replicate_succ, Array.replicate_zero, List.push_toArray, List.append_toArray, List.nil_append, List.cons_append]
  have hrg := run_range_map (P := Tryz.prog) W 63 23 _ bm #[] c Tryz.underlying63 hb
  have hnx : ∀ ty, (Instr.next (.pointer (some ⟨W.heap.size, 0, none⟩)) false ty).run Tryz.prog (W.alloc (.mapIter (some bm) c #[] c)) = _ := fun ty => next_none W ty bm c hb
  gi_wp2
  refine wpIn_loop_rounds 1 ?_
  rw [roundsIn_succ]
  gi_wp2
  go_end0
  exact ⟨⟨_, rfl⟩, hJ [] W _ none h0 (World.grownBy_alloc W _ none) (fun r e => by cases e)⟩
set_option maxRecDepth 100000 in
set_option maxHeartbeats 1000000 in
theorem it199 (F : Fence) (n : Nat) (h10 : F.fn 199) (hro : F.round = none) (l bx bm c : Nat) (J : List Empty → World → Prop) (W : World) (hJ : AbidesFrom W.heap.size J) (hm : W.cell? ⟨bx, 0, none⟩ = some (.map (some bm))) (hb : W.heap[bm]? = some (.map #[] c)) (h0 : J [] W) :
    CallsIn F n Tryz.prog 199 #[.func (.yield l) #[] #[], .pointer (some ⟨bx, 0, none⟩)] W fun e W' => (∃ v, e = .returned v) ∧ J [] W' := by
  refine callsIn_of_wp Tryz.func199 rfl h10 ?_ hro
  simp only [Tryz.ntmps199, List.size_toArray, List.length_cons, List.length_nil, Nat.reduceAdd, Nat.reduceSub, Array.replicate_succ, Array.replicate_zero, List.push_toArray, List.append_toArray, List.nil_append, List.cons_append]
  have hrg := run_range_map (P := Tryz.prog) W 132 23 _ bm #[] c Tryz.underlying132 hb
  have hnx : ∀ ty, (Instr.next (.pointer (some ⟨W.heap.size, 0, none⟩)) false ty).run Tryz.prog (W.alloc (.mapIter (some bm) c #[] c)) = _ := fun ty => next_none W ty bm c hb
  gi_wp2
  refine wpIn_loop_rounds 1 ?_
  rw [roundsIn_succ]
  gi_wp2
  go_end0
  exact ⟨⟨_, rfl⟩, hJ [] W _ none h0 (World.grownBy_alloc W _ none) (fun r e => by cases e)⟩

/-- An iterator that gives nothing. -/
def Still0 (g : FuncId) (lb : Array Value) (w : World) : Prop := SeqStopsK Fence.wide 2 Tryz.prog g lb (fun x : Empty => x.elim) (fun _ _ => True) (fun xs => xs = []) (fun _ => False) 0 w
theorem still195 (bx bm c : Nat) (w : World) (hbx : bx < w.heap.size) (hbm : bm < w.heap.size) (hm : w.cell? ⟨bx, 0, none⟩ = some (.map (some bm))) (hb : w.heap[bm]? = some (.map #[] c)) : Still0 195 #[.pointer (some ⟨bx, 0, none⟩)] w := by
  intro l J Jx W hB hJ hJx _ h0
  refine (it195 Fence.wide 2 trivial rfl l bx bm c J W hJ ((hB.cell (p := ⟨bx, 0, none⟩) hbx).trans hm) ((hB.block bm hbm).trans hb) h0).mono ?_
  rintro e W' ⟨hv, hj⟩
  exact ⟨hv, .inl ⟨[], rfl, hj⟩⟩
theorem still199 (bx bm c : Nat) (w : World) (hbx : bx < w.heap.size) (hbm : bm < w.heap.size) (hm : w.cell? ⟨bx, 0, none⟩ = some (.map (some bm))) (hb : w.heap[bm]? = some (.map #[] c)) : Still0 199 #[.pointer (some ⟨bx, 0, none⟩)] w := by
  intro l J Jx W hB hJ hJx _ h0
  refine (it199 Fence.wide 2 trivial rfl l bx bm c J W hJ ((hB.cell (p := ⟨bx, 0, none⟩) hbx).trans hm) ((hB.block bm hbm).trans hb) h0).mono ?_
  rintro e W' ⟨hv, hj⟩
  exact ⟨hv, .inl ⟨[], rfl, hj⟩⟩
set_option maxRecDepth 100000 in
set_option maxHeartbeats 2000000 in
theorem c240 (g : FuncId) (fn : Func) (c : Code) (hg : Tryz.prog.funcs[g]? = some fn) (hc : fn.body = some c) (hnm : (fn.name == "runtime.NumGoroutine") = false) (lb : Array Value) (w : World) (hs : ∀ W, Below w.heap.size w W → Still0 g lb W) :
    CallsIn Fence.wide 3 Tryz.prog 240 #[.slice none 0 0, .func (.func g) #[] lb] w fun e w' => e = .returned (.slice none 0 0) ∧ Below w.heap.size w w' := by
  refine callsIn_of_wp_marks Tryz.func240 rfl trivial ?_ rfl
  simp only [Tryz.ntmps240, List.size_toArray, List.length_cons, List.length_nil, Nat.reduceAdd, Nat.reduceSub, Array.replicate_succ, Array.replicate_zero, List.push_toArray, List.append_toArray, List.nil_append, List.cons_append]
  gi_wp2
  obtain ⟨W0, hW0⟩ : ∃ W0, w.alloc (.cells #[.slice none 0 0] 53) = W0 := ⟨_, rfl⟩
  have hb0 : Below w.heap.size w W0 := by rw [← hW0]; exact (Below.refl _ w).alloc (Nat.le_refl _) _
  have hs0 : W0.heap.size = w.heap.size + 1 := by rw [← hW0]; simp
  have hv0 : W0.heap[w.heap.size]? = some (.cells #[.slice none 0 0] 53 (0, 0)) := by rw [← hW0]; exact World.alloc_heap_new w _
  rw [hW0]
  refine wpIn_rangeFunc_ownF (α := Empty) (gf := g) (lb := lb) (w0 := W0) (Kp := fun _ _ => True) (S := fun xs => xs = []) (Sp := fun _ => False) (N := 0) rfl (by omega) rfl trivial ?_ (hs W0 hb0) (fun _ _ => trivial) (fun _ _ _ _ _ _ _ _ => trivial) (Below.refl _ _) (fun x => x.elim)
    (fun _ W => Below W0.heap.size W0 W) (fun _ _ _ => False) ?_ ?_ (Below.refl _ _) (fun x => x.elim) (fun l x => x.elim) (fun l pre x => x.elim) ?_ (fun D c pre W _ h => h.elim)
  · exact fun args w => Go.Ai.callFunc_enter (Go.Ai.progOk_spec (by kernel_rfl)) hg hc args w
  · intro s W W' row hW hg hr
    exact hW.grown hg hW.size fun k e => (hr k e).1
  · intro c s W W' row hW hg hr
    exact hW
  · intro D xs W hD hxs hB hDef
    have h1 := (hB.cell (p := ⟨w.heap.size, 0, none⟩) (by show w.heap.size < W0.heap.size; omega)).trans (show W0.cell? ⟨w.heap.size, 0, none⟩ = some (.slice none 0 0) by simp [World.cell?, hv0])
    gi_wp2
    refine ⟨by simp, .inl ⟨_, _, rfl, run_takeDeferred hDef, ?_⟩⟩
    refine ⟨_, results_tmp rfl _ _ _, rfl, ?_⟩
    have hd : D < W.heap.size := (Array.getElem?_eq_some_iff.1 hDef).1
    exact (hb0.trans (hB.mono (by omega))).grown (grownBy_putObj' _ _ _) (by have := hB.size; omega) fun k e => by cases e; omega
theorem c193 (g : FuncId) (fn : Func) (c : Code) (hg : Tryz.prog.funcs[g]? = some fn) (hc : fn.body = some c) (hnm : (fn.name == "runtime.NumGoroutine") = false) (lb : Array Value) (w : World) (hs : ∀ W, Below w.heap.size w W → Still0 g lb W) :
    Calls Tryz.prog 193 #[.func (.func g) #[] lb] w fun e w' => e = .returned (.slice none 0 0) ∧ Below w.heap.size w w' := by
  have K := (callsIn_wide (n := 3)).1 (c240 g fn c hg hc hnm lb w hs)
  clear hs hg hc hnm
  go_enter Tryz.func193, Tryz.ntmps193
  go_wp2_with (go_at_call 240; refine K.mono ?_; rintro e w2 ⟨rfl, hB⟩)
  go_ret
  exact ⟨rfl, hB⟩
theorem c194 (w : World) : Calls Tryz.prog 194 #[.slice none 0 0] w fun e w' => e = .returned (.tuple #[]) ∧ Below w.heap.size w w' :=
  Go.Ai.ai_closed (by kernel_rfl) (Checked.mixed Tryz.checked) 100 50 194 [.slice none 0 0] (.tuple #[]) rfl (by kernel_rfl) rfl w
theorem c144 (g : FuncId) (fn : Func) (c : Code) (hg : Tryz.prog.funcs[g]? = some fn) (hc : fn.body = some c) (hnm : (fn.name == "runtime.NumGoroutine") = false) (lb : Array Value) (w : World) (hs : ∀ W, Below w.heap.size w W → Still0 g lb W) :
    Calls Tryz.prog 144 #[.func (.func g) #[] lb] w fun e w' => e = .returned (.slice none 0 0) ∧ Below w.heap.size w w' := by
  have K := c193 g fn c hg hc hnm lb w hs
  clear hs hg hc hnm
  go_enter Tryz.func144, Tryz.ntmps144
  go_wp2_with (first
    | (go_at_call 193; refine K.mono ?_; rintro e w2 ⟨rfl, hB⟩)
    | (go_at_call 194; refine (c194 _).mono ?_; rintro e w3 ⟨rfl, hB3⟩))
  go_ret
  exact ⟨rfl, hB.trans (hB3.mono hB.size)⟩
end Go.Proofs.GK
