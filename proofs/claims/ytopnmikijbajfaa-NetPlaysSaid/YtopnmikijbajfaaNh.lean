/- Proved: what slices.Delete of one mail comes to. Each theorem says its own conditions. -/
import Derived.Test.YtopnmikijbajfaaNg
set_option linter.unusedVariables false
set_option linter.unusedSimpArgs false
namespace Go.Proofs.NT
open Go.RowKit Go.Ai
def DelOut (g n c i : Nat) (cur : Array Value) (w : World) (e : Ending) (w' : World) : Prop :=
  e = .returned (.slice (some ⟨g, 0, none⟩) (n - 1) c) ∧ Turn (fun b => b = g) w w' ∧ ∃ cur' : Array Value, w'.heap[g]? = some (.cells cur' 39 (0, 0)) ∧ cur'.size = cur.size ∧ ∀ j, j < (n - 1) * 3 → cur'[j]? = if j < i * 3 then cur[j]? else cur[j + 3]?
theorem turn_sets (g : Nat) : ∀ (vs : List Value) (o : Nat) (w : World), Turn (fun b => b = g) w (w.setCells g o vs) := fun vs o w =>
  ⟨(setCells_rest g vs o w).1, (setCells_rest g vs o w).2.1, (setCells_rest g vs o w).2.2, by rw [setCells_size]; exact Nat.le_refl _, fun b _ hn => heap_setCells_other g vs o w b hn⟩
/-- The last three cells cleared. -/
theorem del_end {g n c i : Nat} {cur : Array Value} {w W1 : World} {cur1 : Array Value} {x y z : Value} (hi : i < n) (hn : n ≤ c) (hc : cur.size = c * 3) (hT : Turn (fun b => b = g) w W1) (h1 : W1.heap[g]? = some (.cells cur1 39 (0, 0))) (hs : cur1.size = cur.size)
    (hj : ∀ j, j < (n - 1) * 3 → cur1[j]? = if j < i * 3 then cur[j]? else cur[j + 3]?) :
    DelOut g n c i cur w (.returned (.slice (some ⟨g, 0, none⟩) (n - 1) c)) (((W1.setCell ⟨g, (n - 1) * 3, none⟩ x).setCell ⟨g, (n - 1) * 3 + 1, none⟩ y).setCell ⟨g, (n - 1) * 3 + 2, none⟩ z) := by
  refine ⟨rfl, ?_, ?_⟩
  · refine Turn.trans (F' := fun b => b = g) hT ?_ (fun b _ h => h)
    exact Turn.trans (F' := fun b => b = g) (Turn.trans (F' := fun b => b = g) (Turn.set _ _ _ rfl) (Turn.set _ _ _ rfl) (fun b _ h => h)) (Turn.set _ _ _ rfl) (fun b _ h => h)
  · refine ⟨_, heap_setCell (heap_setCell (heap_setCell h1 _ _) _ _) _ _, by simp [hs], fun j hj' => ?_⟩
    rw [Array.getElem?_setIfInBounds, if_neg (by omega), Array.getElem?_setIfInBounds, if_neg (by omega), Array.getElem?_setIfInBounds, if_neg (by omega)]
    exact hj j hj'
theorem zero39 (w : World) : (zeroValue 39).run Try.prog w = .ok (.agg #[.int .u32 0, .int .u32 0, .slice none 0 0]) w := by
  obtain ⟨i0, hi0, hz0, _⟩ := info_parts info39
  exact run_zero' (by rw [hi0]; exact hz0) w
theorem run_clear3 (W : World) (g o c : Nat) (hc : ∀ j, j < 3 → (W.cell? ⟨g, o + j, none⟩).isSome = true) (hf : ∀ j, j < 3 → W.frozen? ⟨g, o + j, none⟩ = false) :
    (Builtin.clear_ #[35] 0 #[.slice (some ⟨g, o, none⟩) 1 c]).run Try.prog W = .ok (.tuple #[]) (W.setCells g o [.int .u32 0, .int .u32 0, .slice none 0 0]) := by
  have hzc : (Builtin.zeroCells (Value.cells (.agg #[.int .u32 0, .int .u32 0, .slice none 0 0])) 1).toList = [.int .u32 0, .int .u32 0, .slice none 0 0] := by kernel_rfl
  have hst := run_storeCells_cells (P := Try.prog) g o [.int .u32 0, .int .u32 0, .slice none 0 0] 0 W (by simpa using hc) (by simpa using hf) (by simp [Value.oneCell'])
  simp only [Nat.add_zero] at hst
  simp [Builtin.clear_, run_underlying Try.underlying35, zero39, hzc, hst]
set_option maxRecDepth 100000 in
set_option maxHeartbeats 4000000 in
theorem c21l (g n c : Nat) (cur : Array Value) (w : World) (h : w.heap[g]? = some (.cells cur 39 (0, 0))) (hn : n + 1 ≤ c) (hc : cur.size = c * 3) (hn2 : n < 512) :
    Calls Try.prog 21 #[.slice (some ⟨g, 0, none⟩) (n + 1) c, .int .i64 n, .int .i64 ((n : Int) + 1)] w (DelOut g (n + 1) c n cur w) := by
  obtain ⟨i0, hi0, hz0, hz1, hz2⟩ := info_parts info39
  have hcell : ∀ j, j < c * 3 → ∃ v, w.cell? ⟨g, j, none⟩ = some v := fun j hj => ⟨cur[j]'(by omega), by rw [cell_of_heap h]; simp [hc, hj]⟩
  obtain ⟨v0, x0⟩ := hcell (n * 3) (by omega)
  obtain ⟨v1, x1⟩ := hcell (n * 3 + 1) (by omega)
  obtain ⟨v2, x2⟩ := hcell (n * 3 + 2) (by omega)
  have hf : ∀ j, w.frozen? ⟨g, j, none⟩ = false := fun j => by simp [World.frozen?, h]
  have f0 := hf (n * 3)
  have f1 := hf (n * 3 + 1)
  have f2 := hf (n * 3 + 2)
  have H := Lib.hid h
  have e1 : ¬ ((n : Int) = (n : Int) + 1) := by omega
  have e2 : ¬ (n + 1 = n) := by omega
  have e3 : ¬ (n = n + 1) := by omega
  have hclr := fun c' => run_clear3 w.drew g (n * 3) c' (fun j hj => by obtain ⟨v, hv⟩ := hcell (n * 3 + j) (by omega); show (w.cell? _).isSome = true; rw [hv]; rfl) (fun j _ => hf _)
  clear h hcell hf
  have hjj : ∀ j, j < (n + 1 - 1) * 3 → cur[j]? = if j < n * 3 then cur[j]? else cur[j + 3]? := fun j hj => by rw [if_pos (by omega)]
  have a1 : n ≤ c := by omega
  have a2 : (n : Int) ≤ (n : Int) + 1 := by omega
  have a3 : n ≤ n + 1 := by omega
  have a4 : (0 : Int) ≤ (n : Int) + 1 := by omega
  by_cases hcn : c = n + 1
  · subst hcn
    go_enter Try.func21, Try.ntmps21
    go_wp2
    go_region_law (fail)
    go_wp2
    go_ret
    exact del_end (by omega) hn hc (Turn.of (Below.refl _ w).drew) H.out rfl hjj
  · have hcn2 : ¬ (n + 1 = c) := by omega
    go_enter Try.func21, Try.ntmps21
    go_wp2
    go_region_law (fail)
    go_wp2
    go_ret
    exact del_end (by omega) hn hc (Turn.of (Below.refl _ w).drew) H.out rfl hjj
set_option maxRecDepth 100000 in
set_option maxHeartbeats 4000000 in
theorem c21m (g n c i : Nat) (cur : Array Value) (w : World) (h : w.heap[g]? = some (.cells cur 39 (0, 0))) (hn : n + 1 ≤ c) (hi : i < n) (hc : cur.size = c * 3) (hn2 : n < 512) (hp : ∀ (j : Nat) (v : Value), j < (n + 1) * 3 → cur[j]? = some v → v.oneCell' = true) :
    Calls Try.prog 21 #[.slice (some ⟨g, 0, none⟩) (n + 1) c, .int .i64 i, .int .i64 ((i : Int) + 1)] w (DelOut g (n + 1) c i cur w) := by
  obtain ⟨i0, hi0, hz0, hz1, hz2⟩ := info_parts info39
  have hcell : ∀ j, j < c * 3 → ∃ v, w.cell? ⟨g, j, none⟩ = some v := fun j hj => ⟨cur[j]'(by omega), by rw [cell_of_heap h]; simp [hc, hj]⟩
  have hf : ∀ j, w.frozen? ⟨g, j, none⟩ = false := fun j => by simp [World.frozen?, h]
  have H := Lib.hid h
  have HC := Lib.hid hcell
  have HF := Lib.hid hf
  have hne : ¬ (c = i + 1) := by omega
  have hne2 : ¬ (i + 1 = c) := by omega
  have hl : ((cur.toList.drop ((i + 1) * 3)).take ((n - i) * 3)).length = (n - i) * 3 := by rw [List.length_take, List.length_drop, Array.length_toList, hc]; omega
  have hnews : ∀ (j : Nat) (u : Value), ((cur.toList.drop ((i + 1) * 3)).take ((n - i) * 3))[j]? = some u → w.drew.cell? ((⟨g, (i + 1) * 3, none⟩ : Addr).add j) = some u := fun j u hu => by
    have hj := (List.getElem?_eq_some_iff.1 hu).1
    rw [hl] at hj
    rw [List.getElem?_take, if_pos hj, List.getElem?_drop, Array.getElem?_toList] at hu
    rw [Addr.add_lit]
    show w.cell? _ = _
    rw [cell_of_heap h, hu]
  have hone : ∀ u ∈ (cur.toList.drop ((i + 1) * 3)).take ((n - i) * 3), u.oneCell' = true := fun u hu => by
    obtain ⟨j, hj⟩ := List.getElem?_of_mem hu
    have hl' := (List.getElem?_eq_some_iff.1 hj).1
    rw [hl] at hl'
    rw [List.getElem?_take, if_pos hl', List.getElem?_drop, Array.getElem?_toList] at hj
    exact hp _ u (by omega) hj
  obtain ⟨cur1, k1, k2, k3⟩ := heap_setCells g ((cur.toList.drop ((i + 1) * 3)).take ((n - i) * 3)) (i * 3) w.drew cur 39 (0, 0) h
  have hT := Turn.trans (F' := fun b => b = g) (Turn.of ((Below.refl w.heap.size w).drew)) (turn_sets g ((cur.toList.drop ((i + 1) * 3)).take ((n - i) * 3)) (i * 3) w.drew) (fun b _ h => h)
  have hj : ∀ j, j < (n + 1 - 1) * 3 → cur1[j]? = if j < i * 3 then cur[j]? else cur[j + 3]? := fun j hj => by
    rw [k3, hl]
    by_cases h1 : j < i * 3
    · rw [if_neg (by omega), if_pos h1]
    · rw [if_pos (by omega), if_neg h1, List.getElem?_take, if_pos (by omega), List.getElem?_drop, Array.getElem?_toList]
      congr 1; omega
  have HL := Lib.hid hl; have HN := Lib.hid hnews; have HO := Lib.hid hone
  clear hl hnews hone k3 h hcell hf
  generalize hNEW : (cur.toList.drop ((i + 1) * 3)).take ((n - i) * 3) = news at *
  have hs1 : ∀ j, j < c * 3 → ∃ v, (w.drew.setCells g (i * 3) news).cell? ⟨g, j, none⟩ = some v := fun j hj => ⟨cur1[j]'(by omega), by rw [cell_of_heap k1]; simp [k2, hc, hj]⟩
  obtain ⟨v0, x0⟩ := hs1 (n * 3) (by omega)
  obtain ⟨v1, x1⟩ := hs1 (n * 3 + 1) (by omega)
  obtain ⟨v2, x2⟩ := hs1 (n * 3 + 2) (by omega)
  have hf1 : ∀ j, (w.drew.setCells g (i * 3) news).frozen? ⟨g, j, none⟩ = false := fun j => by simp [World.frozen?, k1]
  have hclr := fun c' => run_clear3 (w.drew.setCells g (i * 3) news) g (n * 3) c' (fun j hj => by obtain ⟨v, hv⟩ := hs1 (n * 3 + j) (by omega); rw [hv]; rfl) (fun j _ => hf1 _)
  have f0 := hf1 (n * 3)
  have f1 := hf1 (n * 3 + 1)
  have f2 := hf1 (n * 3 + 2)
  have K1 := Lib.hid k1; have K2 := Lib.hid k2; have HT := Lib.hid hT; have HJ := Lib.hid hj
  have e5 : (i : Int) + ((n : Int) - (i : Int)) = (n : Int) := by omega
  have e6 : i + (n + 1 - (i + 1)) = n := by omega
  have a1 : i ≤ c := by omega
  have a2 : i + 1 ≤ c := by omega
  have a3 : i ≤ n + 1 := by omega
  have a4 : i + 1 ≤ n + 1 := by omega
  have a5 : i ≤ n := by omega
  have a6 : n ≤ c := by omega
  have a7 : n ≤ n + 1 := by omega
  have a8 : (0 : Int) ≤ (i : Int) + 1 := by omega
  have a9 : (i : Int) + 1 ≤ (n : Int) + 1 := by omega
  have e7 : i + (n - i) = n := by omega
  have hsp : ∀ j, j < news.length → (w.drew.cell? ⟨g, 0 + i * 3 + j, none⟩).isSome = true ∧ w.drew.frozen? ⟨g, 0 + i * 3 + j, none⟩ = false := fun j hj => by
    rw [HL.out] at hj
    obtain ⟨v, hv⟩ := HC.out (0 + i * 3 + j) (by omega)
    exact ⟨by show (w.cell? _).isSome = true; rw [hv]; rfl, HF.out _⟩
  have HSP := Lib.hid hsp
  clear hsp
  have a10 : (n : Int) ≤ (n : Int) + 1 := by omega
  clear hs1 hf1 k1 k2 hT hj hNEW hp
  go_enter Try.func21, Try.ntmps21
  go_wp2
  go_region_law (refine step_append_room rfl _ _ 35 rfl 39 i0 3 Try.underlying35 hi0 hz1 g 0 i c rfl ⟨g, (i + 1) * 3, none⟩ (n - i) _ news (by rfl) (by rw [HL.out]) HN.out HO.out (by omega) (fun j hj => HSP.out j hj) ?_; rw [e7, Nat.zero_add])
  go_wp2
  go_ret
  exact del_end (by omega) hn hc HT.out K1.out K2.out HJ.out
end Go.Proofs.NT
