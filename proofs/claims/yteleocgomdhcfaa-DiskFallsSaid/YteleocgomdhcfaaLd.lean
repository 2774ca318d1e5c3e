/- Proved: what the program's 'Used' comes to. Each theorem says its own conditions. -/
import Derived.Test.YteleocgomdhcfaaLc
import Derived.Maps.RangeRun
set_option linter.unusedVariables false
set_option linter.unusedSimpArgs false
namespace Go.Proofs.DK
open Go.RowKit
variable {G : Nat → Prop} {bd bm : Nat} {es : Array MapEntry} {ck : Nat} {R : List En} {S : Ds} {w W : World}
theorem psum {a b : List Int} (h : a.Perm b) : a.sum = b.sum := by
  induction h with
  | nil => rfl
  | cons x _ ih => simp [ih]
  | swap x y l => simp only [List.sum_cons]; omega
  | trans _ _ h1 h2 => exact h1.trans h2
/-- How many bytes a pointer's file has. -/
def lenAt (R : List En) : Value → Nat
  | .pointer (some a) => ((R.find? fun e => decide (e.b = a.block)).map fun e => e.f.b.length).getD 0
  | _ => 0
theorem lenAt_mem : ∀ {R : List En}, R.Pairwise (fun x y => x.b ≠ y.b) → ∀ e ∈ R, lenAt R (ptr e.b) = e.f.b.length
  | [], _, e, he => by cases he
  | x :: R, h, e, he => by
    obtain ⟨h1, h2⟩ := List.pairwise_cons.1 h
    rcases List.mem_cons.1 he with rfl | he
    · simp [lenAt, ptr]
    · have ih := lenAt_mem h2 e he
      have hne : ¬ x.b = e.b := h1 e he
      simp only [lenAt, ptr, List.find?_cons, hne, decide_false] at ih ⊢
      exact ih
/-- The map's entries with the files' lengths for values. -/
def lens (R : List En) (es : List MapEntry) : List MapEntry := es.map fun x => { x with val := .int .i64 (lenAt R x.val) }
theorem lens_born (R : List En) (es : List MapEntry) : (lens R es).map (·.born) = es.map (·.born) := by simp [lens]
theorem lens_sum (h : Dk G bd bm es ck R S W) : ((lens R es.toList).map fun x => valOf x.val).sum = (used S.fs : Int) := by
  have h1 := psum (h.mp.map fun x : Value × Value => (lenAt R x.2 : Int))
  rw [List.map_map, List.map_map] at h1
  have h2 : (lens R es.toList).map (fun x => valOf x.val) = es.toList.map ((fun x : Value × Value => (lenAt R x.2 : Int)) ∘ fun x => (x.key, x.val)) := by
    unfold lens
    rw [List.map_map]
    rfl
  rw [h2, h1]
  have h3 : R.map ((fun x : Value × Value => (lenAt R x.2 : Int)) ∘ fun e => (Value.string (bs e.f.n), ptr e.b)) = R.map fun e => (e.f.b.length : Int) := by
    refine List.map_congr_left fun e he => ?_
    simp only [Function.comp]
    rw [lenAt_mem (h.apart.imp fun h => h.1) e he]
  rw [h3]
  have h4 := psum (h.perm.map fun f : Fl => (f.b.length : Int))
  rw [List.map_map] at h4
  have h5 : ∀ l : List Fl, (l.map fun f => (f.b.length : Int)).sum = ((l.map fun f => f.b.length).sum : Nat) := fun l => by
    induction l with
    | nil => rfl
    | cons a l ih => simp [ih]
  rw [h5 S.fs] at h4
  exact h4
theorem seen_le : ∀ (l : List MapEntry) (seen : Array Nat), (∀ x ∈ l, 0 ≤ valOf x.val) → 0 ≤ seenSum l seen ∧ seenSum l seen ≤ (l.map fun x => valOf x.val).sum
  | [], _, _ => by simp [seenSum]
  | x :: l, seen, h => by
    have ih := seen_le l seen fun y hy => h y (List.mem_cons_of_mem _ hy)
    have h0 := h x List.mem_cons_self
    simp only [seenSum, List.map_cons, List.sum_cons]
    split <;> omega
set_option maxRecDepth 100000 in
set_option maxHeartbeats 2000000 in
theorem c21 (w : World) (h : D G bd S w) (hU : used S.fs ≤ 1000000) : Calls Try.prog 21 #[ptr bd] w fun e w' => e = .returned (.int .i64 (used S.fs)) ∧ Below w.heap.size w w' := by
  obtain ⟨bm, es, ck, R, h⟩ := h
  obtain ⟨y0, y1, y2, y3, y4, y5, y6, yf⟩ := h.cells
  have hlt := (Array.getElem?_eq_some_iff.1 h.map).1
  have hrg := run_range_map (P := Try.prog) w 54 9 69 bm es ck Try.underlying54 h.map
  have hsum := lens_sum h
  have hpos : ∀ x ∈ lens R es.toList, 0 ≤ valOf x.val := fun x hx => by
    unfold lens at hx
    obtain ⟨y, _, rfl⟩ := List.mem_map.1 hx
    simp [valOf]
  have HH := Lib.hid h; have HS := Lib.hid hsum; have HP := Lib.hid hpos
  have hB0 : Below w.heap.size w (w.alloc (.mapIter (some bm) ck #[] ck)) := (Below.refl _ w).alloc (Nat.le_refl _) _
  have hit0 : (w.alloc (.mapIter (some bm) ck #[] ck)).heap[w.heap.size]? = some (.mapIter (some bm) ck #[] ck) := heap_alloc_new w _
  unfold ptr
  clear h hsum hpos
  go_enter Try.func21, Try.ntmps21
  go_wp2
  go_loopw [3] (fun s wr => ∃ seen : Array Nat, s = .int .i64 (seenSum (lens R es.toList) seen) ∧ wr.heap[w.heap.size]? = some (.mapIter (some bm) ck seen ck) ∧ Below w.heap.size w wr) (fun _ wr => (leftOf es (wr.iterSeen w.heap.size)).size)
  case atStart => exact ⟨#[], by rw [seenSum_none], hit0, hB0⟩
  case round =>
    obtain ⟨seen, rfl, hit, hB⟩ := hrel
    have hb1 := (hB.block bm hlt).trans HH.out.map
    have law := fun ty => run_next_at (P := Try.prog) wr ty w.heap.size bm ck ck seen es ck hit hb1 HH.out.st.1 (Nat.le_refl _)
    have hsl := seen_le (lens R es.toList) seen HP.out
    rw [HS.out] at hsl
    rcases law 0 with ⟨h0, hrun⟩ | ⟨e, he, w1, hw1, hrun⟩
    · have hnx : ∀ ty, (Instr.next (.pointer (some ⟨w.heap.size, 0, none⟩)) false ty).run Try.prog wr = _ := fun _ => hrun
      have hall : seenSum (lens R es.toList) seen = (used S.fs : Int) := by
        rw [seenSum_full, HS.out]
        intro x hx
        unfold lens at hx
        obtain ⟨y, hy, rfl⟩ := List.mem_map.1 hx
        exact all_seen es seen h0 y hy
      have HB := Lib.hid hB
      clear law hB
      rw [hall]
      go_wp2
      go_ret
      exact ⟨rfl, HB.out⟩
    · obtain ⟨en, hen, hk1, hv1⟩ := HH.out.keys e (mem_left he).1
      rw [hk1, hv1] at hrun
      have hnx : ∀ ty, (Instr.next (.pointer (some ⟨w.heap.size, 0, none⟩)) false ty).run Try.prog wr = _ := fun _ => hrun
      obtain ⟨W2, hW2⟩ : ∃ W2, W2 = Go.ChangeMaps.setBlock w1 w.heap.size (.mapIter (some bm) ck (seen.push e.born) ck) := ⟨_, rfl⟩
      have hwh : w1.heap = wr.heap := by rcases hw1 with rfl | rfl <;> rfl
      have hrl : w.heap.size < wr.heap.size := (Array.getElem?_eq_some_iff.1 hit).1
      have hit2 : W2.heap[w.heap.size]? = some (.mapIter (some bm) ck (seen.push e.born) ck) := by
        rw [hW2]
        show (w1.heap.setIfInBounds _ _)[_]? = _
        rw [hwh, Array.getElem?_setIfInBounds, if_pos rfl, if_pos hrl]
      have hkeep2 : ∀ b, b ≠ w.heap.size → W2.heap[b]? = wr.heap[b]? := fun b hb => by
        rw [hW2]
        show (w1.heap.setIfInBounds _ _)[_]? = _
        rw [hwh, Array.getElem?_setIfInBounds, if_neg (fun e => hb e.symm)]
      have hsz2 : W2.heap.size = wr.heap.size := by
        rw [hW2]
        show (w1.heap.setIfInBounds _ _).size = _
        rw [Array.size_setIfInBounds, hwh]
      have hB2 : Below w.heap.size w W2 := by
        refine ⟨?_, ?_, ?_, by rw [hsz2]; exact hB.size, fun b hb => (hkeep2 b (by omega)).trans (hB.block b hb)⟩
        · rw [hW2]; rcases hw1 with rfl | rfl <;> exact hB.os
        · rw [hW2]; rcases hw1 with rfl | rfl <;> exact hB.tape
        · rw [hW2]; rcases hw1 with rfl | rfl <;> exact hB.output
      have hb2 := (hB2.block bm hlt).trans HH.out.map
      have hent := run_entry_at (P := Try.prog) W2 w.heap.size bm ck seen es ck e hit2 hb2 (mem_left he).1 HH.out.st.2.1
      rw [hk1, hv1] at hent
      rw [← hW2] at hnx
      obtain ⟨_, hc1, hbr, _⟩ := HH.out.ent en hen
      obtain ⟨pv, cv, hsv, _⟩ := hbr.form
      have hcl := (Array.getElem?_eq_some_iff.1 hc1).1
      have z0 := (hB2.cell (p := ⟨en.b, 0, none⟩) hcl).trans (cellof hc1 0)
      simp only [List.getElem?_toArray, List.getElem?_cons_zero] at z0
      rw [hsv] at z0
      have hpush : seenSum (lens R es.toList) (seen.push e.born) = seenSum (lens R es.toList) seen + (en.f.b.length : Int) := by
        have h1 := seenSum_push seen { e with val := .int .i64 (lenAt R e.val) } (mem_left he).2 (lens R es.toList) (by rw [lens_born]; exact HH.out.st.2.1) (List.mem_map.2 ⟨e, (mem_left he).1, rfl⟩)
        rw [hv1, lenAt_mem (HH.out.apart.imp fun h => h.1) en hen] at h1
        simpa [valOf] using h1
      have hsl2 := seen_le (lens R es.toList) (seen.push e.born) HP.out
      rw [HS.out, hpush] at hsl2
      have HB2 := Lib.hid hB2; have HIT2 := Lib.hid hit2; have HPU := Lib.hid hpush; have HE := Lib.hid he
      have HIT := Lib.hid hit
      unfold ptr at hnx hent
      clear law hB hB2 hit hit2 hkeep2 hW2 hrun hw1 hwh hpush he hb1 hb2 hbr hc1 hsv hk1 hv1
      generalize seenSum (lens R es.toList) seen = ss at *
      go_wp2
      go_roundw
      case rel => exact ⟨seen.push e.born, by rw [HPU.out], HIT2.out, HB2.out⟩
      case measure =>
        unfold World.iterSeen
        rw [HIT.out, HIT2.out]
        exact left_shrinks es seen e HE.out
end Go.Proofs.DK
