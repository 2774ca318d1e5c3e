/- Proved: the document's list in memory, and what its 'Cut' and 'Set' come to. Each theorem says its own conditions. -/
import Derived.Test.YtccmlmepcgcojaaDp
set_option linter.unusedVariables false
set_option linter.unusedSimpArgs false
namespace Go.Proofs.DU
open Go.RowKit
def rcell (m : Int × Int) : List Value := [.int .u64 m.1, .int .u64 m.2]
def rcells (L : List (Int × Int)) : List Value := L.flatMap rcell
theorem rcells_len : ∀ L : List (Int × Int), (rcells L).length = L.length * 2
  | [] => rfl
  | m :: r => by
    have := rcells_len r
    simp only [rcells, List.flatMap_cons, List.length_append, List.length_cons] at *
    rw [this]; simp [rcell]; omega
theorem rcells_snoc (L : List (Int × Int)) (m : Int × Int) : rcells (L ++ [m]) = rcells L ++ rcell m := by simp [rcells]
theorem rcells_get : ∀ (L : List (Int × Int)) (i : Nat) (m : Int × Int), L[i]? = some m → ∀ (j : Nat) (x : Value), (rcell m)[j]? = some x → (rcells L)[i * 2 + j]? = some x
  | [], i, m, h, j, x, hx => by simp at h
  | a :: r, 0, m, h, j, x, hx => by
    simp at h; subst h
    have hj : j < 2 := (List.getElem?_eq_some_iff.1 hx).1
    show (rcell a ++ r.flatMap rcell)[0 * 2 + j]? = some x
    rw [List.getElem?_append_left (by simp [rcell]; omega)]
    simpa using hx
  | a :: r, i + 1, m, h, j, x, hx => by
    have := rcells_get r i m (by simpa using h) j x hx
    show (rcell a ++ r.flatMap rcell)[(i + 1) * 2 + j]? = some x
    rw [List.getElem?_append_right (by simp [rcell]; omega), ← this]
    show _ = (rcells r)[i * 2 + j]?
    congr 1
    simp [rcell]; omega
def RefAt (N : Nat) (W : World) (v : Value) (L : List (Int × Int)) : Prop := W.ownsRow N 43 2 v L.length (rcells L)
theorem RefAt.get {N : Nat} {W : World} {v : Value} {L : List (Int × Int)} {i : Nat} {m : Int × Int} (h : RefAt N W v L) (e : L[i]? = some m) : ∃ g c, v = .slice (some ⟨g, 0, none⟩) L.length c ∧ N ≤ g ∧ g < W.heap.size ∧ W.cell? ⟨g, i * 2, none⟩ = some (.int .u64 m.1) ∧ W.cell? ⟨g, i * 2 + 1, none⟩ = some (.int .u64 m.2) := by
  have hi := (List.getElem?_eq_some_iff.1 e).1
  have h' := h
  rcases h.2 with ⟨rfl, e0⟩ | ⟨g, cap, cur, rfl, hg, hh, _⟩
  · omega
  · have hc : ∀ (j : Nat) (x : Value), (rcell m)[j]? = some x → W.cell? ⟨g, i * 2 + j, none⟩ = some x := fun j x hx => by
      have := World.ownsRow.cells h' (g := g) rfl (i * 2 + j) x (rcells_get L i m e j x hx)
      rw [Addr.add_lit, Nat.zero_add] at this
      exact this
    exact ⟨g, cap, rfl, hg, (Array.getElem?_eq_some_iff.1 hh).1, hc 0 _ rfl, hc 1 _ rfl⟩
theorem info43 : (Try.prog.info? 43).map (fun i => (i.zero, i.size, i.bytes)) = some (some (.agg #[.int .u64 0, .int .u64 0]), 2, 16) := by kernel_rfl
theorem own_empty (w : World) (N : Nat) (hN : N ≤ w.heap.size) : (w.alloc (.cells #[] 43)).ownsRow N 43 2 (.slice (some ⟨w.heap.size, 0, none⟩) 0 0) 0 [] :=
  ⟨rfl, .inr ⟨w.heap.size, 0, #[], rfl, hN, heap_alloc_new w _, Nat.le_refl _, Nat.zero_le _, rfl, rfl⟩⟩
theorem RefAt.snoc {w wr w4 : World} {o : Value} {A : List (Int × Int)} {m : Int × Int} {g cap : Nat} (hB : Below w.heap.size w wr) (h : RefAt w.heap.size wr o A) (hown : w4.ownsRow w.heap.size 43 2 (.slice (some ⟨g, 0, none⟩) (A.length + 1) cap) (A.length + 1) (rcells A ++ rcell m)) (hg : (wr.alloc (.cells (rcell m).toArray 43)).grownBy w4 o.ownBlock) :
    RefAt w.heap.size w4 (.slice (some ⟨g, 0, none⟩) (A.length + 1) cap) (A ++ [m]) ∧ Below w.heap.size w w4 := by
  refine ⟨?_, (hB.alloc hB.size _).grown hg (by have := hB.size; simp; omega) fun k e => (World.ownsRow.lt h k e).1⟩
  unfold RefAt
  rw [rcells_snoc, List.length_append]
  exact hown
theorem take_succ {L : List (Int × Int)} {k : Nat} {m : Int × Int} (h : L[k]? = some m) : L.take (k + 1) = L.take k ++ [m] := by
  rw [List.take_add_one, h]; rfl
theorem cut_snoc (A : List (Int × Int)) (m : Int × Int) (z : Int) : cutL (A ++ [m]) z = cutL A z ++ if m.1 = z then [] else [m] := by
  unfold cutL
  rw [List.filter_append]
  congr 1
  by_cases h : m.1 = z
  · simp [h]
  · simp [h]
def RCutOut (L : List (Int × Int)) (z : Int) (w : World) (e : Ending) (w' : World) : Prop := ∃ v', e = .returned (.tuple #[v', .bool (decide ((cutL L z).length < L.length))]) ∧ RefAt w.heap.size w' v' (cutL L z) ∧ Below w.heap.size w w'
set_option maxRecDepth 100000 in
set_option maxHeartbeats 4000000 in
theorem c22 (v : Value) (L : List (Int × Int)) (N : Nat) (z : Int) (w : World) (h : RefAt N w v L) (hL : L.length < 3000) : Calls Try.prog 22 #[v, .int .u64 z] w (RCutOut L z w) := by
  obtain ⟨i0, hi0, hz0, hz1, hz2⟩ := info_parts info43
  have HG := Lib.hid (fun (i : Nat) (m : Int × Int) (e : L[i]? = some m) => h.get e)
  have hv := own_slice h
  obtain ⟨p, c, rfl⟩ := hv
  have hown0 := own_empty w w.heap.size (Nat.le_refl _)
  have hB0 : Below w.heap.size w (w.alloc (.cells #[] 43)) := (Below.refl _ w).alloc (Nat.le_refl _) _
  clear h
  generalize hN : L.length = n at *
  have HN := Lib.hid hN
  clear hN
  go_enter Try.func22, Try.ntmps22
  go_wp2
  go_loopw [6, 11] (fun o i wr => ∃ k : Nat, i = .int .i64 k ∧ k ≤ n ∧ RefAt w.heap.size wr o (cutL (L.take k) z) ∧ Below w.heap.size w wr) (fun _ i _ => n - (intOf i).toNat)
  case atStart => exact ⟨0, rfl, Nat.zero_le _, hown0, hB0⟩
  case round =>
    obtain ⟨k, rfl, hk, hr, hB⟩ := hrel
    obtain ⟨po, co, rfl⟩ := own_slice hr
    by_cases hlt : k < n
    · obtain ⟨m, hm⟩ : ∃ m, L[k]? = some m := ⟨_, List.getElem?_eq_getElem (by rw [HN.out]; exact hlt)⟩
      have htk : L.take (k + 1) = L.take k ++ [m] := take_succ hm
      have hws := cut_snoc (L.take k) m z
      rw [← htk] at hws
      have hwl : (cutL (L.take k) z).length ≤ k := by
        have h1 := List.length_filter_le (fun x : Int × Int => !decide (x.1 = z)) (L.take k)
        have h2 : (L.take k).length ≤ k := by rw [List.length_take]; omega
        unfold cutL
        omega
      obtain ⟨g, c', hv, hgN, hgl, y0, y1⟩ := HG.out k m hm
      cases hv
      have y0 := ((bcell hB).1 _ _ hgl).trans y0
      have y1 := ((bcell hB).1 _ _ hgl).trans y1
      have HR := Lib.hid hr; have HB := Lib.hid hB; have HW := Lib.hid hws
      obtain ⟨ma, mb⟩ := m
      simp only at y0 y1
      have hown := HR.out
      unfold RefAt at hown
      have hsz := HB.out.size
      clear hr hB hws hm htk
      generalize hA : cutL (L.take k) z = A at *
      generalize hAL : A.length = al at *
      by_cases ha : ma = z
      · have hd : decide (ma = z) = true := by simp [ha]
        go_wp2
        go_roundw
        case rel =>
          refine ⟨k + 1, by go_num, by omega, ?_, HB.out⟩
          rw [HW.out, if_pos ha, List.append_nil]
          subst hAL
          exact HR.out
        case measure => simp [intOf]; omega
      · have hd : decide (ma = z) = false := by simp [ha]
        have hd4 : (ma != z) = true := by simp [ha]
        go_wp2_with (at_builtin; refine wpList_append_lies _ (by rfl) _ _ 33 (by rfl) w.heap.size 43 i0 _ 2 16 Try.underlying33 hi0 hz0 hz1 hz2 rfl (by omega) _ al (rcells A) (by rfl) (World.ownsRow.alloc hown _) ⟨wr.heap.size, 0, none⟩ 1 1 [.int .u64 ma, .int .u64 mb] (by rfl) (by rfl) (World.news_of_block (cs := #[.int .u64 ma, .int .u64 mb]) (t := 43) (fr := (0, 0)) (heap_alloc_new wr _)) (by simp [Value.oneCell']) (by omega) (by unfold maxLen; omega) (by omega) (by simp; omega) (wr.heap.size + 1) (by simp) ?_; intro gg cap w4 hown4 hgrow hat hlt4; have HO4 := Lib.hid hown4; have HG4 := Lib.hid hgrow; clear hown4 hgrow)
        go_roundw
        case rel =>
          have hr := HR.out
          subst hAL
          obtain ⟨r1, r2⟩ := RefAt.snoc (m := (ma, mb)) HB.out hr HO4.out HG4.out
          refine ⟨k + 1, by go_num, by omega, ?_, r2⟩
          rw [HW.out, if_neg ha]
          exact r1
        case measure => simp [intOf]; omega
    · have hkn : k = n := by omega
      subst hkn
      have hall : L.take k = L := List.take_of_length_le (by rw [HN.out]; exact Nat.le_refl _)
      rw [hall] at hr ⊢
      have HR := Lib.hid hr
      have HNN := HN.out
      clear hall hr
      generalize hA : cutL L z = A at *
      go_wp2
      refine bodyPost_ret (v := .tuple #[.slice po A.length co, .bool (decide (A.length < k))]) (by simp [results, Try.results22, go_sem]) rfl ⟨_, by rw [hA, HNN], by rw [hA]; exact HR.out, hB⟩
end Go.Proofs.DU
