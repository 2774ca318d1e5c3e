/- Proved: what slices.IndexFunc and slices.DeleteFunc at an end's mails come to. Each theorem says its own conditions. -/
import Derived.Test.YtopnmikijbajfaaNq
set_option linter.unusedVariables false
set_option linter.unusedSimpArgs false
namespace Go.Proofs.NT
open Go.RowKit Go.Ai
set_option maxHeartbeats 1000000 in
theorem c26 (a b z : Int) (p : Option Addr) (l c eb : Nat) (w : World) (heb : eb < w.heap.size) (h : w.cell? ⟨eb, 0, none⟩ = some (.int .u32 z)) :
    Calls Try.prog 26 #[.agg #[.int .u32 a, .int .u32 b, .slice p l c], .pointer (some ⟨eb, 0, none⟩)] w fun e w' => e = .returned (.bool (!keepM z ⟨a, b, []⟩)) ∧ Below w.heap.size w w' := by
  have hB : Below w.heap.size w (w.alloc (.cells #[.int .u32 a, .int .u32 b, .slice p l c] 39)) := (Below.refl _ w).alloc (Nat.le_refl _) _
  have h' := (hB.cell (p := ⟨eb, 0, none⟩) heb).trans h
  by_cases ha : a = z
  · have hd : decide (a = z) = true := by simp [ha]
    have hr : (!keepM z ⟨a, b, []⟩) = true := by simp [keepM, ha]
    rw [hr]
    go_enter Try.func26, Try.ntmps26
    go_wp2
    go_ret
    exact ⟨rfl, (Below.refl _ w).alloc (Nat.le_refl _) _⟩
  · have hd : decide (a = z) = false := by simp [ha]
    have hd3 : (a == z) = false := by simp [ha]
    by_cases hb : b = z
    · have hd2 : decide (b = z) = true := by simp [hb]
      have hr : (!keepM z ⟨a, b, []⟩) = true := by simp [keepM, hb]
      rw [hr]
      go_enter Try.func26, Try.ntmps26
      go_wp2
      go_ret
      exact ⟨rfl, (Below.refl _ w).alloc (Nat.le_refl _) _⟩
    · have hd2 : decide (b = z) = false := by simp [hb]
      have hd4 : (b == z) = false := by simp [hb]
      have hr : (!keepM z ⟨a, b, []⟩) = false := by simp [keepM, ha, hb]
      rw [hr]
      go_enter Try.func26, Try.ntmps26
      go_wp2
      go_ret
      exact ⟨rfl, (Below.refl _ w).alloc (Nat.le_refl _) _⟩
theorem w64 (n : Int) (h : -9223372036854775808 ≤ n ∧ n ≤ 9223372036854775807) : wrap64 n = n := by unfold wrap64; omega
theorem keep_bytes (z : Int) (a b : Int) (s : List UInt8) : keepM z ⟨a, b, s⟩ = keepM z ⟨a, b, []⟩ := rfl
abbrev hitF (eb : Nat) : Value := .func (.func 26) #[] #[.pointer (some ⟨eb, 0, none⟩)]
/-- The cells of a row of mails. -/
def MCells (W : World) (p : Option Addr) (L : List Ml) : Prop := ∀ (i : Nat) (m : Ml), L[i]? = some m → ∃ g pl pc, p = some ⟨g, 0, none⟩ ∧ g < W.heap.size ∧ W.cell? ⟨g, i * 3, none⟩ = some (.int .u32 m.a) ∧ W.cell? ⟨g, i * 3 + 1, none⟩ = some (.int .u32 m.b) ∧ W.cell? ⟨g, i * 3 + 2, none⟩ = some (.slice pl m.s.length pc)
def IdxOut (z : Int) (L : List Ml) (w : World) (e : Ending) (w' : World) : Prop := Below w.heap.size w w' ∧ ((e = .returned (.int .i64 (-1)) ∧ ∀ m ∈ L, keepM z m = true) ∨ ∃ k m, L[k]? = some m ∧ keepM z m = false ∧ (∀ m ∈ L.take k, keepM z m = true) ∧ e = .returned (.int .i64 (k : Nat)))
set_option maxRecDepth 100000 in
set_option maxHeartbeats 4000000 in
theorem c28 (p : Option Addr) (c eb : Nat) (z : Int) (L : List Ml) (w : World) (hL : L.length ≤ 512) (hM : MCells w p L) (heb : eb < w.heap.size) (h : w.cell? ⟨eb, 0, none⟩ = some (.int .u32 z)) :
    Calls Try.prog 28 #[.slice p L.length c, hitF eb] w (IdxOut z L w) := by
  have HM := Lib.hid hM
  clear hM
  generalize hN : L.length = n at *
  have HN := Lib.hid hN
  clear hN
  go_enter Try.func28, Try.ntmps28
  go_wp2
  go_loopw [8] (fun i wr => ∃ k : Nat, i = .int .i64 k ∧ k ≤ n ∧ (∀ m ∈ L.take k, keepM z m = true) ∧ Below w.heap.size w wr) (fun i _ => n - (intOf i).toNat)
  case atStart => exact ⟨0, rfl, Nat.zero_le _, fun m hm => by simp at hm, Below.refl _ _⟩
  case round =>
    obtain ⟨k, rfl, hk, hall, hB⟩ := hrel
    have HA := Lib.hid hall
    clear hall
    by_cases hlt : k < n
    · obtain ⟨m, hm⟩ : ∃ m, L[k]? = some m := ⟨_, List.getElem?_eq_getElem (by rw [HN.out]; exact hlt)⟩
      obtain ⟨g, pl, pc, rfl, hg, y0, y1, y2⟩ := HM.out k m hm
      have y0 := ((bcell hB).1 _ _ hg).trans y0
      have y1 := ((bcell hB).1 _ _ hg).trans y1
      have y2 := ((bcell hB).1 _ _ hg).trans y2
      have K26 := c26 m.a m.b z pl m.s.length pc eb wr (Nat.lt_of_lt_of_le heb hB.size) (((bcell hB).1 _ _ heb).trans h)
      have htk := take_succ hm
      have HMM := Lib.hid hm
      have hke := keep_bytes z m.a m.b m.s
      have HB := Lib.hid hB
      clear hm hB
      obtain ⟨ma, mb, ms⟩ := m
      simp only at *
      generalize hKV : keepM z ⟨ma, mb, []⟩ = kv at K26 hke
      have HTK := Lib.hid htk
      clear htk
      cases kv with
      | true =>
        simp only [Bool.not_true] at K26
        go_wp2_with (go_at_call 26; refine K26.mono ?_; rintro e w2 ⟨rfl, hB2⟩)
        go_roundw
        case rel =>
          refine ⟨k + 1, by go_num, by omega, fun m hm => ?_, btrans HB.out hB2⟩
          rw [HTK.out] at hm
          rcases List.mem_append.1 hm with hm | hm
          · exact HA.out m hm
          · simp at hm; subst hm; exact hke
        case measure => simp [intOf]; omega
      | false =>
        simp only [Bool.not_false] at K26
        go_wp2_with (go_at_call 26; refine K26.mono ?_; rintro e w2 ⟨rfl, hB2⟩)
        go_ret
        exact ⟨btrans HB.out hB2, .inr ⟨k, _, HMM.out, hke, HA.out, rfl⟩⟩
    · have hkn : k = n := by omega
      subst hkn
      go_wp2
      go_ret
      refine ⟨hB, .inl ⟨rfl, fun m hm => HA.out m ?_⟩⟩
      rw [List.take_of_length_le (by rw [HN.out]; exact Nat.le_refl _)]
      exact hm
def zs3 (m : Nat) : List Value := (Builtin.zeroCells #[.int .u32 0, .int .u32 0, .slice none 0 0] m).toList
theorem zs3_len (m : Nat) : (zs3 m).length = m * 3 := by simp [zs3, Builtin.zeroCells]
theorem zs3_one (m : Nat) : ∀ v ∈ zs3 m, v.oneCell' = true := by
  intro v hv
  simp only [zs3, Builtin.zeroCells, Array.toList_map, List.mem_map] at hv
  obtain ⟨i, _, rfl⟩ := hv
  have h3 : i % 3 = 0 ∨ i % 3 = 1 ∨ i % 3 = 2 := by omega
  simp only [List.size_toArray, List.length_cons, List.length_nil]
  rcases h3 with h | h | h <;> rw [h] <;> rfl
theorem run_clearN (W : World) (g o m c : Nat) (hm : 0 < m) (hc : ∀ j, j < m * 3 → (W.cell? ⟨g, o + j, none⟩).isSome = true) (hf : ∀ j, j < m * 3 → W.frozen? ⟨g, o + j, none⟩ = false) :
    (Builtin.clear_ #[35] 0 #[.slice (some ⟨g, o, none⟩) m c]).run Try.prog W = .ok (.tuple #[]) (W.setCells g o (zs3 m)) := by
  have hst := run_storeCells_cells (P := Try.prog) g o (zs3 m) 0 W (by rw [zs3_len]; simpa using hc) (by rw [zs3_len]; simpa using hf) (zs3_one m)
  simp only [Nat.add_zero] at hst
  obtain ⟨k, rfl⟩ : ∃ k, m = k + 1 := ⟨m - 1, by omega⟩
  have hzc : (Builtin.zeroCells (Value.cells (.agg #[.int .u32 0, .int .u32 0, .slice none 0 0])) (k + 1)).toList = zs3 (k + 1) := rfl
  simp [Builtin.clear_, run_underlying Try.underlying35, zero39, hzc, hst]
/-- What DeleteFunc leaves. -/
def DFOut (g c : Nat) (ok : Nat → Prop) (L' : List Ml) (w : World) (e : Ending) (w' : World) : Prop :=
  e = .returned (.slice (some ⟨g, 0, none⟩) L'.length c) ∧ Turn (fun b => b = g) w w' ∧ ∃ (cur' : Array Value) (ys : List Value), w'.heap[g]? = some (.cells cur' 39 (0, 0)) ∧ cur'.size = c * 3 ∧ cur'.toList.take (L'.length * 3) = ys ∧ Rows mlE ok w' ys L'
/-- Ahead of a round. -/
structure R25 (g c : Nat) (ok : Nat → Prop) (w : World) (cur : Array Value) (A : List Ml) (j : Nat) (wr : World) (curj : Array Value) (ys : List Value) : Prop where
  turn : Turn (fun b => b = g) w wr
  blk : wr.heap[g]? = some (.cells curj 39 (0, 0))
  size : curj.size = c * 3
  pre : curj.toList.take (A.length * 3) = ys
  rows : Rows mlE ok w ys A
  rest : ∀ q, j * 3 ≤ q → curj[q]? = cur[q]?
theorem R25.skip {g c j : Nat} {ok : Nat → Prop} {w wr w2 : World} {cur curj : Array Value} {A : List Ml} {ys : List Value} (h : R25 g c ok w cur A j wr curj ys) (hB : Below wr.heap.size wr w2) : R25 g c ok w cur A (j + 1) w2 curj ys :=
  ⟨Turn.trans (F' := fun b => b = g) h.turn (Turn.of hB) (fun b _ h => h), (hB.block g (Array.getElem?_eq_some_iff.1 h.blk).1).trans h.blk, h.size, h.pre, h.rows, fun q hq => h.rest q (by omega)⟩
theorem R25.keep {g c j : Nat} {ok : Nat → Prop} {w wr w2 : World} {cur curj : Array Value} {A : List Ml} {ys : List Value} {m : Ml} {v : Value} (h : R25 g c ok w cur A j wr curj ys) (hB : Below wr.heap.size wr w2) (hA : A.length < j) (hj : j < c) (hv : BytAt ok w v m.s) :
    R25 g c ok w cur (A ++ [m]) (j + 1) (((w2.setCell ⟨g, A.length * 3, none⟩ (.int .u32 m.a)).setCell ⟨g, A.length * 3 + 1, none⟩ (.int .u32 m.b)).setCell ⟨g, A.length * 3 + 2, none⟩ v) ((((curj.setIfInBounds (A.length * 3) (.int .u32 m.a)).setIfInBounds (A.length * 3 + 1) (.int .u32 m.b)).setIfInBounds (A.length * 3 + 2) v)) (ys ++ [.int .u32 m.a, .int .u32 m.b, v]) := by
  have h2 := h.skip hB
  have hx : ys.length = A.length * 3 := h.rows.1
  refine ⟨?_, heap_setCell (heap_setCell (heap_setCell h2.blk _ _) _ _) _ _, by simp [h.size], ?_, ?_, fun q hq => ?_⟩
  · refine Turn.trans (F' := fun b => b = g) h2.turn ?_ (fun b _ h => h)
    exact Turn.trans (F' := fun b => b = g) (Turn.trans (F' := fun b => b = g) (Turn.set _ _ _ rfl) (Turn.set _ _ _ rfl) (fun b _ h => h)) (Turn.set _ _ _ rfl) (fun b _ h => h)
  · refine List.ext_getElem? fun q => ?_
    have hs := h.size
    rw [List.getElem?_take, List.length_append, List.length_singleton]
    by_cases hq : q < (A.length + 1) * 3
    · rw [if_pos hq, Array.getElem?_toList]
      simp only [Array.getElem?_setIfInBounds, Array.size_setIfInBounds]
      by_cases h0 : q < A.length * 3
      · rw [if_neg (by omega), if_neg (by omega), if_neg (by omega), List.getElem?_append_left (by omega), ← h.pre, List.getElem?_take, if_pos h0, Array.getElem?_toList]
      · rw [List.getElem?_append_right (by omega), hx]
        have h3 : q = A.length * 3 ∨ q = A.length * 3 + 1 ∨ q = A.length * 3 + 2 := by omega
        rcases h3 with rfl | rfl | rfl
        · rw [if_neg (by omega), if_neg (by omega), if_pos rfl, if_pos (by omega)]; simp
        · rw [if_neg (by omega), if_pos rfl, if_pos (by omega), show A.length * 3 + 1 - A.length * 3 = 1 by omega]; rfl
        · rw [if_pos rfl, if_pos (by omega), show A.length * 3 + 2 - A.length * 3 = 2 by omega]; rfl
    · rw [if_neg hq, List.getElem?_eq_none]
      simp [hx]; omega
  · exact Rows.snoc h.rows ⟨v, rfl, hv⟩
  · simp only [Array.getElem?_setIfInBounds, Array.size_setIfInBounds]
    rw [if_neg (by omega), if_neg (by omega), if_neg (by omega)]
    exact h.rest q (by omega)
set_option maxRecDepth 100000 in
set_option maxHeartbeats 8000000 in
theorem c25 (g c eb : Nat) (z : Int) (L : List Ml) (ok : Nat → Prop) (xs : List Value) (cur : Array Value) (w : World) (hL : L.length ≤ 512) (hg : w.heap[g]? = some (.cells cur 39 (0, 0))) (hcap : L.length ≤ c) (hsz : cur.size = c * 3) (hxs : cur.toList.take (L.length * 3) = xs) (hr : Rows mlE ok w xs L) (hok : ¬ ok g)
    (heb : eb < w.heap.size) (hne : eb ≠ g) (h : w.cell? ⟨eb, 0, none⟩ = some (.int .u32 z)) :
    Calls Try.prog 25 #[.slice (some ⟨g, 0, none⟩) L.length c, hitF eb] w (DFOut g c ok (L.filter (keepM z)) w) := by
  have hgl := (Array.getElem?_eq_some_iff.1 hg).1
  have hcx : ∀ q, q < L.length * 3 → cur[q]? = xs[q]? := fun q hq => by rw [← hxs, List.getElem?_take, if_pos hq, Array.getElem?_toList]
  have hEl : ∀ (i : Nat) (m : Ml), L[i]? = some m → ∃ pl pc, cur[i * 3]? = some (.int .u32 m.a) ∧ cur[i * 3 + 1]? = some (.int .u32 m.b) ∧ cur[i * 3 + 2]? = some (.slice pl m.s.length pc) ∧ BytAt ok w (.slice pl m.s.length pc) m.s := by
    intro i m e
    have hi := (List.getElem?_eq_some_iff.1 e).1
    obtain ⟨u, ec, hb⟩ := hr.2 i m e
    obtain ⟨p, pc, rfl⟩ := hb.slice
    have ec : (xs.drop (i * 3)).take 3 = [.int .u32 m.a, .int .u32 m.b, .slice p m.s.length pc] := ec
    have hc : ∀ (j : Nat) (x : Value), j < 3 → [Value.int .u32 m.a, .int .u32 m.b, .slice p m.s.length pc][j]? = some x → cur[i * 3 + j]? = some x := fun j x hj hx => by
      rw [← ec, List.getElem?_take, if_pos hj, List.getElem?_drop] at hx
      rw [hcx _ (by omega)]
      exact hx
    exact ⟨p, pc, hc 0 _ (by omega) rfl, hc 1 _ (by omega) rfl, hc 2 _ (by omega) rfl, hb⟩
  have hM : MCells w (some ⟨g, 0, none⟩) L := fun i m e => by
    obtain ⟨pl, pc, h0, h1, h2, _⟩ := hEl i m e
    exact ⟨g, pl, pc, rfl, hgl, (cell_of_heap hg _).trans h0, (cell_of_heap hg _).trans h1, (cell_of_heap hg _).trans h2⟩
  have K28 := c28 (some ⟨g, 0, none⟩) c eb z L w hL hM heb h
  have HEL := Lib.hid hEl; have HR := Lib.hid hr; have HG := Lib.hid hg
  clear hEl hM hcx
  generalize hN : L.length = n at *
  have HN := Lib.hid hN
  have HXS := Lib.hid hxs
  clear hN hr hg hxs
  go_enter Try.func25, Try.ntmps25
  go_wp2_with (go_at_call 28; refine K28.mono ?_; rintro e w2 ⟨hB2, hcase⟩; have HB2 := Lib.hid hB2; clear hB2; rcases hcase with ⟨rfl, hall⟩ | ⟨k, m0, hm0, hk0, hkl, rfl⟩)
  · have HA := Lib.hid hall
    clear hall
    go_wp2
    go_ret
    have hf : L.filter (keepM z) = L := List.filter_eq_self.2 HA.out
    rw [hf]
    exact ⟨by rw [HN.out]; rfl, Turn.of HB2.out, cur, xs, (HB2.out.block g hgl).trans HG.out, hsz, by rw [HN.out]; exact HXS.out, HR.out.mono (Keeps.below HB2.out)⟩
  · have hkn : k < n := by have := (List.getElem?_eq_some_iff.1 hm0).1; rw [HN.out] at this; exact this
    have htk0 : (L.take (k + 1)).filter (keepM z) = L.take k := by
      rw [take_succ hm0, List.filter_append, List.filter_eq_self.2 hkl]
      simp [hk0]
    have hlk : (L.take k).length = k := by rw [List.length_take, HN.out]; omega
    have e1 : ¬ ((k : Int) = -1) := by omega
    have hstart : R25 g c ok w cur (L.take k) (k + 1) w2 cur (xs.take (k * 3)) := by
      have hx : xs.length = n * 3 := by have : xs.length = L.length * 3 := HR.out.1; rw [HN.out] at this; exact this
      refine ⟨Turn.of HB2.out, (HB2.out.block g hgl).trans HG.out, hsz, ?_, HR.out.take k (by rw [HN.out]; omega), fun q _ => rfl⟩
      rw [hlk, ← HXS.out, List.take_take, Nat.min_eq_left (by omega)]
    have HST := Lib.hid hstart; have HTK0 := Lib.hid htk0
    have heb2 : eb < w2.heap.size := Nat.lt_of_lt_of_le heb HB2.out.size
    clear hstart htk0 hm0 hk0 hkl K28
    go_wp2
    go_loopw [5, 6] (fun i j wr => ∃ (i' j' : Nat) (A : List Ml) (curj : Array Value) (ys : List Value), i = .int .i64 i' ∧ j = .int .i64 j' ∧ i' < j' ∧ j' ≤ n ∧ A.length = i' ∧ (L.take j').filter (keepM z) = A ∧ R25 g c ok w cur A j' wr curj ys) (fun _ j _ => n - (intOf j).toNat)
    case atStart => exact ⟨k, k + 1, L.take k, cur, xs.take (k * 3), rfl, by rw [w64 ((k : Int) + 1) (by omega)]; simp, by omega, by omega, hlk, HTK0.out, HST.out⟩
    case round =>
      obtain ⟨i', j', A, curj, ys, rfl, rfl, hij, hjn, hAl, hA, hR⟩ := hrel
      by_cases hlt : j' < n
      · obtain ⟨m, hm⟩ : ∃ m, L[j']? = some m := ⟨_, List.getElem?_eq_getElem (by rw [HN.out]; exact hlt)⟩
        obtain ⟨pl, pc, x0, x1, x2, hbt⟩ := HEL.out j' m hm
        have y0 := (cell_of_heap hR.blk (j' * 3)).trans ((hR.rest _ (by omega)).trans x0)
        have y1 := (cell_of_heap hR.blk (j' * 3 + 1)).trans ((hR.rest _ (by omega)).trans x1)
        have y2 := (cell_of_heap hR.blk (j' * 3 + 2)).trans ((hR.rest _ (by omega)).trans x2)
        have hgr := (Array.getElem?_eq_some_iff.1 hR.blk).1
        have hebr : eb < wr.heap.size := Nat.lt_of_lt_of_le heb hR.turn.size
        have hez : wr.cell? ⟨eb, 0, none⟩ = some (.int .u32 z) := (World.cell?_of_block (a := ⟨eb, 0, none⟩) (hR.turn.block eb heb hne)).trans h
        have hBa : Below wr.heap.size wr (wr.alloc (.cells #[.int .u32 m.a, .int .u32 m.b, .slice pl m.s.length pc] 39)) := (Below.refl _ wr).alloc (Nat.le_refl _) _
        have K26 := c26 m.a m.b z pl m.s.length pc eb (wr.alloc (.cells #[.int .u32 m.a, .int .u32 m.b, .slice pl m.s.length pc] 39)) (by simp; omega) ((hBa.cell (p := ⟨eb, 0, none⟩) hebr).trans hez)
        have hke := keep_bytes z m.a m.b m.s
        have htk : (L.take (j' + 1)).filter (keepM z) = A ++ [m].filter (keepM z) := by rw [take_succ hm, List.filter_append, hA]
        have HRR := Lib.hid hR; have HBT := Lib.hid hbt; have HBA := Lib.hid hBa; have HTK := Lib.hid htk
        clear hm hR hbt hBa htk x0 x1 x2 hez
        obtain ⟨ma, mb, ms⟩ := m
        simp only at *
        generalize hKV : keepM z ⟨ma, mb, []⟩ = kv at K26 hke
        cases kv with
        | false =>
          simp only [Bool.not_false] at K26
          go_wp2_with (go_at_call 26; refine K26.mono ?_; rintro e w3 ⟨rfl, hB3⟩; have HB3 := Lib.hid hB3; clear hB3)
          go_roundw
          case rel =>
            refine ⟨_, _, _, _, _, _, _, _, _, _, _, _, _, _, _, _, _, _, _, _, _, _, _, ⟨i', j' + 1, A, curj, ys, rfl, by simp, by omega, by omega, hAl, ?_, HRR.out.skip (HBA.out.trans (HB3.out.mono (by simp)))⟩, rfl⟩
            rw [HTK.out]; simp [hke]
          case measure => simp [intOf]; omega
        | true =>
          simp only [Bool.not_true] at K26
          go_wp2_with (go_at_call 26; go_loud (refine K26.mono ?_; rintro e w3 ⟨rfl, hB3⟩; have hBB : Below wr.heap.size wr w3 := HBA.out.trans (hB3.mono (by simp)); have hblk3 := (hBB.block g hgr).trans HRR.out.blk; have hs3 := HRR.out.size; have hcl : ∀ q, q < c * 3 → ∃ v, w3.cell? ⟨g, q, none⟩ = some v := (fun q hq => ⟨curj[q]'(by omega), by rw [cell_of_heap hblk3]; simp [hs3, hq]⟩); obtain ⟨u0, q0⟩ := hcl (i' * 3) (by omega); obtain ⟨u1, q1⟩ := hcl (i' * 3 + 1) (by omega); obtain ⟨u2, q2⟩ := hcl (i' * 3 + 2) (by omega); have f0 : w3.frozen? ⟨g, i' * 3, none⟩ = false := (by simp [World.frozen?, hblk3]); have f1 : w3.frozen? ⟨g, i' * 3 + 1, none⟩ = false := (by simp [World.frozen?, hblk3]); have f2 : w3.frozen? ⟨g, i' * 3 + 2, none⟩ = false := (by simp [World.frozen?, hblk3]); have z0 := (bcell hB3).1 wr.heap.size 0 (by simp); have z1 := (bcell hB3).1 wr.heap.size 1 (by simp); have z2 := (bcell hB3).1 wr.heap.size 2 (by simp); have HBB := Lib.hid hBB; clear hB3 hBB hcl hblk3))
          go_roundw
          case rel =>
            subst hAl
            refine ⟨_, _, _, _, _, _, _, _, _, _, _, _, _, _, _, _, _, _, _, _, _, _, _, ⟨A.length + 1, j' + 1, A ++ [⟨ma, mb, ms⟩], _, _, by simp, by simp, by omega, by omega, by simp, ?_, HRR.out.keep (m := ⟨ma, mb, ms⟩) HBB.out (by omega) (by omega) HBT.out⟩, rfl⟩
            rw [HTK.out]; simp [hke]
          case measure => simp [intOf]; omega
      · have hjn' : j' = n := by omega
        subst hjn'
        have hAll : L.filter (keepM z) = A := by rw [← hA, List.take_of_length_le (by rw [HN.out]; exact Nat.le_refl _)]
        have hx1 : ∀ q, q < c * 3 → ∃ v, wr.cell? ⟨g, q, none⟩ = some v := fun q hq => ⟨curj[q]'(by rw [hR.size]; exact hq), by rw [cell_of_heap hR.blk]; simp [hR.size, hq]⟩
        have hf1 : ∀ q, wr.frozen? ⟨g, q, none⟩ = false := fun q => by simp [World.frozen?, hR.blk]
        have hclr := fun c' => run_clearN wr g (i' * 3) (j' - i') c' (by omega) (fun q hq => by obtain ⟨v, hv⟩ := hx1 (i' * 3 + q) (by omega); rw [hv]; rfl) (fun q _ => hf1 _)
        have HRR := Lib.hid hR
        have a1 : ¬ (c = i') := by omega
        have a2 : ¬ (i' = c) := by omega
        have a3 : i' ≤ c := by omega
        have a4 : i' ≤ j' := by omega
        clear hR hx1 hf1
        go_wp2
        go_ret
        obtain ⟨cur2, k1, k2, k3⟩ := heap_setCells g (zs3 (j' - i')) (i' * 3) wr curj 39 (0, 0) HRR.out.blk
        rw [hAll]
        refine ⟨by rw [hAl]; rfl, Turn.trans (F' := fun b => b = g) HRR.out.turn (turn_sets g _ _ _) (fun b _ h => h), cur2, ys, k1, by rw [k2]; exact HRR.out.size, ?_, ?_⟩
        · refine List.ext_getElem? fun q => ?_
          rw [← HRR.out.pre, List.getElem?_take, List.getElem?_take]
          by_cases hq : q < A.length * 3
          · rw [if_pos hq, if_pos hq, Array.getElem?_toList, Array.getElem?_toList, k3, if_neg (by omega)]
          · rw [if_neg hq, if_neg hq]
        · refine Rows.mono (W := w) HRR.out.rows ((HRR.out.turn.keeps fun b _ ho e => hok (e ▸ ho)).trans ((turn_sets g (zs3 (j' - i')) (i' * 3) wr).keeps fun b _ ho e => hok (e ▸ ho)))
end Go.Proofs.NT
