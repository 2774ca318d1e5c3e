/- Proved: what slices.Clone and 'at' come to over bytes, and what acts rows of bytes are; each theorem says its own conditions. -/
import Derived.Test.YtojfppkibmmmdaaDoorSc
import Derived.Deep.AppendSrc
import Derived.Deep.AppendLies
import Derived.Deep.RegionHeld3
import Derived.Deep.RegionHeld
import Derived.Laws.BytesString
import Derived.Laws.CopyRow
import Derived.WalkSpells
set_option linter.unusedVariables false
set_option linter.unusedSimpArgs false
namespace Go.Proofs.SA
open Go.RowKit
/-- A row of bytes lies there. -/
def Bts (w : World) (blk off l : Nat) (f : Nat → Int) : Prop := (0 < l → blk < w.heap.size) ∧ ∀ i, i < l → w.cell? ⟨blk, off + i, none⟩ = some (.int .u8 (f i)) ∧ 0 ≤ f i ∧ f i ≤ 255
theorem Bts.mono {w w' : World} {blk off l : Nat} {f : Nat → Int} (h : Bts w blk off l f) (hb : Below w.heap.size w w') : Bts w' blk off l f :=
  ⟨fun hp => Nat.lt_of_lt_of_le (h.1 hp) hb.size, fun i hi => ⟨by rw [hb.cell (p := ⟨blk, off + i, none⟩) (h.1 (by omega))]; exact (h.2 i hi).1, (h.2 i hi).2⟩⟩
/-- A row of bytes of the call's own. -/
def GivesB (l : Nat) (f : Nat → Int) (w : World) (e : Ending) (w' : World) : Prop := ∃ nb cap, e = .returned (.slice (some ⟨nb, 0, none⟩) l cap) ∧ w.heap.size ≤ nb ∧ Bts w' nb 0 l f ∧ Below w.heap.size w w'
def newsOf (l : Nat) (f : Nat → Int) : Array Value := ((List.range l).map fun i => Value.int .u8 (f i)).toArray
theorem load_bts {P : Program} (w W : World) (blk off l : Nat) (f : Nat → Int) (hW : ∀ i, i < l → W.cell? ⟨blk, off + i, none⟩ = w.cell? ⟨blk, off + i, none⟩) (h : Bts w blk off l f) :
    Sem.run P (loadCellsFrom ⟨blk, off, none⟩ 0 l #[]) W = .ok (newsOf l f) W := by
  have h := run_firstCells_some (P := P) W 1 l ⟨blk, off, none⟩ l l ((List.range l).map fun i => Value.int .u8 (f i)) (by simp) (fun j u hu => by
    rw [List.getElem?_map] at hu
    by_cases hj : j < l
    · rw [List.getElem?_range hj] at hu
      simp only [Option.map_some, Option.some.injEq] at hu
      rw [Addr.add_lit, hW j hj, ← hu, (h.2 j hj).1]
    · rw [List.getElem?_eq_none (by simpa using hj)] at hu; cases hu)
  simpa [Builtin.firstCells, loadCells, newsOf] using h
theorem cell_new (w : World) (c : Array Value) (t i : Nat) : (w.alloc (.cells c t)).drew.cell? ⟨w.heap.size, i, none⟩ = c[i]? := by
  have h : (w.alloc (.cells c t)).drew.heap[w.heap.size]? = some (.cells c t) := heap_alloc_new w _
  unfold World.cell?
  rw [h]
  simp
theorem next_small (l : Nat) (h : l ≤ 5000) : Builtin.nextslicecap l 0 ≤ 281474976710656 := by
  unfold Builtin.nextslicecap
  split <;> first | omega | (split <;> omega)
theorem bytes5 : Tryd.t5.bytes = 1 := by kernel_rfl
theorem news_at (l : Nat) (f : Nat → Int) (z : Array Value) (i : Nat) (h : i < l) : (newsOf l f ++ z)[i]? = some (.int .u8 (f i)) := by
  have hs : i < (newsOf l f).size := by simp [newsOf, h]
  rw [Array.getElem?_append_left hs]
  simp [newsOf, h]
theorem cell_own (w : World) (a b c : Obj) (z : Array Value) (l : Nat) (g : Nat → Int) (i : Nat) (hi : i < l) :
    (((((w.alloc a).alloc b).alloc c).alloc (.cells (newsOf l g ++ z) 5)).drew.drew).cell? ⟨w.heap.size + 1 + 1 + 1, 0 + i, none⟩ = some (.int .u8 (g i)) := by
  have e := cell_new (((w.alloc a).alloc b).alloc c) (newsOf l g ++ z) 5 i
  rw [show (((w.alloc a).alloc b).alloc c).heap.size = w.heap.size + 1 + 1 + 1 by simp] at e
  rw [Nat.zero_add]
  exact e.trans (news_at l g z i hi)
theorem Bts.zero {w : World} {b : Nat} (o : Nat) (f : Nat → Int) : Bts w b o 0 f := ⟨fun h => absurd h (by omega), fun i hi => by omega⟩
theorem eq22 (w : World) (a : Option Addr) (n c n' c' : Nat) : (binOp .eql 22 (.slice a n c) (.slice none n' c')).run Tryd.prog w = .ok (.bool a.isNone) w := Lib.run_eql_slice_nil w _ _ a n c n' c' Tryd.underlying22
set_option maxRecDepth 100000 in
set_option maxHeartbeats 1000000 in
theorem c20 (blk off l cap : Nat) (f : Nat → Int) (w : World) (h2 : l ≤ 5000) (h : Bts w blk off l f) : Calls Tryd.prog 20 #[.slice (some ⟨blk, off, none⟩) l cap] w (GivesB l f w) := by
  rcases Nat.eq_zero_or_pos l with rfl | hpos
  · clear h
    have heq := eq22
    go_enter Tryd.func20, Tryd.ntmps20
    go_wp2
    go_ret
    exact ⟨w.heap.size, _, rfl, Nat.le_refl _, Bts.zero _ _, (Below.refl _ w).alloc (Nat.le_refl _) _⟩
  · have hld := load_bts (P := Tryd.prog) w (w.alloc (.cells #[] 5)).drew blk off l f (fun i hi => by
      show (w.alloc _).cell? _ = _
      rw [Below.cell ((Below.refl w.heap.size w).alloc (Nat.le_refl _) _) (p := ⟨blk, off + i, none⟩) (h.1 (by omega))]) h
    have hns : ¬ (281474976710656 < Builtin.nextslicecap l 0 * Tryd.t5.bytes) := by
      have := next_small l h2
      rw [bytes5]; omega
    have hf := fun i hi => (h.2 i hi).2
    have HF := Lib.hid hf
    clear h hf
    have hn : newsOf l f = newsOf l f := rfl
    generalize hN : newsOf l f = news at hld
    have HN := Lib.hid hN
    clear hn hN
    have heq := eq22
    go_enter Tryd.func20, Tryd.ntmps20
    go_wp2
    go_ret
    refine ⟨w.heap.size + 1, _, rfl, by omega, ⟨fun _ => by simp, fun i hi => ⟨?_, HF.out i hi⟩⟩, (((Below.refl _ w).alloc (Nat.le_refl _) _).alloc (by simp) _).drew⟩
    have hN := HN.out
    subst hN
    rw [Nat.zero_add]
    have e := cell_new (w.alloc (.cells #[] 5)) (newsOf l f ++ Builtin.zeroCells #[.int .u8 0] ((Question.appendCap l 0 5).cut (w.tape w.drawn (Question.appendCap l 0 5)) - l)) 5 i
    rw [show (w.alloc (.cells #[] 5)).heap.size = w.heap.size + 1 by simp] at e
    rw [e]
    exact news_at l f _ i hi


theorem c19 (PP : Pats) (HS : Still PP) (k w n x : Nat) (W : World) (hk : k < 256) (hw : w < 256) (hn : n < 256) (hx : x < 256) (h0 : 0 < W.heap.size) (hT : Tab W)
    (C13 : ∀ W', Calls Tryd.prog 13 #[.int .u8 n] W' (PatGot PP (n % 32) W')) : Calls Tryd.prog 19 #[.int .u8 k, .int .u8 w, .int .u8 n, .int .u8 x] W (ActOut PP (actC (kindN k) w n x) W) := by
  have C : ∀ W', Below W.heap.size W W' → Calls Tryd.prog 36 #[.int .u8 k] W' fun e w' => e = .returned (.int .u8 ((kindN k : Nat) : Int)) ∧ W' = w' := fun W' hB => c36 k W' hk (tab_mono hT h0 hB)
  have hb : 0 < kindN k ∧ kindN k < 14 := by
    have h1 := kinds_lt k
    have h2 : 0 < kinds k := by
      have h : k % 16 < 16 := Nat.mod_lt _ (by omega)
      unfold kinds
      generalize k % 16 = j at *
      rcases (by omega : j = 0 ∨ j = 1 ∨ j = 2 ∨ j = 3 ∨ j = 4 ∨ j = 5 ∨ j = 6 ∨ j = 7 ∨ j = 8 ∨ j = 9 ∨ j = 10 ∨ j = 11 ∨ j = 12 ∨ j = 13 ∨ j = 14 ∨ j = 15) with rfl | rfl | rfl | rfl | rfl | rfl | rfl | rfl | rfl | rfl | rfl | rfl | rfl | rfl | rfl | rfl <;> decide
    unfold kindN
    split
    · omega
    · split <;> omega
  generalize kindN k = c at *
  rcases (by omega : c = 1 ∨ c = 2 ∨ c = 3 ∨ c = 4 ∨ c = 5 ∨ c = 6 ∨ c = 7 ∨ c = 8 ∨ c = 9 ∨ c = 10 ∨ c = 11 ∨ c = 12 ∨ c = 13) with rfl | rfl | rfl | rfl | rfl | rfl | rfl | rfl | rfl | rfl | rfl | rfl | rfl
  · exact c19_1 PP HS k w n x W hk hw hn hx C C13
  · exact c19_2 PP HS k w n x W hk hw hn hx C C13
  · exact c19_3 PP HS k w n x W hk hw hn hx C C13
  · exact c19_4 PP HS k w n x W hk hw hn hx C C13
  · exact c19_5 PP HS k w n x W hk hw hn hx C C13
  · exact c19_6 PP HS k w n x W hk hw hn hx C C13
  · exact c19_7 PP HS k w n x W hk hw hn hx C C13
  · exact c19_8 PP HS k w n x W hk hw hn hx C C13
  · exact c19_9 PP HS k w n x W hk hw hn hx C C13
  · exact c19_10 PP HS k w n x W hk hw hn hx C C13
  · exact c19_11 PP HS k w n x W hk hw hn hx C C13
  · exact c19_12 PP HS k w n x W hk hw hn hx C C13
  · exact c19_13 PP HS k w n x W hk hw hn hx C C13
/-- The acts of bytes, so many at most. -/
def actsL : Nat → List Nat → List PA
  | 0, _ => []
  | m + 1, k :: w :: n :: x :: r => if kindN k = 11 then { actC 11 w n x with byt := r.take (n % 16) } :: actsL m (r.drop (n % 16)) else actC (kindN k) w n x :: actsL m r
  | _ + 1, _ => []
theorem actsL_raw {m k w n x : Nat} {r : List Nat} (h : kindN k = 11) : actsL (m + 1) (k :: w :: n :: x :: r) = { actC 11 w n x with byt := r.take (n % 16) } :: actsL m (r.drop (n % 16)) := if_pos h
theorem actsL_other {m k w n x : Nat} {r : List Nat} (h : ¬ kindN k = 11) : actsL (m + 1) (k :: w :: n :: x :: r) = actC (kindN k) w n x :: actsL m r := if_neg h
theorem actsL_short {m : Nat} {l : List Nat} (h : l.length < 4) : actsL m l = [] := by
  match m, l, h with
  | 0, _, _ => rfl
  | _ + 1, [], _ => rfl
  | _ + 1, [_], _ => rfl
  | _ + 1, [_, _], _ => rfl
  | _ + 1, [_, _, _], _ => rfl
  | _ + 1, _ :: _ :: _ :: _ :: _, h => simp at h; omega
theorem actsL_len : ∀ (m : Nat) (l : List Nat), (actsL m l).length ≤ m
  | 0, _ => by simp [actsL]
  | m + 1, [] => by simp [actsL]
  | m + 1, [_] => by simp [actsL]
  | m + 1, [_, _] => by simp [actsL]
  | m + 1, [_, _, _] => by simp [actsL]
  | m + 1, k :: w :: n :: x :: r => by
    simp only [actsL]
    split
    · have := actsL_len m (r.drop (n % 16)); simp; omega
    · have := actsL_len m r; simp; omega
/-- Rows of acts. -/
def ActsAt (PP : Pats) (ok : Nat → Prop) (W : World) (xs : List Value) (l : List PA) : Prop := xs.length = l.length * 10 ∧ ∀ (i : Nat) (a : PA), l[i]? = some a → ActIs PP ok W ((xs.drop (i * 10)).take 10) a
theorem ActIs.len {PP : Pats} {ok : Nat → Prop} {W : World} {cs : List Value} {a : PA} (h : ActIs PP ok W cs a) : cs.length = 10 := by
  obtain ⟨_, _, _, _, _, rfl, _⟩ := h
  rfl
theorem ActsAt.mono {PP : Pats} (hP : Still PP) {ok : Nat → Prop} {W W' : World} {xs : List Value} {l : List PA} (h : ActsAt PP ok W xs l) (hB : Go.Ai.Keeps ok W W') : ActsAt PP ok W' xs l := ⟨h.1, fun i a e => (h.2 i a e).mono hP hB⟩
theorem ActsAt.weaken {PP : Pats} (hP : Still PP) {ok ok' : Nat → Prop} {W : World} {xs : List Value} {l : List PA} (h : ActsAt PP ok W xs l) (hl : ∀ b, b < W.heap.size → ok b → ok' b) : ActsAt PP ok' W xs l := ⟨h.1, fun i a e => (h.2 i a e).weaken hP hl⟩
theorem ActsAt.snoc {PP : Pats} {ok : Nat → Prop} {W : World} {xs cs : List Value} {l : List PA} {a : PA} (h : ActsAt PP ok W xs l) (k : ActIs PP ok W cs a) : ActsAt PP ok W (xs ++ cs) (l ++ [a]) := by
  have hc := k.len
  have hx := h.1
  refine ⟨by simp [hx, hc]; omega, fun i b e => ?_⟩
  by_cases hi : i < l.length
  · rw [List.getElem?_append_left hi] at e
    rw [List.drop_append_of_le_length (by omega), List.take_append_of_le_length (by simp; omega)]
    exact h.2 i b e
  · rw [List.getElem?_append_right (by omega)] at e
    have hi' : i = l.length := by
      have := (List.getElem?_eq_some_iff.1 e).1
      simp at this; omega
    subst hi'
    simp at e
    subst e
    rw [List.drop_append, ← hx, List.drop_length, List.nil_append, Nat.sub_self, List.drop_zero, List.take_of_length_le (by omega)]
    exact k
theorem ActsAt.nil (PP : Pats) (ok : Nat → Prop) (W : World) : ActsAt PP ok W [] [] := ⟨rfl, fun i a e => by simp at e⟩
def okOut (base : Nat) (v : Value) (b : Nat) : Prop := base ≤ b ∧ v.ownBlock ≠ some b
/-- The bytes that are yet to be read, in old memory. -/
def Src (w : World) (v : Value) (l : List Nat) : Prop := ∃ b o cap, v = .slice (some ⟨b, o, none⟩) l.length cap ∧ l.length ≤ cap ∧ (0 < l.length → b < w.heap.size) ∧ ∀ (j x : Nat), l[j]? = some x → w.cell? ⟨b, o + j, none⟩ = some (.int .u8 x)
theorem slice_tail (b o l cap n : Nat) (h1 : n ≤ l) (w : World) : (Instr.sliceAt 22 (.slice (some ⟨b, o, none⟩) l cap) (some (.int .i64 (n : Int))) none none).run Tryd.prog w =
    .ok (.slice (some ⟨b, if cap = n then o else o + n, none⟩) (l - n) (cap - n)) w := by
  have hu := run_underlying (w := w) Tryd.underlying22
  have hs := Tryd.sizeOf5
  have hn : ¬ ((n : Int) < 0 ∨ (l : Int) < (n : Int)) := by omega
  have hn2 : ¬ ((l : Int) < (n : Int)) := by omega
  by_cases hc : cap = n <;> simp [Instr.sliceAt, Instr.slice, hu, Instr.sliceBounds, Instr.sliceBound, hs, hn, hn2, h1, hc, Addr.add_lit, go_sem]
theorem slice_head (b o l cap n : Nat) (h1 : n ≤ l) (h2 : l ≤ cap) (w : World) : (Instr.sliceAt 22 (.slice (some ⟨b, o, none⟩) l cap) none (some (.int .i64 (n : Int))) none).run Tryd.prog w =
    .ok (.slice (some ⟨b, if cap = 0 then o else o, none⟩) n cap) w := by
  have hu := run_underlying (w := w) Tryd.underlying22
  have hs := Tryd.sizeOf5
  have hn1 : ¬ ((n : Int) < 0 ∨ (cap : Int) < (n : Int)) := by omega
  have hn3 : ¬ ((cap : Int) < (n : Int)) := by omega
  have hn4 : n ≤ cap := by omega
  by_cases hc : cap = 0
  · have : n = 0 := by omega
    subst this
    subst hc
    simp [Instr.sliceAt, Instr.slice, hu, Instr.sliceBounds, Instr.sliceBound, hs, Addr.add_lit, go_sem]
  · simp [Instr.sliceAt, Instr.slice, hu, Instr.sliceBounds, Instr.sliceBound, hs, hn1, hn3, hn4, hc, Addr.add_lit, go_sem]
theorem Src.tail {w : World} {b o cap n : Nat} {l : List Nat} (h : Src w (.slice (some ⟨b, o, none⟩) l.length cap) l) (hn : n ≤ l.length) : Src w (.slice (some ⟨b, if cap = n then o else o + n, none⟩) (l.length - n) (cap - n)) (l.drop n) := by
  obtain ⟨b', o', cap', e, h1, h2, h3⟩ := h
  cases e
  refine ⟨b, _, _, by rw [List.length_drop], by rw [List.length_drop]; omega, fun hp => h2 (by rw [List.length_drop] at hp; omega), fun j x e => ?_⟩
  rw [List.getElem?_drop] at e
  have hj := (List.getElem?_eq_some_iff.1 e).1
  rw [if_neg (by omega), Nat.add_assoc]
  exact h3 _ _ e
theorem Src.bts {w : World} {b o cap n : Nat} {l : List Nat} (h : Src w (.slice (some ⟨b, o, none⟩) l.length cap) l) (hby : ∀ x ∈ l, x < 256) (hn : n ≤ l.length) : Bts w b o n (fun i => ((l.getD i 0 : Nat) : Int)) := by
  obtain ⟨b', o', cap', e, h1, h2, h3⟩ := h
  cases e
  refine ⟨fun hp => h2 (by omega), fun i hi => ?_⟩
  have e : l[i]? = some l[i] := List.getElem?_eq_getElem (by omega)
  have hb := hby l[i] (List.getElem_mem (by omega))
  have hg : l.getD i 0 = l[i] := by rw [List.getD_eq_getElem?_getD, e]; rfl
  simp only [hg]
  exact ⟨h3 _ _ e, by omega, by omega⟩
theorem byt_of_bts {ok : Nat → Prop} {w : World} {b n cap : Nat} {l : List Nat} (ho : ok b) (hn : n ≤ l.length) (h : Bts w b 0 n (fun i => ((l.getD i 0 : Nat) : Int))) : BytIs ok w (.slice (some ⟨b, 0, none⟩) n cap) (l.take n) := by
  refine .inr ⟨b, 0, cap, by rw [List.length_take, Nat.min_eq_left hn], fun hp => ⟨ho, h.1 (by rw [List.length_take] at hp; omega)⟩, fun j x e => ?_⟩
  unfold B at e
  rw [List.getElem?_map] at e
  obtain ⟨y, hy, rfl⟩ := Option.map_eq_some_iff.1 e
  have hj : j < n := by have := (List.getElem?_eq_some_iff.1 hy).1; rw [List.length_take] at this; omega
  rw [List.getElem?_take, if_pos hj] at hy
  rw [Addr.add_lit, (h.2 j hj).1]
  show some (Value.int .u8 ((l.getD j 0 : Nat) : Int)) = _
  rw [List.getD_eq_getElem?_getD, hy]
  rfl
end Go.Proofs.SA
