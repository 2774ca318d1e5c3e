/- Proved: bytes and mails in memory, and what the least functions of a network come to; each theorem says its own conditions. -/
import Derived.Test.YtopnmikijbajfaaNa
import Derived.Test.YtopnmikijbajfaaProg
import Derived.Test.YtopnmikijbajfaaChecked
import Derived.Deep.AppendSrc
import Derived.Deep.AppendLies
import Derived.Deep.RegionHeld3
import Derived.Deep.RegionHeld
import Derived.Deep.RegionWith
import Derived.IntWalk
import Derived.Laws.BytesString
import Derived.Laws.CopyRow
import Derived.Laws.StructEq
import Derived.Laws.IdiomStrings
import Derived.Lib.BufferRead
import Derived.Lib.Hide
import Derived.Lib.SliceRun
import Derived.StillTailTactics
import Derived.WalkMore
import Derived.WalkSpells
import Derived.Deep.RegionLaw
import Derived.Deep.QuietTactic
import Derived.BigQuiet
import Derived.LoopN
set_option linter.unusedVariables false
set_option linter.unusedSimpArgs false
namespace Go.Proofs.NT
open Go.RowKit Go.Ai
/-- The cells of bytes. -/
def B (s : List UInt8) : List Value := s.map fun x => Value.int .u8 (x.toNat : Int)
theorem B_len (s : List UInt8) : (B s).length = s.length := by simp [B]
/-- Bytes lie there, as a slice from somewhere. -/
def BIn (W : World) (v : Value) (s : List UInt8) : Prop := (∃ p c, v = .slice p 0 c ∧ s = []) ∨ ∃ b o cap, v = .slice (some ⟨b, o, none⟩) s.length cap ∧ (0 < s.length → b < W.heap.size) ∧ ∀ (j : Nat) (x : Value), (B s)[j]? = some x → W.cell? ⟨b, o + j, none⟩ = some x
/-- Bytes in a block that 'ok' names. -/
def BytAt (ok : Nat → Prop) (W : World) (v : Value) (s : List UInt8) : Prop := (v = .slice none 0 0 ∧ s = []) ∨ ∃ b cap, v = .slice (some ⟨b, 0, none⟩) s.length cap ∧ ok b ∧ b < W.heap.size ∧ ∀ (j : Nat) (x : Value), (B s)[j]? = some x → W.cell? ⟨b, j, none⟩ = some x
section
variable {ok ok' : Nat → Prop} {W W' : World} {v : Value} {s : List UInt8}
theorem BIn.mono (h : BIn W v s) (hB : Below W.heap.size W W') : BIn W' v s := by
  rcases h with h | ⟨b, o, cap, rfl, h1, h2⟩
  · exact .inl h
  · refine .inr ⟨b, o, cap, rfl, fun hp => Nat.lt_of_lt_of_le (h1 hp) hB.size, fun j x hx => ?_⟩
    have hj : j < s.length := by have := (List.getElem?_eq_some_iff.1 hx).1; rwa [B_len] at this
    exact ((bcell hB).1 _ _ (h1 (by omega))).trans (h2 j x hx)
theorem BIn.slice (h : BIn W v s) : ∃ p c, v = .slice p s.length c := by
  rcases h with ⟨p, c, rfl, rfl⟩ | ⟨b, o, cap, rfl, _⟩
  · exact ⟨_, _, rfl⟩
  · exact ⟨_, _, rfl⟩
theorem BytAt.mono (h : BytAt ok W v s) (hB : Keeps ok W W') : BytAt ok W' v s := by
  rcases h with h | ⟨b, cap, rfl, h0, h1, h2⟩
  · exact .inl h
  · exact .inr ⟨b, cap, rfl, h0, Nat.lt_of_lt_of_le h1 hB.1, fun j x hx => (hB.cell h1 h0 _).trans (h2 j x hx)⟩
theorem BytAt.weaken (h : BytAt ok W v s) (hl : ∀ b, b < W.heap.size → ok b → ok' b) : BytAt ok' W v s := by
  rcases h with h | ⟨b, cap, rfl, h0, h1, h2⟩
  · exact .inl h
  · exact .inr ⟨b, cap, rfl, hl _ h1 h0, h1, h2⟩
theorem BytAt.bin (h : BytAt ok W v s) : BIn W v s := by
  rcases h with ⟨rfl, rfl⟩ | ⟨b, cap, rfl, h0, h1, h2⟩
  · exact .inl ⟨none, 0, rfl, rfl⟩
  · exact .inr ⟨b, 0, cap, rfl, fun _ => h1, fun j x hx => by rw [Nat.zero_add]; exact h2 j x hx⟩
theorem BytAt.slice (h : BytAt ok W v s) : ∃ p c, v = .slice p s.length c := h.bin.slice
end
/-- A mail. -/
structure Ml where
  a : Int
  b : Int
  s : List UInt8
def mlE : Elem Ml where
  k := 3
  Is := fun ok W cs m => ∃ v, cs = [.int .u32 m.a, .int .u32 m.b, v] ∧ BytAt ok W v m.s
  len := fun ⟨v, e, _⟩ => by rw [e]; rfl
  mono := fun ⟨v, e, h⟩ hB => ⟨v, e, h.mono hB⟩
  weaken := fun ⟨v, e, h⟩ hl => ⟨v, e, h.weaken hl⟩
theorem conv_bin {W : World} {v : Value} {s : List UInt8} (h : BIn W v s) : (convert 28 9 v).run Try.prog W = .ok (.string ⟨s.toArray⟩) W := by
  rcases h with ⟨p, c, rfl, rfl⟩ | ⟨b, o, cap, rfl, h1, h2⟩
  · cases p with
    | none => rw [Lib.run_convert_nil_bytes W 28 9 5 c Try.underlying28 Try.underlying5 Try.underlying9]
    | some a => exact run_convert_bytes_back (P := Try.prog) W 28 9 5 a c [] Try.underlying28 Try.underlying5 Try.underlying9 (fun j hj => by simp at hj)
  · exact run_convert_bytes_back (P := Try.prog) W 28 9 5 ⟨b, o, none⟩ cap s Try.underlying28 Try.underlying5 Try.underlying9 (fun j hj => by
      rw [Addr.add_lit]
      exact h2 j _ (by simp [B, hj]))
theorem load_bin {P : Program} (w W : World) (b o : Nat) (s : List UInt8) (h : ∀ (j : Nat) (x : Value), (B s)[j]? = some x → W.cell? ⟨b, o + j, none⟩ = some x) :
    Sem.run P (loadCellsFrom ⟨b, o, none⟩ 0 s.length #[]) W = .ok (B s).toArray W := by
  have h := run_firstCells_some (P := P) W 1 s.length ⟨b, o, none⟩ s.length s.length (B s) (by simp [B]) (fun j u hu => by rw [Addr.add_lit]; exact h j u hu)
  simpa [Builtin.firstCells, loadCells] using h
theorem bytes5 : Try.t5.bytes = 1 := by kernel_rfl
theorem next_small (l : Nat) (h : l ≤ 20000) : Builtin.nextslicecap l 0 ≤ 281474976710656 := by
  unfold Builtin.nextslicecap
  split <;> first | omega | (split <;> omega)
theorem eq28 (w : World) (a : Option Addr) (n c n' c' : Nat) : (binOp .eql 28 (.slice a n c) (.slice none n' c')).run Try.prog w = .ok (.bool a.isNone) w := Lib.run_eql_slice_nil w _ _ a n c n' c' Try.underlying28
theorem cell_new (w : World) (c : Array Value) (t i : Nat) : (w.alloc (.cells c t)).drew.cell? ⟨w.heap.size, i, none⟩ = c[i]? := by
  have h : (w.alloc (.cells c t)).drew.heap[w.heap.size]? = some (.cells c t) := heap_alloc_new w _
  unfold World.cell?
  rw [h]
  simp
/-- A row of bytes of the call's own. -/
def GivesB (s : List UInt8) (w : World) (e : Ending) (w' : World) : Prop := ∃ v, e = .returned v ∧ BytAt (w.heap.size ≤ ·) w' v s ∧ Below w.heap.size w w'
set_option maxRecDepth 100000 in
set_option maxHeartbeats 1000000 in
theorem c27 (s : List UInt8) (v : Value) (w : World) (hs : s.length ≤ 20000) (h : BIn w v s) : Calls Try.prog 27 #[v] w (GivesB s w) := by
  have heq := eq28
  rcases h with ⟨p, c, rfl, rfl⟩ | ⟨blk, off, cap, rfl, h1, h2⟩
  · cases p with
    | some a =>
      go_enter Try.func27, Try.ntmps27
      go_wp2
      go_ret
      exact ⟨_, rfl, .inr ⟨w.heap.size, _, rfl, Nat.le_refl _, by simp, fun j x hx => by simp [B] at hx⟩, (Below.refl _ w).alloc (Nat.le_refl _) _⟩
    | none =>
    go_enter Try.func27, Try.ntmps27
    go_wp2
    go_ret
    exact ⟨_, rfl, .inl ⟨rfl, rfl⟩, Below.refl _ _⟩
  · rcases Nat.eq_zero_or_pos s.length with h0 | hpos
    · have e : s = [] := List.eq_nil_of_length_eq_zero h0
      subst e
      simp only [List.length_nil]
      clear h1 h2
      go_enter Try.func27, Try.ntmps27
      go_wp2
      go_ret
      exact ⟨_, rfl, .inr ⟨w.heap.size, _, rfl, Nat.le_refl _, by simp, fun j x hx => by simp [B] at hx⟩, (Below.refl _ w).alloc (Nat.le_refl _) _⟩
    · have hld := load_bin (P := Try.prog) w (w.alloc (.cells #[] 5)).drew blk off s (fun j x hx => by
        show (w.alloc _).cell? _ = _
        rw [Below.cell ((Below.refl w.heap.size w).alloc (Nat.le_refl _) _) (p := ⟨blk, off + j, none⟩) (h1 hpos)]; exact h2 j x hx)
      have hns : ¬ (281474976710656 < Builtin.nextslicecap s.length 0 * Try.t5.bytes) := by
        have := next_small s.length hs
        rw [bytes5]; omega
      clear h1 h2
      have hBl := B_len s
      generalize hN : B s = bs at hld hBl
      generalize hL : s.length = l at *
      go_enter Try.func27, Try.ntmps27
      go_wp2
      go_ret
      refine ⟨_, rfl, ?_, (((Below.refl _ w).alloc (Nat.le_refl _) _).alloc (by simp) _).drew⟩
      refine .inr ⟨w.heap.size + 1, (Question.appendCap l 0 5).cut (w.tape w.drawn (Question.appendCap l 0 5)), ?_, by omega, by simp, fun j x hx => ?_⟩
      · rw [hL]; rfl
      rw [hN] at hx
      have e := cell_new (w.alloc (.cells #[] 5)) (bs.toArray ++ Builtin.zeroCells #[.int .u8 0] ((Question.appendCap l 0 5).cut (w.tape w.drawn (Question.appendCap l 0 5)) - l)) 5 j
      rw [show (w.alloc (.cells #[] 5)).heap.size = w.heap.size + 1 by simp] at e
      rw [e]
      have hj : j < bs.length := (List.getElem?_eq_some_iff.1 hx).1
      rw [Array.getElem?_append_left (by simpa using hj)]
      simpa using hx
end Go.Proofs.NT
