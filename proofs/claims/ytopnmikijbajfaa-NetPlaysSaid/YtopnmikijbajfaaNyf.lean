/- Proved: what Clone and a mail's copy come to; nothing of the new blocks is frozen. Each theorem says its own conditions. -/
import Derived.Test.YtopnmikijbajfaaNe
set_option linter.unusedVariables false
set_option linter.unusedSimpArgs false
namespace Go.Proofs.NT
open Go.RowKit Go.Ai
theorem fz_new (w : World) (c : Array Value) (t j : Nat) : (w.alloc (.cells c t)).frozen? ⟨w.heap.size, j, none⟩ = false := by
  have h := heap_alloc_new w (.cells c t)
  unfold World.frozen?
  rw [h]
  simp
/-- Nothing of a row's block is frozen. -/
def Fz (W : World) (v : Value) : Prop := ∀ (p : Addr) (l c : Nat), v = .slice (some p) l c → ∀ j, W.frozen? ⟨p.block, j, none⟩ = false
def GivesBF (s : List UInt8) (w : World) (e : Ending) (w' : World) : Prop := ∃ v, e = .returned v ∧ BytAt (w.heap.size ≤ ·) w' v s ∧ Below w.heap.size w w' ∧ Fz w' v
def GivesMF (a b : Int) (s : List UInt8) (w : World) (e : Ending) (w' : World) : Prop := ∃ p l c, e = .returned (.agg #[.int .u32 a, .int .u32 b, .slice p l c]) ∧ BytAt (w.heap.size ≤ ·) w' (.slice p l c) s ∧ Below w.heap.size w w' ∧ Fz w' (.slice p l c)
set_option maxRecDepth 100000 in
set_option maxHeartbeats 1000000 in
theorem c27f (s : List UInt8) (v : Value) (w : World) (hs : s.length ≤ 20000) (h : BIn w v s) : Calls Try.prog 27 #[v] w (GivesBF s w) := by
  have heq := eq28
  rcases h with ⟨p, c, rfl, rfl⟩ | ⟨blk, off, cap, rfl, h1, h2⟩
  · cases p with
    | some a =>
      go_enter Try.func27, Try.ntmps27
      go_wp2
      go_ret
      exact ⟨_, rfl, .inr ⟨w.heap.size, _, rfl, Nat.le_refl _, by simp, fun j x hx => by simp [B] at hx⟩, (Below.refl _ w).alloc (Nat.le_refl _) _, fun p l c e j => by cases e; exact fz_new w _ _ j⟩
    | none =>
    go_enter Try.func27, Try.ntmps27
    go_wp2
    go_ret
    exact ⟨_, rfl, .inl ⟨rfl, rfl⟩, Below.refl _ _, fun p l c e => by cases e⟩
  · rcases Nat.eq_zero_or_pos s.length with h0 | hpos
    · have e : s = [] := List.eq_nil_of_length_eq_zero h0
      subst e
      simp only [List.length_nil]
      clear h1 h2
      go_enter Try.func27, Try.ntmps27
      go_wp2
      go_ret
      exact ⟨_, rfl, .inr ⟨w.heap.size, _, rfl, Nat.le_refl _, by simp, fun j x hx => by simp [B] at hx⟩, (Below.refl _ w).alloc (Nat.le_refl _) _, fun p l c e j => by cases e; exact fz_new w _ _ j⟩
    · have hld := load_bin (P := Try.prog) w (w.alloc (.cells #[] 5)).drew blk off s (fun j x hx => by
        show (w.alloc _).cell? _ = _
        rw [Below.cell ((Below.refl w.heap.size w).alloc (Nat.le_refl _) _) (p := ⟨blk, off + j, none⟩) (h1 hpos)]; exact h2 j x hx)
      have hns : ¬ (281474976710656 < Builtin.nextslicecap s.length 0 * Try.t5.bytes) := by
        have := next_small s.length hs
        rw [bytes5]; omega
      clear h1 h2
      have hBl := B_len s
      generalize hN : B s = bs at hld hBl
      generalize hL : s.length = l at *
      go_enter Try.func27, Try.ntmps27
      go_wp2
      go_ret
      refine ⟨_, rfl, ?_, (((Below.refl _ w).alloc (Nat.le_refl _) _).alloc (by simp) _).drew, fun p l c e j => by cases e; have h := fz_new (w.alloc (.cells #[] 5)) (bs.toArray ++ Builtin.zeroCells #[.int .u8 0] ((Question.appendCap l 0 5).cut (w.tape w.drawn (Question.appendCap l 0 5)) - l)) 5 j; simp at h ⊢⟩
      refine .inr ⟨w.heap.size + 1, (Question.appendCap l 0 5).cut (w.tape w.drawn (Question.appendCap l 0 5)), ?_, by omega, by simp, fun j x hx => ?_⟩
      · rw [hL]; rfl
      rw [hN] at hx
      have e := cell_new (w.alloc (.cells #[] 5)) (bs.toArray ++ Builtin.zeroCells #[.int .u8 0] ((Question.appendCap l 0 5).cut (w.tape w.drawn (Question.appendCap l 0 5)) - l)) 5 j
      rw [show (w.alloc (.cells #[] 5)).heap.size = w.heap.size + 1 by simp] at e
      rw [e]
      have hj : j < bs.length := (List.getElem?_eq_some_iff.1 hx).1
      rw [Array.getElem?_append_left (by simpa using hj)]
      simpa using hx
set_option maxRecDepth 100000 in
set_option maxHeartbeats 1000000 in
theorem c19f (a b : Int) (s : List UInt8) (v : Value) (w : World) (hs : s.length ≤ 20000) (h : BIn w v s) : Calls Try.prog 19 #[.agg #[.int .u32 a, .int .u32 b, v]] w (GivesMF a b s w) := by
  obtain ⟨p, c, rfl⟩ := h.slice
  have H := Lib.hid h
  clear h
  go_enter Try.func19, Try.ntmps19
  go_wp2_with (go_at_call 27; refine (c27f s _ _ hs (H.out.mono (((Below.refl _ w).alloc (Nat.le_refl _) _).alloc (by simp) _))).mono ?_; rintro e w2 ⟨v2, rfl, hb2, hB2, hfz⟩; obtain ⟨p2, c2, rfl⟩ := hb2.slice; have q0 := (hB2.cell (p := ⟨w.heap.size, 0, none⟩) (by simp; omega)).trans (show _ = some (Value.int .u32 a) by simp [go_sem]); have q1 := (hB2.cell (p := ⟨w.heap.size, 1, none⟩) (by simp; omega)).trans (show _ = some (Value.int .u32 b) by simp [go_sem]); have q2 := (hB2.cell (p := ⟨w.heap.size, 2, none⟩) (by simp; omega)).trans (show _ = some (Value.slice p s.length c) by simp [go_sem]); have q3 := (hB2.frozen (p := ⟨w.heap.size, 2, none⟩) (by simp; omega)).trans (show _ = false by simp [go_sem]); have r0 := (hB2.cell (p := ⟨w.heap.size + 1, 0, none⟩) (by simp)).trans (show _ = some (Value.int .u32 0) by simp [go_sem]); have r1 := (hB2.cell (p := ⟨w.heap.size + 1, 1, none⟩) (by simp)).trans (show _ = some (Value.int .u32 0) by simp [go_sem]); have r2 := (hB2.cell (p := ⟨w.heap.size + 1, 2, none⟩) (by simp)).trans (show _ = some (Value.slice none 0 0) by simp [go_sem]); have t0 := (hB2.frozen (p := ⟨w.heap.size + 1, 0, none⟩) (by simp)).trans (show _ = false by simp [go_sem]); have t1 := (hB2.frozen (p := ⟨w.heap.size + 1, 1, none⟩) (by simp)).trans (show _ = false by simp [go_sem]); have t2 := (hB2.frozen (p := ⟨w.heap.size + 1, 2, none⟩) (by simp)).trans (show _ = false by simp [go_sem]); have hz2 : w.heap.size + 1 < w2.heap.size := (by have := hB2.size; simp at this; omega); have HB2 := Lib.hid hb2; have HFZ := Lib.hid hfz; clear hfz; have HBB := Lib.hid hB2; clear hb2 hB2)
  refine bodyPost_ret (v := .agg #[.int .u32 a, .int .u32 b, .slice p2 s.length c2]) (by simp [results, Try.results19, go_sem, q0, q1, q2, q3, r0, r1, r2, t0, t1, t2]) rfl ⟨p2, _, c2, rfl, ?_, ?_, ?_⟩
  · refine BytAt.weaken (BytAt.mono (BytAt.weaken HB2.out (ok' := fun b => w.heap.size + 1 < b) (fun b hb ho => by simp at ho; omega)) ⟨by simp, fun b hb ho => ?_⟩) (fun b hb ho => by show w.heap.size ≤ b; omega)
    repeat rw [Below.heap_setCell _ _ _ _ (by simp; omega)]
  · have h0 : Below w.heap.size w w2 := (((Below.refl _ w).alloc (Nat.le_refl _) _).alloc (by simp) _).trans (HBB.out.mono (by simp; omega))
    repeat refine Below.setCell ?_ (by simp) _
    exact h0
  · intro p l c e j
    cases e
    have hb : w.heap.size + 1 < p.block := by
      rcases HB2.out with ⟨e, _⟩ | ⟨b, cap, e, ho, _⟩
      · cases e
      · cases e; simp at ho; show w.heap.size + 1 < b; omega
    refine (World.frozen?_of_block (a := ⟨p.block, j, none⟩) ?_).trans (HFZ.out p _ _ rfl j)
    repeat rw [Below.heap_setCell _ _ _ _ (by simp; omega)]
end Go.Proofs.NT
