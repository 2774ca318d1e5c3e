/- Proved: a network's mails in memory; what 'own', 'place' and 'Send' come to. Each theorem says its own conditions. -/
import Derived.Test.YtopnmikijbajfaaNb
set_option linter.unusedVariables false
set_option linter.unusedSimpArgs false
namespace Go.Proofs.NT
open Go.RowKit Go.Ai
theorem own_below {w w' : World} {base e size n : Nat} {v : Value} {xs : List Value} (h : w.ownsRow base e size v n xs) (hb : Below w.heap.size w w') : w'.ownsRow base e size v n xs := by
  refine ⟨h.1, ?_⟩
  rcases h.2 with h | ⟨g, cap, cur, rfl, h1, h2, h3⟩
  · exact .inl h
  · exact .inr ⟨g, cap, cur, rfl, h1, (hb.block g (Array.getElem?_eq_some_iff.1 h2).1).trans h2, h3⟩
theorem own_keeps {ok : Nat → Prop} {w w' : World} {base e size n : Nat} {v : Value} {xs : List Value} (h : w.ownsRow base e size v n xs) (hb : Keeps ok w w') (ho : ∀ g, v.ownBlock = some g → ok g) : w'.ownsRow base e size v n xs := by
  refine ⟨h.1, ?_⟩
  rcases h.2 with h | ⟨g, cap, cur, rfl, h1, h2, h3⟩
  · exact .inl h
  · exact .inr ⟨g, cap, cur, rfl, h1, (hb.2 g (Array.getElem?_eq_some_iff.1 h2).1 (ho g rfl)).trans h2, h3⟩
theorem own_slice {w : World} {base e size n : Nat} {v : Value} {xs : List Value} (ho : w.ownsRow base e size v n xs) : ∃ p c, v = .slice p n c := by
  rcases ho.2 with ⟨h, e⟩ | ⟨g, c, _, h, _⟩
  · exact ⟨_, _, by rw [h, e]⟩
  · exact ⟨_, _, h⟩
/-- Nothing that was there has turned, but blocks of F. -/
structure Turn (F : Nat → Prop) (W W' : World) : Prop where
  os : W'.os = W.os
  tape : W'.tape = W.tape
  output : W'.output = W.output
  size : W.heap.size ≤ W'.heap.size
  block : ∀ b, b < W.heap.size → ¬ F b → W'.heap[b]? = W.heap[b]?
section
variable {F F' : Nat → Prop} {W W' W'' : World}
theorem Turn.of (h : Below W.heap.size W W') : Turn F W W' := ⟨h.os, h.tape, h.output, h.size, fun b hb _ => h.block b hb⟩
theorem Turn.refl (F : Nat → Prop) (W : World) : Turn F W W := ⟨rfl, rfl, rfl, Nat.le_refl _, fun _ _ _ => rfl⟩
theorem Turn.trans (h : Turn F W W') (k : Turn F' W' W'') (hF : ∀ b, b < W.heap.size → F' b → F b) : Turn F W W'' :=
  ⟨k.os.trans h.os, k.tape.trans h.tape, k.output.trans h.output, Nat.le_trans h.size k.size, fun b hb hn => (k.block b (Nat.lt_of_lt_of_le hb h.size) (fun x => hn (hF b hb x))).trans (h.block b hb hn)⟩
theorem Turn.more (h : Turn F W W') (hF : ∀ b, F b → F' b) : Turn F' W W' := ⟨h.os, h.tape, h.output, h.size, fun b hb hn => h.block b hb fun x => hn (hF b x)⟩
theorem Turn.keeps {ok : Nat → Prop} (h : Turn F W W') (hn : ∀ b, b < W.heap.size → ok b → ¬ F b) : Keeps ok W W' := ⟨h.size, fun b hb ho => h.block b hb (hn b hb ho)⟩
theorem Turn.grown {row : Option Nat} (h : W.grownBy W' row) (hr : ∀ g, row = some g → F g) : Turn F W W' := ⟨h.os, h.tape, h.output, h.size, fun b hb hn => h.block b hb fun e => hn (hr b e.symm)⟩
theorem Turn.set (W : World) (p : Addr) (u : Value) (hF : F p.block) : Turn F W (W.setCell p u) := ⟨rfl, rfl, rfl, by rw [World.size_setCell]; exact Nat.le_refl _, fun b hb hn => Below.heap_setCell _ _ _ _ (fun e => hn (e ▸ hF))⟩
theorem Turn.below {n : Nat} {W0 : World} (h : Turn F W W') (h0 : Below n W0 W) (hF : ∀ b, F b → n ≤ b) (hn : n ≤ W.heap.size) : Below n W0 W' :=
  ⟨h.os.trans h0.os, h.tape.trans h0.tape, h.output.trans h0.output, Nat.le_trans h0.size h.size, fun b hb => (h.block b (by omega) fun x => by have := hF b x; omega).trans (h0.block b hb)⟩
end
/-- A network of these mails; all its blocks are of F. -/
def NetAt (F : Nat → Prop) (bn : Nat) (L : List Ml) (W : World) : Prop :=
  ∃ lv xs, W.heap[bn]? = some (.cells #[lv] 56 (0, 0)) ∧ W.ownsRow 0 39 3 lv L.length xs ∧ (∀ g, lv.ownBlock = some g → F g ∧ g ≠ bn) ∧ F bn ∧ Rows mlE (fun b => F b ∧ b ≠ bn ∧ lv.ownBlock ≠ some b) W xs L
theorem NetAt.lt {F : Nat → Prop} {bn : Nat} {L : List Ml} {W : World} (h : NetAt F bn L W) : bn < W.heap.size := by
  obtain ⟨lv, xs, h1, _⟩ := h
  exact (Array.getElem?_eq_some_iff.1 h1).1
theorem NetAt.keeps {F : Nat → Prop} {bn : Nat} {L : List Ml} {W W' : World} (h : NetAt F bn L W) (hB : Keeps F W W') : NetAt F bn L W' := by
  have hl := h.lt
  obtain ⟨lv, xs, h1, h2, h3, h4, h5⟩ := h
  exact ⟨lv, xs, (hB.2 bn hl h4).trans h1, own_keeps h2 hB fun g hg => (h3 g hg).1, h3, h4, h5.mono (hB.less fun b _ ho => ho.1)⟩
theorem NetAt.below {F : Nat → Prop} {bn : Nat} {L : List Ml} {W W' : World} (h : NetAt F bn L W) (hB : Below W.heap.size W W') : NetAt F bn L W' := h.keeps (Keeps.below hB)
theorem NetAt.cell {F : Nat → Prop} {bn : Nat} {L : List Ml} {W : World} (h : NetAt F bn L W) : ∃ p c, W.cell? ⟨bn, 0, none⟩ = some (.slice p L.length c) := by
  obtain ⟨lv, xs, h1, h2, _⟩ := h
  obtain ⟨p, c, rfl⟩ := own_slice h2
  exact ⟨p, c, cell_of_heap h1 0⟩
/-- The cells of a mail. -/
theorem NetAt.get {F : Nat → Prop} {bn : Nat} {L : List Ml} {W : World} {i : Nat} {m : Ml} (h : NetAt F bn L W) (e : L[i]? = some m) : ∃ g c p pl pc, W.cell? ⟨bn, 0, none⟩ = some (.slice (some ⟨g, 0, none⟩) L.length c) ∧ g < W.heap.size ∧ W.cell? ⟨g, i * 3, none⟩ = some (.int .u32 m.a) ∧ W.cell? ⟨g, i * 3 + 1, none⟩ = some (.int .u32 m.b) ∧
    W.cell? ⟨g, i * 3 + 2, none⟩ = some (.slice p pl pc) ∧ BytAt (fun b => F b ∧ b ≠ bn ∧ g ≠ b) W (.slice p pl pc) m.s := by
  obtain ⟨lv, xs, h1, h2, h3, h4, h5⟩ := h
  obtain ⟨v, ec, hb⟩ := h5.2 i m e
  have hi := (List.getElem?_eq_some_iff.1 e).1
  obtain ⟨p, c, rfl⟩ := hb.slice
  rcases h2.2 with ⟨rfl, e0⟩ | ⟨g, cap, cur, rfl, hg, hh, _⟩
  · omega
  · have hc : ∀ (j : Nat) (x : Value), ((xs.drop (i * 3)).take 3)[j]? = some x → W.cell? ⟨g, i * 3 + j, none⟩ = some x := fun j x hx => by
      have hj : j < 3 := by have := (List.getElem?_eq_some_iff.1 hx).1; rw [List.length_take] at this; omega
      rw [List.getElem?_take, if_pos hj, List.getElem?_drop] at hx
      have := h2.cells (g := g) rfl (i * 3 + j) x hx
      rw [Addr.add_lit, Nat.zero_add] at this
      exact this
    have ec : (xs.drop (i * 3)).take 3 = [.int .u32 m.a, .int .u32 m.b, .slice p m.s.length c] := ec
    rw [ec] at hc
    exact ⟨g, cap, p, _, c, cell_of_heap h1 0, (Array.getElem?_eq_some_iff.1 hh).1, hc 0 _ rfl, hc 1 _ rfl, hc 2 _ rfl, hb.weaken fun b _ ho => ⟨ho.1, ho.2.1, fun e => ho.2.2 (by rw [e]; rfl)⟩⟩
def GivesM (a b : Int) (s : List UInt8) (w : World) (e : Ending) (w' : World) : Prop := ∃ p l c, e = .returned (.agg #[.int .u32 a, .int .u32 b, .slice p l c]) ∧ BytAt (w.heap.size ≤ ·) w' (.slice p l c) s ∧ Below w.heap.size w w'
theorem BytAt.sets {ok ok' : Nat → Prop} {W W' : World} {v : Value} {s : List UInt8} (h : BytAt ok W v s) (hK : Keeps ok' W W') (hl : ∀ b, b < W.heap.size → ok b → ok' b ∧ ok' b) (hb : ∀ b, ok' b → ok b) : BytAt ok W' v s := (BytAt.mono (h.weaken fun b hb' ho => (hl b hb' ho).1) hK).weaken fun b _ ho => hb b ho
set_option maxRecDepth 100000 in
set_option maxHeartbeats 1000000 in
theorem c19 (a b : Int) (s : List UInt8) (v : Value) (w : World) (hs : s.length ≤ 20000) (h : BIn w v s) : Calls Try.prog 19 #[.agg #[.int .u32 a, .int .u32 b, v]] w (GivesM a b s w) := by
  obtain ⟨p, c, rfl⟩ := h.slice
  have H := Lib.hid h
  clear h
  go_enter Try.func19, Try.ntmps19
  go_wp2_with (go_at_call 27; refine (c27 s _ _ hs (H.out.mono (((Below.refl _ w).alloc (Nat.le_refl _) _).alloc (by simp) _))).mono ?_; rintro e w2 ⟨v2, rfl, hb2, hB2⟩; obtain ⟨p2, c2, rfl⟩ := hb2.slice; have q0 := (hB2.cell (p := ⟨w.heap.size, 0, none⟩) (by simp; omega)).trans (show _ = some (Value.int .u32 a) by simp [go_sem]); have q1 := (hB2.cell (p := ⟨w.heap.size, 1, none⟩) (by simp; omega)).trans (show _ = some (Value.int .u32 b) by simp [go_sem]); have q2 := (hB2.cell (p := ⟨w.heap.size, 2, none⟩) (by simp; omega)).trans (show _ = some (Value.slice p s.length c) by simp [go_sem]); have q3 := (hB2.frozen (p := ⟨w.heap.size, 2, none⟩) (by simp; omega)).trans (show _ = false by simp [go_sem]); have r0 := (hB2.cell (p := ⟨w.heap.size + 1, 0, none⟩) (by simp)).trans (show _ = some (Value.int .u32 0) by simp [go_sem]); have r1 := (hB2.cell (p := ⟨w.heap.size + 1, 1, none⟩) (by simp)).trans (show _ = some (Value.int .u32 0) by simp [go_sem]); have r2 := (hB2.cell (p := ⟨w.heap.size + 1, 2, none⟩) (by simp)).trans (show _ = some (Value.slice none 0 0) by simp [go_sem]); have t0 := (hB2.frozen (p := ⟨w.heap.size + 1, 0, none⟩) (by simp)).trans (show _ = false by simp [go_sem]); have t1 := (hB2.frozen (p := ⟨w.heap.size + 1, 1, none⟩) (by simp)).trans (show _ = false by simp [go_sem]); have t2 := (hB2.frozen (p := ⟨w.heap.size + 1, 2, none⟩) (by simp)).trans (show _ = false by simp [go_sem]); have hz2 : w.heap.size + 1 < w2.heap.size := (by have := hB2.size; simp at this; omega); have HB2 := Lib.hid hb2; have HBB := Lib.hid hB2; clear hb2 hB2)
  refine bodyPost_ret (v := .agg #[.int .u32 a, .int .u32 b, .slice p2 s.length c2]) (by simp [results, Try.results19, go_sem, q0, q1, q2, q3, r0, r1, r2, t0, t1, t2]) rfl ⟨p2, _, c2, rfl, ?_, ?_⟩
  · refine BytAt.weaken (BytAt.mono (BytAt.weaken HB2.out (ok' := fun b => w.heap.size + 1 < b) (fun b hb ho => by simp at ho; omega)) ⟨by simp, fun b hb ho => ?_⟩) (fun b hb ho => by show w.heap.size ≤ b; omega)
    repeat rw [Below.heap_setCell _ _ _ _ (by simp; omega)]
  · have h0 : Below w.heap.size w w2 := (((Below.refl _ w).alloc (Nat.le_refl _) _).alloc (by simp) _).trans (HBB.out.mono (by simp; omega))
    repeat refine Below.setCell ?_ (by simp) _
    exact h0
end Go.Proofs.NT
