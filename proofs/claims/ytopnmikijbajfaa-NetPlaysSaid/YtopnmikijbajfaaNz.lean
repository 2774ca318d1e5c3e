/- Proved: what the law 'NetPlays' comes to. Each theorem says its own conditions. -/
import Derived.Test.YtopnmikijbajfaaNx
import Derived.Test.YtopnmikijbajfaaNy
set_option linter.unusedVariables false
set_option linter.unusedSimpArgs false
namespace Go.Proofs.NT
open Go.RowKit Go.Ai
/-- The cells of a mail in Mails' row. -/
theorem rows_get {ok : Nat → Prop} {W : World} {v : Value} {xs : List Value} {L : List Ml} (h2 : W.ownsRow 0 39 3 v L.length xs) (h : Rows mlE ok W xs L) {i : Nat} {m : Ml} (e : L[i]? = some m) : ∃ g c pl pc, v = .slice (some ⟨g, 0, none⟩) L.length c ∧ g < W.heap.size ∧ W.cell? ⟨g, i * 3, none⟩ = some (.int .u32 m.a) ∧ W.cell? ⟨g, i * 3 + 1, none⟩ = some (.int .u32 m.b) ∧
    W.cell? ⟨g, i * 3 + 2, none⟩ = some (.slice pl m.s.length pc) ∧ xs[i * 3 + 2]? = some (.slice pl m.s.length pc) ∧ BytAt ok W (.slice pl m.s.length pc) m.s := by
  obtain ⟨u, ec, hb⟩ := h.2 i m e
  have hi := (List.getElem?_eq_some_iff.1 e).1
  obtain ⟨p, c, rfl⟩ := hb.slice
  have ec : (xs.drop (i * 3)).take 3 = [.int .u32 m.a, .int .u32 m.b, .slice p m.s.length c] := ec
  have hx : ∀ (j : Nat) (x : Value), j < 3 → [Value.int .u32 m.a, .int .u32 m.b, .slice p m.s.length c][j]? = some x → xs[i * 3 + j]? = some x := fun j x hj hx => by
    rw [← ec, List.getElem?_take, if_pos hj, List.getElem?_drop] at hx
    exact hx
  obtain ⟨g, cap, rfl, _, hg⟩ := World.ownsRow.form h2 (by omega)
  have hc : ∀ (j : Nat) (x : Value), xs[j]? = some x → W.cell? ⟨g, j, none⟩ = some x := fun j x hx => by
    have := h2.cells (g := g) rfl j x hx
    rwa [Addr.add_lit, Nat.zero_add] at this
  exact ⟨g, cap, p, c, rfl, hg, hc _ _ (hx 0 _ (by omega) rfl), hc _ _ (hx 1 _ (by omega) rfl), hc _ _ (hx 2 _ (by omega) rfl), hx 2 _ (by omega) rfl, hb⟩
theorem byt_block {ok : Nat → Prop} {W W' : World} {pl : Option Addr} {l c : Nat} {s : List UInt8} (h : BytAt ok W (.slice pl l c) s) (hs : W.heap.size ≤ W'.heap.size) (he : ∀ p, pl = some p → W'.heap[p.block]? = W.heap[p.block]?) : BIn W' (.slice pl l c) s := by
  rcases h with ⟨e, rfl⟩ | ⟨b, cap, e, _, h1, h2⟩
  · cases e; exact .inl ⟨_, _, rfl, rfl⟩
  · cases e
    refine .inr ⟨b, 0, _, rfl, fun _ => by omega, fun j x hx => ?_⟩
    rw [Nat.zero_add]
    exact (World.cell?_of_block (a := ⟨b, j, none⟩) (he ⟨b, 0, none⟩ rfl)).trans (h2 j x hx)
/-- Ahead of a round of the comparing loop. -/
structure I3 (wa wb : World) (v3 : Value) (xs : List Value) (k : Nat) (wr : World) : Prop where
  below : Below wa.heap.size wa wr
  size : wb.heap.size ≤ wr.heap.size
  row : ∀ g, v3.ownBlock = some g → wr.heap[g]? = wb.heap[g]?
  rest : ∀ (i : Nat) (p : Addr) (l c : Nat), k ≤ i → xs[i * 3 + 2]? = some (.slice (some p) l c) → wr.heap[p.block]? = wb.heap[p.block]?
/-- Bytes cleared, or none. -/
theorem clear_mail {ok : Nat → Prop} {W W' : World} {pl : Option Addr} {s : List UInt8} {c : Nat} (h : BytAt ok W (.slice pl s.length c) s) (he : ∀ p, pl = some p → W'.heap[p.block]? = W.heap[p.block]?) (hf : Fz W (.slice pl s.length c)) :
    ∃ w', (∀ ty, (Builtin.clear_ #[28] ty #[.slice pl s.length c]).run Try.prog W' = .ok (.tuple #[]) w') ∧ Turn (fun b => ∃ p, pl = some p ∧ p.block = b) W' w' := by
  rcases h with ⟨e, rfl⟩ | ⟨b, cap, e, _, h1, h2⟩
  · cases e
    exact ⟨W', fun ty => by simp [Builtin.clear_, run_underlying Try.underlying28, zero5], Turn.refl _ _⟩
  · cases e
    have heb := he _ rfl
    obtain ⟨w', q1, q2⟩ := clear_own (g := b) (n := s.length) (c := c) (w := W') fun j hj => by
      have hj' : j < (B s).length := by rw [B_len]; exact hj
      rw [World.cell?_of_block (a := ⟨b, j, none⟩) heb, World.frozen?_of_block (a := ⟨b, j, none⟩) heb, h2 j _ (List.getElem?_eq_getElem hj')]
      exact ⟨rfl, hf _ _ _ rfl j⟩
    exact ⟨w', q1, q2.more fun x e => ⟨_, rfl, e.symm⟩⟩
theorem I3.next {wa wb wr w2 : World} {v3 : Value} {xs : List Value} {k : Nat} {pl : Option Addr} {l c : Nat} (h : I3 wa wb v3 xs k wr) (hB : Below wr.heap.size wr w2) {w5 : World} (ht : Turn (fun b => ∃ p, pl = some p ∧ p.block = b) w2 w5) (hx : xs[k * 3 + 2]? = some (.slice pl l c)) (hd : Dis xs) (hblk : ∀ p, pl = some p → wa.heap.size ≤ p.block ∧ v3.ownBlock ≠ some p.block) (hlt : ∀ (i : Nat) (p : Addr) (l c : Nat), xs[i * 3 + 2]? = some (.slice (some p) l c) → p.block < wb.heap.size) (hg : ∀ g, v3.ownBlock = some g → g < wb.heap.size) (hwa : wa.heap.size ≤ wb.heap.size) : I3 wa wb v3 xs (k + 1) w5 := by
  have hsz := h.size
  have s2 := hB.size
  have s5 := ht.size
  refine ⟨ht.below (h.below.trans (hB.mono (by omega))) (fun b e => ?_) (by omega), by omega, fun g e => ?_, fun i p l' c' hi e => ?_⟩
  · obtain ⟨p, e1, e2⟩ := e
    have := (hblk p e1).1
    omega
  · have hgl := hg g e
    rw [ht.block g (by omega) (fun ⟨p, e1, e2⟩ => (hblk p e1).2 (by rw [e2]; exact e)), hB.block g (by omega)]
    exact h.row g e
  · have hl := hlt i p l' c' e
    rw [ht.block p.block (by omega) (fun ⟨q, e1, e2⟩ => by subst e1; exact hd k i q l c p l' c' (by omega) hx e e2), hB.block p.block (by omega)]
    exact h.rest i p l' c' (by omega) e
end Go.Proofs.NT
