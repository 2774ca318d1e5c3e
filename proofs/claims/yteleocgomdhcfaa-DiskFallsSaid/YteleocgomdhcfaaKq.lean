/- Proved: an append of bytes that can be read. Each theorem says its own conditions. -/
import Derived.Test.YteleocgomdhcfaaKp
import Derived.Deep.AppendSrc
import Derived.Deep.Upon
set_option linter.unusedVariables false
set_option linter.unusedSimpArgs false
set_option linter.unusedSectionVars false
namespace Go.Proofs.DK
open Go.RowKit
variable [Okb]
/-- The cells of bytes. -/
def B (s : List UInt8) : List Value := s.map fun x => Value.int .u8 (x.toNat : Int)
theorem B_len (s : List UInt8) : (B s).length = s.length := by simp [B]
theorem B_app (s t : List UInt8) : B (s ++ t) = B s ++ B t := by simp [B]
theorem info5 : (Try.prog.info? 5).map (fun i => (i.zero, i.size, i.bytes)) = some (some (.int .u8 0), 1, 1) := by kernel_rfl
theorem own_empty5 (w : World) (N : Nat) (hN : N ≤ w.heap.size) : (w.alloc (.cells #[] 5)).ownsRow N 5 1 (.slice (some ⟨w.heap.size, 0, none⟩) 0 0) 0 [] :=
  ⟨rfl, .inr ⟨w.heap.size, 0, #[], rfl, hN, heap_alloc_new w _, Nat.le_refl _, Nat.zero_le _, rfl, rfl⟩⟩
/-- Own bytes can be read. -/
theorem own_rd {N : Nat} {W : World} {p : Option Addr} {l c : Nat} {s : List UInt8} (h : W.ownsRow N 5 1 (.slice p l c) s.length (B s)) (hok : ∀ g, N ≤ g → Okb.ok g) : Rd W (.slice p l c) s ∧ l = s.length ∧ ∀ g, (Value.slice p l c).ownBlock = some g → N ≤ g := by
  have h0 := h
  obtain ⟨p', c', hv⟩ := own_slice h
  cases hv
  refine ⟨?_, rfl, fun g hg => ?_⟩
  · rcases h.2 with ⟨e, e0⟩ | ⟨g, cap, cur, e, hg, hh, hle, _⟩
    · simp only [Value.slice.injEq] at e
      obtain ⟨rfl, _, rfl⟩ := e
      exact ⟨none, 0, rfl, Nat.le_of_eq e0, fun j x hx => by have := (List.getElem?_eq_some_iff.1 hx).1; omega⟩
    · cases e
      refine ⟨_, _, rfl, hle, fun j x hx => ⟨g, 0, rfl, (Array.getElem?_eq_some_iff.1 hh).1, ?_⟩⟩
      have := World.ownsRow.cells h0 (g := g) rfl j (.int .u8 x.toNat) (by simp [B, hx])
      rw [Addr.add_lit] at this
      exact ⟨this, hok g hg⟩
  · exact (World.ownsRow.lt h0 g hg).1
/-- An append onto a row of bytes of one's own, of bytes that can be read. -/
theorem run_app_rd {W : World} {N gv n cv : Nat} {xs : List Value} {u : Value} {bl : List UInt8} (hown : W.ownsRow N 5 1 (.slice (some ⟨gv, 0, none⟩) n cv) n xs) (hN : N ≤ W.heap.size) (hu : Rd W u bl) (hsz : n + bl.length ≤ 4000000) :
    ∃ g cap W', (Builtin.append_ #[33, 33] 33 #[.slice (some ⟨gv, 0, none⟩) n cv, u]).run Try.prog W = .ok (.slice (some ⟨g, 0, none⟩) (n + bl.length) cap) W' ∧ W'.ownsRow N 5 1 (.slice (some ⟨g, 0, none⟩) (n + bl.length) cap) (n + bl.length) (xs ++ B bl) ∧ W.grownBy W' (some gv) := by
  obtain ⟨i0, hi0, hz0, hz1, hz2⟩ := info_parts info5
  obtain ⟨p, c, rfl, hle, hr⟩ := hu
  cases p with
  | some a =>
    rcases Nat.eq_zero_or_pos bl.length with h0 | hpos
    · have e : bl = [] := List.eq_nil_of_length_eq_zero h0
      subst e
      have hcap : n ≤ cv := by
        rcases hown.2 with ⟨e, _⟩ | ⟨g, cap, cur, e, hg, hh, hle, _⟩
        · cases e
        · cases e; exact hle
      refine ⟨gv, cv, W, run_append_nothing W 33 33 33 5 i0 Try.underlying33 hi0 _ n cv hcap _ (Src.ofSlice W Try.underlying33 a 0 c [] (by simp) (fun j u hj => by simp at hj) (fun u hu => by cases hu)), ?_, ?_⟩
      · simpa [B] using hown
      · exact ⟨rfl, rfl, rfl, Nat.le_refl _, fun _ _ _ => rfl⟩
    · obtain ⟨b, o, hp, _, _⟩ := hr 0 bl[0] (List.getElem?_eq_getElem hpos)
      cases hp
      obtain ⟨g, cap, W', hrun, h2, h3, _, h5⟩ := run_append_lies (P := Try.prog) (w := W) 33 33 N 5 i0 _ 1 1 Try.underlying33 hi0 hz0 hz1 hz2 rfl (by omega) _ n xs hown ⟨b, o, none⟩ bl.length c (B bl) (by rw [B_len]; omega) (fun j u hj => by
        unfold B at hj
        rw [List.getElem?_map] at hj
        obtain ⟨x, hx, rfl⟩ := Option.map_eq_some_iff.1 hj
        obtain ⟨b', o', hp', _, hc⟩ := hr j x hx
        cases hp'
        rw [Addr.add_lit]
        exact hc.1) (by simp [B, Value.oneCell']) hpos (by unfold maxLen; omega) (by omega) hN _ rfl
      exact ⟨g, cap, W', hrun, h2, h3⟩
  | none =>
    have e : bl = [] := by
      cases bl with
      | nil => rfl
      | cons x xs => obtain ⟨b, o, hp, _⟩ := hr 0 x rfl; cases hp
    subst e
    have hcap : n ≤ cv := by
      rcases hown.2 with ⟨e, _⟩ | ⟨g, cap, cur, e, hg, hh, hle, _⟩
      · cases e
      · cases e; exact hle
    refine ⟨gv, cv, W, run_append_nothing W 33 33 33 5 i0 Try.underlying33 hi0 _ n cv hcap _ (Src.ofNil W Try.underlying33 c), ?_, ?_⟩
    · simpa [B] using hown
    · exact ⟨rfl, rfl, rfl, Nat.le_refl _, fun _ _ _ => rfl⟩
/-- The same, at a plain region's list. -/
theorem wpList_app_rd {ops : Array Oper} {rest : List Oper} {o : Oper} {a : Act} {W : World} {Q : Exit → Act → World → Prop} (hgd : o.guard = none) (hty : o.type = 33) (s x : Operand)
    (ho : o.op = .call { callee := .builtin .append, args := #[s, x], argTypes := #[33, 33] }) {N gv n cv : Nat} {xs : List Value} {u : Value} {bl : List UInt8} (m : Nat) (hm : n + bl.length = m) (hs : a.eval s = .slice (some ⟨gv, 0, none⟩) n cv) (hx : a.eval x = u)
    (hown : W.ownsRow N 5 1 (.slice (some ⟨gv, 0, none⟩) n cv) n xs) (hN : N ≤ W.heap.size) (hu : Rd W u bl) (hsz : n + bl.length ≤ 4000000)
    (h : ∀ g cap W', W'.ownsRow N 5 1 (.slice (some ⟨g, 0, none⟩) m cap) m (xs ++ B bl) → W.grownBy W' (some gv) → wpList Try.prog ops Q rest (a.put o.dst (.slice (some ⟨g, 0, none⟩) m cap)) W') : wpList Try.prog ops Q (o :: rest) a W :=
  wpList_plain hgd fun _ hK => by
    subst hm
    obtain ⟨g, cap, W', hrun, h2, h3⟩ := run_app_rd hown hN hu hsz
    unfold Oper.wp execOp
    simp only [ho, hty, resolve, invoke, builtin, Sem.run_bind, Sem.run_pure, Result.andThen_ok, List.map_toArray, List.map_cons, List.map_nil, hs, hx, hrun]
    exact hK _ _ (h g cap W' h2 h3)
/-- Behind such an append. -/
theorem grown_below {N gv : Nat} {w0 W W' : World} (hB : Below N w0 W) (hN : N ≤ W.heap.size) (hg : N ≤ gv) (h : W.grownBy W' (some gv)) : Below N w0 W' := hB.grown h hN fun k e => by cases e; exact hg
theorem Rd.keep {W W' : World} {v : Value} {l : List UInt8} (h : Rd W v l) (hk : ∀ b, b < W.heap.size → W'.heap[b]? = W.heap[b]?) (hs : W.heap.size ≤ W'.heap.size) : Rd W' v l := by
  obtain ⟨p, c, rfl, hl, h⟩ := h
  refine ⟨p, c, rfl, hl, fun j x hx => ?_⟩
  obtain ⟨b, o, hp, hb, hc⟩ := h j x hx
  exact ⟨b, o, hp, Nat.lt_of_lt_of_le hb hs, (World.cell?_of_block (a := ⟨b, o + j, none⟩) (hk b hb)).trans hc.1, hc.2⟩
theorem rd_nil (W : World) : Rd W (.slice none 0 0) [] := ⟨none, 0, rfl, Nat.le_refl _, fun j x hx => by simp at hx⟩
/-- Bytes that can be read whatever stands in two blocks. -/
def Tag (s0 : Nat) (W : World) (v : Value) (l : List UInt8) : Prop := (∃ p c, v = .slice p l.length c) ∧ ∀ W' : World, W.heap.size ≤ W'.heap.size → (∀ b, b < W.heap.size → b ≠ s0 → b ≠ s0 + 1 → W'.heap[b]? = W.heap[b]?) → Rd W' v l
theorem tag_old {w W : World} {v : Value} {l : List UInt8} (h : Rd w v l) (hB : Below w.heap.size w W) : Tag w.heap.size W v l :=
  ⟨rd_slice w v l h, fun W' hs hk => h.keep (fun b hb => (hk b (Nat.lt_of_lt_of_le hb hB.size) (by omega) (by omega)).trans (hB.block b hb)) (Nat.le_trans hB.size hs)⟩
theorem tag_new {N s0 : Nat} {W : World} {p : Option Addr} {l c : Nat} {s : List UInt8} (h : W.ownsRow N 5 1 (.slice p l c) s.length (B s)) (hN : s0 + 2 ≤ N) (hok : ∀ g, N ≤ g → Okb.ok g) : Tag s0 W (.slice p l c) s :=
  ⟨rd_slice W _ s (own_rd h hok).1, fun W' hs hk => (own_rd (own_keep h fun g hg hl => hk g hl (by have := (own_rd h hok).2.2 g hg; omega) (by have := (own_rd h hok).2.2 g hg; omega)) hok).1⟩
theorem drew_heap (W : World) : W.drew.heap = W.heap := rfl
theorem put7_drew_ne {S : Ds} {v : Value} {b : Nat} {w : World} : ∀ k, k ≠ b → (put7 S v b w).drew.heap[k]? = w.heap[k]? := fun k h => by rw [drew_heap]; exact put7_ne h
theorem put7_drew_size {S : Ds} {v : Value} {b : Nat} {w : World} : (put7 S v b w).drew.heap.size = w.heap.size := by rw [drew_heap]; exact put7_size S v b w
/-- The row of files that is handed back. -/
theorem fin_files {N s0 : Nat} {w9 w11 w' : World} {p : Option Addr} {l c : Nat} {X : List (Fl × Value)} (hX : XAt N w11 (.slice p l c) X) (ht : ∀ x ∈ X, Tag s0 w9 x.2 x.1.b) (h1 : ∀ b, b < w9.heap.size → b ≠ s0 → w11.heap[b]? = w9.heap[b]?) (hs : w9.heap.size ≤ w11.heap.size) (hN : s0 + 2 ≤ N) (hk : ∀ b, b ≠ s0 + 1 → w'.heap[b]? = w11.heap[b]?) (hz : w'.heap.size = w11.heap.size) : FsAt w' p (X.map (·.1)) := by
  have hX' : XAt N w' (.slice p l c) X := own_keep hX fun g hg _ => hk g (by have := (World.ownsRow.lt hX g hg).1; omega)
  have h := (XAt.filesR (R := Rd w') hX' fun x hx => (ht x hx).2 w' (by omega) fun b hb h2 h3 => (hk b h3).trans (h1 b hb h2)).1
  exact fun i f hf => h i f hf
end Go.Proofs.DK
