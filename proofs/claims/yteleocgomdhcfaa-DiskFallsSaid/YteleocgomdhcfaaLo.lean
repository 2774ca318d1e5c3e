/- Proved: copies of rows of numbers and of bytes by append onto an empty row. Each theorem says its own conditions. -/
import Derived.Test.YteleocgomdhcfaaLn
set_option linter.unusedVariables false
set_option linter.unusedSimpArgs false
set_option linter.unusedSectionVars false
namespace Go.Proofs.DK
open Go.RowKit
def I (s : List Int) : List Value := s.map fun x => Value.int .i64 x
theorem I_len (s : List Int) : (I s).length = s.length := by simp [I]
theorem info3 : (Try.prog.info? 3).map (fun i => (i.zero, i.size, i.bytes)) = some (some (.int .i64 0), 1, 8) := by kernel_rfl
theorem own_empty3 (w : World) (N : Nat) (hN : N ≤ w.heap.size) : (w.alloc (.cells #[] 3)).ownsRow N 3 1 (.slice (some ⟨w.heap.size, 0, none⟩) 0 0) 0 [] :=
  ⟨rfl, .inr ⟨w.heap.size, 0, #[], rfl, hN, heap_alloc_new w _, Nat.le_refl _, Nat.zero_le _, rfl, rfl⟩⟩
/-- A row of numbers that nothing else shares. -/
def IR (N : Nat) (W : World) (v : Value) (s : List Int) : Prop := W.ownsRow N 3 1 v s.length (I s)
theorem IR.rd {N : Nat} {W : World} {p : Option Addr} {l c : Nat} {s : List Int} (h : IR N W (.slice p l c) s) : RdI W (.slice p l c) s ∧ ∀ g, (Value.slice p l c).ownBlock = some g → N ≤ g ∧ g < W.heap.size := by
  have h' := h
  rcases h.2 with ⟨e, e0⟩ | ⟨g, cap, cur, e, h1, h2, h3, h4, _⟩
  · cases e
    refine ⟨⟨none, 0, by rw [e0], fun j x hx => ?_⟩, fun g hg => by cases hg⟩
    have := (List.getElem?_eq_some_iff.1 hx).1
    omega
  · cases e
    refine ⟨⟨some ⟨g, 0, none⟩, c, rfl, fun j x hx => ⟨g, 0, rfl, (Array.getElem?_eq_some_iff.1 h2).1, ?_⟩⟩, fun g' hg => by cases hg; exact ⟨h1, (Array.getElem?_eq_some_iff.1 h2).1⟩⟩
    have := World.ownsRow.cells h' (g := g) rfl j (.int .i64 x) (by unfold I; rw [List.getElem?_map, hx]; rfl)
    rw [Addr.add_lit] at this
    exact this
theorem IR.keep {N : Nat} {W W' : World} {v : Value} {s : List Int} (h : IR N W v s) (hk : ∀ g, v.ownBlock = some g → g < W.heap.size → W'.heap[g]? = W.heap[g]?) : IR N W' v s := own_keep h hk
theorem run_copy_int {N : Nat} {W : World} {v u : Value} {l : List Int} (h : W.ownsRow N 3 1 v 0 []) (hN : N ≤ W.heap.size) (hu : RdI W u l) (hsz : l.length ≤ 4000000) :
    ∃ p c W', (Builtin.append_ #[23, 23] 23 #[v, u]).run Try.prog W = .ok (.slice p l.length c) W' ∧ IR N W' (.slice p l.length c) l ∧ W.grownBy W' v.ownBlock := by
  obtain ⟨i0, hi0, hz0, hz1, hz2⟩ := info_parts info3
  obtain ⟨pu, cu, rfl, hr⟩ := hu
  cases pu with
  | some a =>
    obtain ⟨v', W', hrun, h2, h3, _, h5⟩ := run_append_own_at (P := Try.prog) W N 23 23 3 i0 _ 1 8 Try.underlying23 hi0 hz0 hz1 hz2 rfl (by omega) v 0 [] h a l.length cu (I l) (by rw [I_len]; omega) (fun j u hj => by
      unfold I at hj
      rw [List.getElem?_map] at hj
      obtain ⟨x, hx, rfl⟩ := Option.map_eq_some_iff.1 hj
      obtain ⟨b', o', hp', _, hc⟩ := hr j x hx
      cases hp'
      rw [Addr.add_lit]
      exact hc) (by simp [I, Value.oneCell']) (by unfold maxLen; omega) (by omega) hN
    rw [Nat.zero_add] at h2
    obtain ⟨p, c, rfl⟩ := own_slice h2
    exact ⟨p, c, W', hrun, h2, h3⟩
  | none =>
    have e : l = [] := by
      cases l with
      | nil => rfl
      | cons x xs => obtain ⟨b, o, hp, _⟩ := hr 0 x rfl; cases hp
    subst e
    obtain ⟨p, c, rfl⟩ := own_slice h
    exact ⟨p, c, W, run_append_nothing W 23 23 23 3 i0 Try.underlying23 hi0 _ 0 c (Nat.zero_le _) _ (Src.ofNil W Try.underlying23 cu), h, ⟨rfl, rfl, rfl, Nat.le_refl _, fun _ _ _ => rfl⟩⟩
theorem wpList_copy_int {ops : Array Oper} {rest : List Oper} {o : Oper} {a : Act} {N : Nat} {W : World} {Q : Exit → Act → World → Prop} (hgd : o.guard = none) (hty : o.type = 23) (s x : Operand)
    (ho : o.op = .call { callee := .builtin .append, args := #[s, x], argTypes := #[23, 23] }) {v u : Value} {l : List Int} (hs : a.eval s = v) (hx : a.eval x = u)
    (hown : W.ownsRow N 3 1 v 0 []) (hN : N ≤ W.heap.size) (hu : RdI W u l) (hsz : l.length ≤ 4000000)
    (h : ∀ p c W', IR N W' (.slice p l.length c) l → W.grownBy W' v.ownBlock → wpList Try.prog ops Q rest (a.put o.dst (.slice p l.length c)) W') : wpList Try.prog ops Q (o :: rest) a W :=
  wpList_plain hgd fun _ hK => by
    obtain ⟨p, c, W', hrun, h2, h3⟩ := run_copy_int hown hN hu hsz
    unfold Oper.wp execOp
    simp only [ho, hty, resolve, invoke, builtin, Sem.run_bind, Sem.run_pure, Result.andThen_ok, List.map_toArray, List.map_cons, List.map_nil, hs, hx, hrun]
    exact hK _ _ (h p c W' h2 h3)
/-- Rows that are handed in: they lie below N. -/
def RdN (N : Nat) (W : World) (v : Value) (l : List UInt8) : Prop := ∃ p c, v = .slice p l.length c ∧ l.length ≤ c ∧ ∀ (j : Nat) (x : UInt8), l[j]? = some x → ∃ b o, p = some ⟨b, o, none⟩ ∧ b < N ∧ W.cell? ⟨b, o + j, none⟩ = some (.int .u8 x.toNat)
def RdIN (N : Nat) (W : World) (v : Value) (l : List Int) : Prop := ∃ p c, v = .slice p l.length c ∧ ∀ (j : Nat) (x : Int), l[j]? = some x → ∃ b o, p = some ⟨b, o, none⟩ ∧ b < N ∧ W.cell? ⟨b, o + j, none⟩ = some (.int .i64 x)
theorem RdIN.rd {N : Nat} {W W' : World} {v : Value} {l : List Int} (h : RdIN N W v l) (hN : N ≤ W.heap.size) (hB : Below N W W') : RdI W' v l := by
  obtain ⟨p, c, rfl, h⟩ := h
  refine ⟨p, c, rfl, fun j x hx => ?_⟩
  obtain ⟨b, o, hp, hb, hc⟩ := h j x hx
  exact ⟨b, o, hp, by have := hB.size; omega, (hB.cell (p := ⟨b, o + j, none⟩) hb).trans hc⟩
theorem RdN.rd {N : Nat} {W W' : World} {v : Value} {l : List UInt8} {F : Nat → Prop} {n : Nat} (h : RdN N W v l) (hN : N ≤ W.heap.size) (hB : Below N W W') (hF : ∀ b, b < N → F b → n ≤ b) : @Rd (okP F n) W' v l := by
  obtain ⟨p, c, rfl, hl, h⟩ := h
  refine ⟨p, c, rfl, hl, fun j x hx => ?_⟩
  obtain ⟨b, o, hp, hb, hc⟩ := h j x hx
  exact ⟨b, o, hp, by have := hB.size; omega, (hB.cell (p := ⟨b, o + j, none⟩) hb).trans hc, hF b hb⟩
theorem RdN.rdAll {N : Nat} {W W' : World} {v : Value} {l : List UInt8} (h : RdN N W v l) (hN : N ≤ W.heap.size) (hB : Below N W W') : @Rd okAll W' v l := by
  obtain ⟨p, c, rfl, hl, h⟩ := h
  refine ⟨p, c, rfl, hl, fun j x hx => ?_⟩
  obtain ⟨b, o, hp, hb, hc⟩ := h j x hx
  exact ⟨b, o, hp, by have := hB.size; omega, (hB.cell (p := ⟨b, o + j, none⟩) hb).trans hc, trivial⟩
end Go.Proofs.DK
