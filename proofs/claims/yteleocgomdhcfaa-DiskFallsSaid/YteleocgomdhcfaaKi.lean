/- Proved: what turns of blocks keep, and the document's rows of files as they are made. Each theorem says its own conditions. -/
import Derived.Test.YteleocgomdhcfaaKh
import Derived.Deep.AppendLies
import Derived.Deep.RegionHeld3
import Derived.Deep.RegionWith
import Derived.Deep.RegionLaw
import Derived.Deep.QuietTactic
import Derived.BigQuiet
import Derived.LoopN
import Derived.IntWalk
import Derived.Outline
set_option linter.unusedVariables false
set_option linter.unusedSimpArgs false
set_option linter.unusedSectionVars false
namespace Go.Proofs.DK
open Go.RowKit
theorem bcell {W w1 : World} (hb : Below W.heap.size W w1) : (∀ b o, b < W.heap.size → w1.cell? ⟨b, o, none⟩ = W.cell? ⟨b, o, none⟩) ∧ (∀ b o, b < W.heap.size → w1.frozen? ⟨b, o, none⟩ = W.frozen? ⟨b, o, none⟩) :=
  ⟨fun b o h => hb.cell (p := ⟨b, o, none⟩) h, fun b o h => hb.frozen (p := ⟨b, o, none⟩) h⟩
/-- Nothing that was there has turned, but blocks of F. -/
structure Turn (F : Nat → Prop) (W W' : World) : Prop where
  os : W'.os = W.os
  tape : W'.tape = W.tape
  output : W'.output = W.output
  size : W.heap.size ≤ W'.heap.size
  block : ∀ b, b < W.heap.size → ¬ F b → W'.heap[b]? = W.heap[b]?
section
variable {F F' : Nat → Prop} {W W' W'' : World}
theorem Turn.of (h : Below W.heap.size W W') : Turn F W W' := ⟨h.os, h.tape, h.output, h.size, fun b hb _ => h.block b hb⟩
theorem Turn.refl (F : Nat → Prop) (W : World) : Turn F W W := ⟨rfl, rfl, rfl, Nat.le_refl _, fun _ _ _ => rfl⟩
theorem Turn.trans (h : Turn F W W') (k : Turn F' W' W'') (hF : ∀ b, b < W.heap.size → F' b → F b) : Turn F W W'' :=
  ⟨k.os.trans h.os, k.tape.trans h.tape, k.output.trans h.output, Nat.le_trans h.size k.size, fun b hb hn => (k.block b (Nat.lt_of_lt_of_le hb h.size) fun x => hn (hF b hb x)).trans (h.block b hb hn)⟩
theorem Turn.more (h : Turn F W W') (hF : ∀ b, F b → F' b) : Turn F' W W' := ⟨h.os, h.tape, h.output, h.size, fun b hb hn => h.block b hb fun x => hn (hF b x)⟩
theorem Turn.grown {row : Option Nat} (h : W.grownBy W' row) (hr : ∀ g, row = some g → F g) : Turn F W W' := ⟨h.os, h.tape, h.output, h.size, fun b hb hn => h.block b hb fun e => hn (hr b e.symm)⟩
theorem Turn.set (W : World) (p : Addr) (u : Value) (hF : F p.block) : Turn F W (W.setCell p u) := ⟨rfl, rfl, rfl, by rw [World.size_setCell]; exact Nat.le_refl _, fun b hb hn => Below.heap_setCell _ _ _ _ (fun e => hn (e ▸ hF))⟩
theorem Turn.drew (h : Turn F W W') : Turn F W W'.drew := ⟨h.os, h.tape, h.output, h.size, h.block⟩
theorem Turn.below {n : Nat} {W0 : World} (h : Turn F W W') (h0 : Below n W0 W) (hF : ∀ b, F b → n ≤ b) (hn : n ≤ W.heap.size) : Below n W0 W' :=
  ⟨h.os.trans h0.os, h.tape.trans h0.tape, h.output.trans h0.output, Nat.le_trans h0.size h.size, fun b hb => (h.block b (by omega) (fun e => by have := hF b e; omega)).trans (h0.block b hb)⟩
end
theorem cell_of_heap {w : World} {b : Nat} {c : Array Value} {t : TypeId} {fz : Nat × Nat} (h : w.heap[b]? = some (.cells c t fz)) (j : Nat) : w.cell? ⟨b, j, none⟩ = c[j]? := by
  unfold World.cell?
  rw [h]
  rfl
theorem frozen_of_heap {w : World} {b : Nat} {c : Array Value} {t : TypeId} (h : w.heap[b]? = some (.cells c t (0, 0))) (j : Nat) : w.frozen? ⟨b, j, none⟩ = false := by
  unfold World.frozen?
  rw [h]
  simp
theorem own_slice {w : World} {base e size n : Nat} {v : Value} {xs : List Value} (ho : w.ownsRow base e size v n xs) : ∃ p c, v = .slice p n c := by
  rcases ho.2 with ⟨h, e⟩ | ⟨g, c, _, h, _⟩
  · exact ⟨_, _, by rw [h, e]⟩
  · exact ⟨_, _, h⟩
theorem own_keep {w w' : World} {base e size n : Nat} {v : Value} {xs : List Value} (h : w.ownsRow base e size v n xs) (hk : ∀ g, v.ownBlock = some g → g < w.heap.size → w'.heap[g]? = w.heap[g]?) : w'.ownsRow base e size v n xs := by
  refine ⟨h.1, ?_⟩
  rcases h.2 with h' | ⟨g, cap, cur, hv, h1, h2, h3⟩
  · exact .inl h'
  · exact .inr ⟨g, cap, cur, hv, h1, (hk g (by rw [hv]; rfl) (Array.getElem?_eq_some_iff.1 h2).1).trans h2, h3⟩
theorem own_base {w : World} {base b2 e size n : Nat} {v : Value} {xs : List Value} (h : w.ownsRow base e size v n xs) (hb : b2 ≤ base) : w.ownsRow b2 e size v n xs := by
  refine ⟨h.1, ?_⟩
  rcases h.2 with h | ⟨g, cap, cur, rfl, h1, h2⟩
  · exact .inl h
  · exact .inr ⟨g, cap, cur, rfl, by omega, h2⟩
theorem own_below {w w' : World} {base e size n : Nat} {v : Value} {xs : List Value} (h : w.ownsRow base e size v n xs) (hb : Below w.heap.size w w') : w'.ownsRow base e size v n xs := own_keep h fun g _ hl => hb.block g hl
theorem info_parts {t : TypeId} {z : Value} {n b : Nat} (h : (Try.prog.info? t).map (fun i => (i.zero, i.size, i.bytes)) = some (some z, n, b)) : ∃ i, Try.prog.info? t = some i ∧ i.zero = some z ∧ i.size = n ∧ i.bytes = b := by
  cases e : Try.prog.info? t with
  | none => rw [e] at h; cases h
  | some i =>
    rw [e] at h
    simp only [Option.map_some, Option.some.injEq, Prod.mk.injEq] at h
    exact ⟨i, rfl, h.1, h.2.1, h.2.2⟩

/-- A file's cells in a row: the slice of its bytes stands for itself. -/
def xcell (x : Fl × Value) : List Value := [.string (bs x.1.n), x.2, .int .i64 x.1.s]
def xcells (X : List (Fl × Value)) : List Value := X.flatMap xcell
theorem xcells_len : ∀ X : List (Fl × Value), (xcells X).length = X.length * 3
  | [] => rfl
  | m :: r => by
    have := xcells_len r
    simp only [xcells, List.flatMap_cons, List.length_append, List.length_cons] at *
    rw [this]; simp [xcell]; omega
theorem xcells_snoc (X : List (Fl × Value)) (m : Fl × Value) : xcells (X ++ [m]) = xcells X ++ xcell m := by simp [xcells]
theorem xcells_get : ∀ (X : List (Fl × Value)) (i : Nat) (m : Fl × Value), X[i]? = some m → ∀ (j : Nat) (x : Value), (xcell m)[j]? = some x → (xcells X)[i * 3 + j]? = some x
  | [], i, m, h, j, x, hx => by simp at h
  | a :: r, 0, m, h, j, x, hx => by
    simp at h; subst h
    have hj : j < 3 := (List.getElem?_eq_some_iff.1 hx).1
    show (xcell a ++ r.flatMap xcell)[0 * 3 + j]? = some x
    rw [List.getElem?_append_left (by simp [xcell]; omega)]
    simpa using hx
  | a :: r, i + 1, m, h, j, x, hx => by
    have := xcells_get r i m (by simpa using h) j x hx
    show (xcell a ++ r.flatMap xcell)[(i + 1) * 3 + j]? = some x
    rw [List.getElem?_append_right (by simp [xcell]; omega), ← this]
    show _ = (xcells r)[i * 3 + j]?
    congr 1
    simp [xcell]; omega
/-- A row of files of its own. -/
def XAt (N : Nat) (W : World) (v : Value) (X : List (Fl × Value)) : Prop := W.ownsRow N 43 3 v X.length (xcells X)
theorem XAt.get {N : Nat} {W : World} {v : Value} {X : List (Fl × Value)} {i : Nat} {m : Fl × Value} (h : XAt N W v X) (e : X[i]? = some m) : ∃ g c, v = .slice (some ⟨g, 0, none⟩) X.length c ∧ N ≤ g ∧ g < W.heap.size ∧ W.cell? ⟨g, i * 3, none⟩ = some (.string (bs m.1.n)) ∧ W.cell? ⟨g, i * 3 + 1, none⟩ = some m.2 ∧ W.cell? ⟨g, i * 3 + 2, none⟩ = some (.int .i64 m.1.s) := by
  have hi := (List.getElem?_eq_some_iff.1 e).1
  have h' := h
  rcases h.2 with ⟨rfl, e0⟩ | ⟨g, cap, cur, rfl, hg, hh, _⟩
  · omega
  · have hc : ∀ (j : Nat) (x : Value), (xcell m)[j]? = some x → W.cell? ⟨g, i * 3 + j, none⟩ = some x := fun j x hx => by
      have := World.ownsRow.cells h' (g := g) rfl (i * 3 + j) x (xcells_get X i m e j x hx)
      rw [Addr.add_lit, Nat.zero_add] at this
      exact this
    exact ⟨g, cap, rfl, hg, (Array.getElem?_eq_some_iff.1 hh).1, hc 0 _ rfl, hc 1 _ rfl, hc 2 _ rfl⟩
variable [Okb]
/-- The document's row of files; of each file's bytes holds R. -/
def FsR (R : Value → List UInt8 → Prop) (W : World) (p : Option Addr) (fs : List Fl) : Prop := ∀ (i : Nat) (f : Fl), fs[i]? = some f → ∃ b, p = some ⟨b, 0, none⟩ ∧ b < W.heap.size ∧ W.cell? ⟨b, i * 3, none⟩ = some (.string (bs f.n)) ∧ (∃ v, W.cell? ⟨b, i * 3 + 1, none⟩ = some v ∧ R v f.b) ∧ W.cell? ⟨b, i * 3 + 2, none⟩ = some (.int .i64 f.s) ∧ Tg W b
theorem FsR.mono {R : Value → List UInt8 → Prop} {W W' : World} {p : Option Addr} {fs : List Fl} (h : FsR R W p fs) (hB : Below W.heap.size W W') : FsR R W' p fs := fun i f hf => by
  obtain ⟨b, hp, hb, h0, ⟨v, h1, hr⟩, h2, ht⟩ := h i f hf
  exact ⟨b, hp, Nat.lt_of_lt_of_le hb hB.size, (hB.cell (p := ⟨b, _, none⟩) hb).trans h0, ⟨v, (hB.cell (p := ⟨b, _, none⟩) hb).trans h1, hr⟩, (hB.cell (p := ⟨b, _, none⟩) hb).trans h2, ht.mono hb hB⟩
theorem FsR.weaken {R R' : Value → List UInt8 → Prop} {W : World} {p : Option Addr} {fs : List Fl} (h : FsR R W p fs) (hR : ∀ v l, R v l → R' v l) : FsR R' W p fs := fun i f hf => by
  obtain ⟨b, hp, hb, h0, ⟨v, h1, hr⟩, h2, ht⟩ := h i f hf
  exact ⟨b, hp, hb, h0, ⟨v, h1, hR _ _ hr⟩, h2, ht⟩
/-- Its cells lie in one memory, the files' bytes in an elder one. -/
def FsIn (W0 W : World) (p : Option Addr) (fs : List Fl) : Prop := FsR (Rd W0) W p fs
theorem FsIn.mono {W0 W W' : World} {p : Option Addr} {fs : List Fl} (h : FsIn W0 W p fs) (hB : Below W.heap.size W W') : FsIn W0 W' p fs := fun i f hf => by
  obtain ⟨b, hp, hb, h0, ⟨v, h1, hr⟩, h2, ht⟩ := h i f hf
  exact ⟨b, hp, Nat.lt_of_lt_of_le hb hB.size, (hB.cell (p := ⟨b, _, none⟩) hb).trans h0, ⟨v, (hB.cell (p := ⟨b, _, none⟩) hb).trans h1, hr⟩, (hB.cell (p := ⟨b, _, none⟩) hb).trans h2, ht.mono hb hB⟩
theorem FsIn.at {W0 W : World} {p : Option Addr} {fs : List Fl} (h : FsIn W0 W p fs) (hB : Below W0.heap.size W0 W) : FsAt W p fs := fun i f hf => by
  obtain ⟨b, hp, hb, h0, ⟨v, h1, hr⟩, h2, ht⟩ := h i f hf
  exact ⟨b, hp, hb, h0, ⟨v, h1, hr.mono hB⟩, h2, ht⟩
theorem FsAt.inn {W : World} {p : Option Addr} {fs : List Fl} (h : FsAt W p fs) : FsIn W W p fs := fun i f hf => by
  obtain ⟨b, hp, hb, h0, hv, h2⟩ := h i f hf
  exact ⟨b, hp, hb, h0, hv, h2⟩
theorem XAt.filesR {N : Nat} {W : World} {R : Value → List UInt8 → Prop} {p : Option Addr} {l c : Nat} {X : List (Fl × Value)} (h : XAt N W (.slice p l c) X) (hr : ∀ x ∈ X, R x.2 x.1.b) : FsR R W p (X.map (·.1)) ∧ l = (X.map (·.1)).length := by
  refine ⟨fun i f hf => ?_, ?_⟩
  · rw [List.getElem?_map] at hf
    obtain ⟨m, hm, rfl⟩ := Option.map_eq_some_iff.1 hf
    obtain ⟨g, c', hv, _, hl, h0, h1, h2⟩ := h.get hm
    cases hv
    have htg : Tg W g := by
      rcases h.2 with ⟨e, _⟩ | ⟨g', cap, cur, e, _, hh, _⟩
      · cases e
      · cases e; exact ⟨_, _, hh⟩
    exact ⟨g, rfl, hl, h0, ⟨m.2, h1, hr m (List.mem_of_getElem? hm)⟩, h2, htg⟩
  · rw [List.length_map]
    obtain ⟨p', c', hv⟩ := own_slice h
    cases hv
    rfl
theorem XAt.files {N : Nat} {W W0 : World} {p : Option Addr} {l c : Nat} {X : List (Fl × Value)} (h : XAt N W (.slice p l c) X) (hr : ∀ x ∈ X, Rd W0 x.2 x.1.b) : FsIn W0 W p (X.map (·.1)) ∧ l = (X.map (·.1)).length := XAt.filesR h hr
theorem info43 : (Try.prog.info? 43).map (fun i => (i.zero, i.size, i.bytes)) = some (some (.agg #[.string (bs []), .slice none 0 0, .int .i64 0]), 3, 48) := by kernel_rfl
theorem own_empty (w : World) (N : Nat) (hN : N ≤ w.heap.size) : (w.alloc (.cells #[] 43)).ownsRow N 43 3 (.slice (some ⟨w.heap.size, 0, none⟩) 0 0) 0 [] :=
  ⟨rfl, .inr ⟨w.heap.size, 0, #[], rfl, hN, heap_alloc_new w _, Nat.le_refl _, Nat.zero_le _, rfl, rfl⟩⟩
theorem XAt.snoc {N : Nat} {w wr w4 : World} {o : Value} {A : List (Fl × Value)} {m : Fl × Value} {g cap : Nat} (hB : Below N w wr) (hN : N ≤ wr.heap.size) (h : XAt N wr o A) (hown : w4.ownsRow N 43 3 (.slice (some ⟨g, 0, none⟩) (A.length + 1) cap) (A.length + 1) (xcells A ++ xcell m)) (hg : (wr.alloc (.cells (xcell m).toArray 43)).grownBy w4 o.ownBlock) :
    XAt N w4 (.slice (some ⟨g, 0, none⟩) (A.length + 1) cap) (A ++ [m]) ∧ Below N w w4 := by
  refine ⟨?_, (hB.alloc hN _).grown hg (by simp; omega) fun k e => (World.ownsRow.lt h k e).1⟩
  unfold XAt
  rw [xcells_snoc, List.length_append]
  exact hown
theorem wo_snoc (A : List Fl) (m : Fl) (z : List UInt8) : woF (A ++ [m]) z = woF A z ++ if m.n = z then [] else [m] := by
  unfold woF
  rw [List.filter_append]
  congr 1
  by_cases h : m.n = z
  · simp [h]
  · simp [h]
theorem take_succ {α : Type} {L : List α} {k : Nat} {m : α} (h : L[k]? = some m) : L.take (k + 1) = L.take k ++ [m] := by
  rw [List.take_add_one, h]; rfl
end Go.Proofs.DK
