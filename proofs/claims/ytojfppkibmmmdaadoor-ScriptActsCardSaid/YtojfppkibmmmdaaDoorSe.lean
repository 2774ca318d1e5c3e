/- Proved: what the script's 'Acts' comes to; each theorem says its own conditions. -/
import Derived.Test.YtojfppkibmmmdaaDoorSd
set_option linter.unusedVariables false
set_option linter.unusedSimpArgs false
namespace Go.Proofs.SA
open Go.RowKit
theorem info36 : (Tryd.prog.info? 36).map (fun i => (i.zero, i.size, i.bytes)) = some (some (.agg #[.int .u8 0, .int .u32 0, .int .u32 0, .int .u32 0, .int .u8 0, .slice none 0 0, .slice none 0 0, .int .u64 0, .slice none 0 0, .slice none 0 0]), 10, 128) := by kernel_rfl
theorem ActOut.open {PP : Pats} {a : PA} {w w' : World} {e : Ending} (h : ActOut PP a w e w') : ∃ p5 l5 m5 p6 l6 m6 m7 p8 l8 m8 p9 l9 m9, e = .returned (.agg #[.int .u8 (a.kind : Int), .int .u32 (a.who : Int), .int .u32 (a.nn : Int), .int .u32 (a.kk : Int), .int .u8 (a.topic : Int), .slice p5 l5 m5, .slice p6 l6 m6, .int .u64 m7, .slice p8 l8 m8, .slice p9 l9 m9]) ∧
    ActIs PP (w.heap.size ≤ ·) w' [.int .u8 (a.kind : Int), .int .u32 (a.who : Int), .int .u32 (a.nn : Int), .int .u32 (a.kk : Int), .int .u8 (a.topic : Int), .slice p5 l5 m5, .slice p6 l6 m6, .int .u64 m7, .slice p8 l8 m8, .slice p9 l9 m9] a ∧ Below w.heap.size w w' := by
  obtain ⟨cs, rfl, h, hB⟩ := h
  obtain ⟨v5, v6, v7, v8, v9, rfl, h5, h6, h8, h9⟩ := id h
  obtain ⟨_, _, _, rfl⟩ := h5.slice
  obtain ⟨_, _, _, _, rfl, rfl⟩ := h6.form
  obtain ⟨_, _, _, rfl⟩ := h8.slice
  obtain ⟨_, _, _, rfl⟩ := h9.slice
  exact ⟨_, _, _, _, _, _, _, _, _, _, _, _, _, rfl, h, hB⟩
theorem sets10 {w2 : World} {n : Nat} {z0 z1 z2 z3 z4 z5 z6 z7 z8 z9 c0 c1 c2 c3 c4 c5 c6 c7 c8 c9 : Value} {t : TypeId} (h : w2.heap[n]? = some (.cells #[z0, z1, z2, z3, z4, z5, z6, z7, z8, z9] t (0, 0))) : ((((((((((w2.setCell ⟨n, 0, none⟩ c0).setCell ⟨n, 1, none⟩ c1).setCell ⟨n, 2, none⟩ c2).setCell ⟨n, 3, none⟩ c3).setCell ⟨n, 4, none⟩ c4).setCell ⟨n, 5, none⟩ c5).setCell ⟨n, 6, none⟩ c6).setCell ⟨n, 7, none⟩ c7).setCell ⟨n, 8, none⟩ c8).setCell ⟨n, 9, none⟩ c9).heap[n]? = some (.cells #[c0, c1, c2, c3, c4, c5, c6, c7, c8, c9] t (0, 0)) := by
  have h0 : (w2.setCell ⟨n, 0, none⟩ c0).heap[n]? = some (.cells #[c0, z1, z2, z3, z4, z5, z6, z7, z8, z9] t (0, 0)) := by
    have e := heap_setCell_same _ n 0 _ t c0 h
    exact e
  have h1 : ((w2.setCell ⟨n, 0, none⟩ c0).setCell ⟨n, 1, none⟩ c1).heap[n]? = some (.cells #[c0, c1, z2, z3, z4, z5, z6, z7, z8, z9] t (0, 0)) := by
    have e := heap_setCell_same _ n 1 _ t c1 h0
    exact e
  have h2 : (((w2.setCell ⟨n, 0, none⟩ c0).setCell ⟨n, 1, none⟩ c1).setCell ⟨n, 2, none⟩ c2).heap[n]? = some (.cells #[c0, c1, c2, z3, z4, z5, z6, z7, z8, z9] t (0, 0)) := by
    have e := heap_setCell_same _ n 2 _ t c2 h1
    exact e
  have h3 : ((((w2.setCell ⟨n, 0, none⟩ c0).setCell ⟨n, 1, none⟩ c1).setCell ⟨n, 2, none⟩ c2).setCell ⟨n, 3, none⟩ c3).heap[n]? = some (.cells #[c0, c1, c2, c3, z4, z5, z6, z7, z8, z9] t (0, 0)) := by
    have e := heap_setCell_same _ n 3 _ t c3 h2
    exact e
  have h4 : (((((w2.setCell ⟨n, 0, none⟩ c0).setCell ⟨n, 1, none⟩ c1).setCell ⟨n, 2, none⟩ c2).setCell ⟨n, 3, none⟩ c3).setCell ⟨n, 4, none⟩ c4).heap[n]? = some (.cells #[c0, c1, c2, c3, c4, z5, z6, z7, z8, z9] t (0, 0)) := by
    have e := heap_setCell_same _ n 4 _ t c4 h3
    exact e
  have h5 : ((((((w2.setCell ⟨n, 0, none⟩ c0).setCell ⟨n, 1, none⟩ c1).setCell ⟨n, 2, none⟩ c2).setCell ⟨n, 3, none⟩ c3).setCell ⟨n, 4, none⟩ c4).setCell ⟨n, 5, none⟩ c5).heap[n]? = some (.cells #[c0, c1, c2, c3, c4, c5, z6, z7, z8, z9] t (0, 0)) := by
    have e := heap_setCell_same _ n 5 _ t c5 h4
    exact e
  have h6 : (((((((w2.setCell ⟨n, 0, none⟩ c0).setCell ⟨n, 1, none⟩ c1).setCell ⟨n, 2, none⟩ c2).setCell ⟨n, 3, none⟩ c3).setCell ⟨n, 4, none⟩ c4).setCell ⟨n, 5, none⟩ c5).setCell ⟨n, 6, none⟩ c6).heap[n]? = some (.cells #[c0, c1, c2, c3, c4, c5, c6, z7, z8, z9] t (0, 0)) := by
    have e := heap_setCell_same _ n 6 _ t c6 h5
    exact e
  have h7 : ((((((((w2.setCell ⟨n, 0, none⟩ c0).setCell ⟨n, 1, none⟩ c1).setCell ⟨n, 2, none⟩ c2).setCell ⟨n, 3, none⟩ c3).setCell ⟨n, 4, none⟩ c4).setCell ⟨n, 5, none⟩ c5).setCell ⟨n, 6, none⟩ c6).setCell ⟨n, 7, none⟩ c7).heap[n]? = some (.cells #[c0, c1, c2, c3, c4, c5, c6, c7, z8, z9] t (0, 0)) := by
    have e := heap_setCell_same _ n 7 _ t c7 h6
    exact e
  have h8 : (((((((((w2.setCell ⟨n, 0, none⟩ c0).setCell ⟨n, 1, none⟩ c1).setCell ⟨n, 2, none⟩ c2).setCell ⟨n, 3, none⟩ c3).setCell ⟨n, 4, none⟩ c4).setCell ⟨n, 5, none⟩ c5).setCell ⟨n, 6, none⟩ c6).setCell ⟨n, 7, none⟩ c7).setCell ⟨n, 8, none⟩ c8).heap[n]? = some (.cells #[c0, c1, c2, c3, c4, c5, c6, c7, c8, z9] t (0, 0)) := by
    have e := heap_setCell_same _ n 8 _ t c8 h7
    exact e
  have h9 : ((((((((((w2.setCell ⟨n, 0, none⟩ c0).setCell ⟨n, 1, none⟩ c1).setCell ⟨n, 2, none⟩ c2).setCell ⟨n, 3, none⟩ c3).setCell ⟨n, 4, none⟩ c4).setCell ⟨n, 5, none⟩ c5).setCell ⟨n, 6, none⟩ c6).setCell ⟨n, 7, none⟩ c7).setCell ⟨n, 8, none⟩ c8).setCell ⟨n, 9, none⟩ c9).heap[n]? = some (.cells #[c0, c1, c2, c3, c4, c5, c6, c7, c8, c9] t (0, 0)) := by
    have e := heap_setCell_same _ n 9 _ t c9 h8
    exact e
  exact h9
theorem keeps_sets10 {w2 : World} {n : Nat} {ok : Nat → Prop} (c0 c1 c2 c3 c4 c5 c6 c7 c8 c9 : Value) (hn : ¬ ok n) : Go.Ai.Keeps ok w2 ((((((((((w2.setCell ⟨n, 0, none⟩ c0).setCell ⟨n, 1, none⟩ c1).setCell ⟨n, 2, none⟩ c2).setCell ⟨n, 3, none⟩ c3).setCell ⟨n, 4, none⟩ c4).setCell ⟨n, 5, none⟩ c5).setCell ⟨n, 6, none⟩ c6).setCell ⟨n, 7, none⟩ c7).setCell ⟨n, 8, none⟩ c8).setCell ⟨n, 9, none⟩ c9) := by
  refine keeps_set ?_ hn _
  refine keeps_set ?_ hn _
  refine keeps_set ?_ hn _
  refine keeps_set ?_ hn _
  refine keeps_set ?_ hn _
  refine keeps_set ?_ hn _
  refine keeps_set ?_ hn _
  refine keeps_set ?_ hn _
  refine keeps_set ?_ hn _
  refine keeps_set ?_ hn _
  exact Go.Ai.Keeps.refl _ _
/-- Behind the making of an act. -/
def Mid (PP : Pats) (wr : World) (na : Nat) (c0 c1 c2 c3 c4 c5 c6 c7 c8 c9 : Value) (a : PA) (W : World) : Prop := W.heap[na]? = some (.cells #[c0, c1, c2, c3, c4, c5, c6, c7, c8, c9] 36 (0, 0)) ∧ Below wr.heap.size wr W ∧ wr.heap.size ≤ na ∧ ActIs PP (fun b => wr.heap.size ≤ b ∧ b ≠ na) W [c0, c1, c2, c3, c4, c5, c6, c7, c8, c9] a
theorem midA {PP : Pats} (HS : Still PP) {wr w2 : World} {z0 z1 z2 z3 z4 z5 z6 z7 z8 z9 c0 c1 c2 c3 c4 c5 c6 c7 c8 c9 : Value} {a : PA} (hB : Below (wr.alloc (.cells #[z0, z1, z2, z3, z4, z5, z6, z7, z8, z9] 36)).drew.heap.size (wr.alloc (.cells #[z0, z1, z2, z3, z4, z5, z6, z7, z8, z9] 36)).drew w2)
    (h : ActIs PP ((wr.alloc (.cells #[z0, z1, z2, z3, z4, z5, z6, z7, z8, z9] 36)).drew.heap.size ≤ ·) w2 [c0, c1, c2, c3, c4, c5, c6, c7, c8, c9] a) : Mid PP wr wr.heap.size c0 c1 c2 c3 c4 c5 c6 c7 c8 c9 a ((((((((((w2.setCell ⟨wr.heap.size, 0, none⟩ c0).setCell ⟨wr.heap.size, 1, none⟩ c1).setCell ⟨wr.heap.size, 2, none⟩ c2).setCell ⟨wr.heap.size, 3, none⟩ c3).setCell ⟨wr.heap.size, 4, none⟩ c4).setCell ⟨wr.heap.size, 5, none⟩ c5).setCell ⟨wr.heap.size, 6, none⟩ c6).setCell ⟨wr.heap.size, 7, none⟩ c7).setCell ⟨wr.heap.size, 8, none⟩ c8).setCell ⟨wr.heap.size, 9, none⟩ c9) := by
  have hz : (wr.alloc (.cells #[z0, z1, z2, z3, z4, z5, z6, z7, z8, z9] 36)).drew.heap.size = wr.heap.size + 1 := by simp
  have h1 : (wr.alloc (.cells #[z0, z1, z2, z3, z4, z5, z6, z7, z8, z9] 36)).drew.heap[wr.heap.size]? = some (.cells #[z0, z1, z2, z3, z4, z5, z6, z7, z8, z9] 36 (0, 0)) := heap_alloc_new wr _
  have h2 := (hB.block wr.heap.size (by omega)).trans h1
  refine ⟨sets10 h2, ?_, Nat.le_refl _, ?_⟩
  · have k : Below wr.heap.size wr w2 := (((Below.refl _ wr).alloc (Nat.le_refl _) _).drew).trans (hB.mono (by omega))
    exact ((((((((((k.setCell (Nat.le_refl _) _).setCell (Nat.le_refl _) _).setCell (Nat.le_refl _) _).setCell (Nat.le_refl _) _).setCell (Nat.le_refl _) _).setCell (Nat.le_refl _) _).setCell (Nat.le_refl _) _).setCell (Nat.le_refl _) _).setCell (Nat.le_refl _) _).setCell (Nat.le_refl _) _)
  · refine ActIs.mono HS (ActIs.weaken HS h fun b hb ho => ?_) (keeps_sets10 _ _ _ _ _ _ _ _ _ _ (by simp))
    have ho : (wr.alloc (.cells #[z0, z1, z2, z3, z4, z5, z6, z7, z8, z9] 36)).drew.heap.size ≤ b := ho
    exact ⟨by omega, by omega⟩
theorem midB {PP : Pats} (HS : Still PP) {wr w2 : World} {c0 c1 c2 c3 c4 c5 c6 c7 c8 c9 : Value} {a : PA} (hB : Below wr.drew.heap.size wr.drew w2) (h : ActIs PP (wr.drew.heap.size ≤ ·) w2 [c0, c1, c2, c3, c4, c5, c6, c7, c8, c9] a) : Mid PP wr w2.heap.size c0 c1 c2 c3 c4 c5 c6 c7 c8 c9 a (w2.alloc (.cells #[c0, c1, c2, c3, c4, c5, c6, c7, c8, c9] 36)) := by
  have hs : wr.heap.size ≤ w2.heap.size := hB.size
  have k : Below wr.heap.size wr w2 := ((Below.refl _ wr).drew).trans hB
  refine ⟨heap_alloc_new w2 _, k.alloc hs _, hs, ?_⟩
  exact ActIs.mono HS (ActIs.weaken HS h fun b hb ho => ⟨ho, by omega⟩) (Go.Ai.Keeps.below ((Below.refl _ w2).alloc (Nat.le_refl _) _))
theorem cut3 {R : Exit → Act → World → Prop} {e : Exit} {a : Act} {W : World} (F : World → Prop) (h : F W) (k : ∀ W', F W' → R e a W') : R e a W := k W h
theorem mid_cells {PP : Pats} {wr W : World} {na : Nat} {c0 c1 c2 c3 c4 c5 c6 c7 c8 c9 : Value} {a : PA} (h : Mid PP wr na c0 c1 c2 c3 c4 c5 c6 c7 c8 c9 a W) : W.cell? ⟨na, 0, none⟩ = some c0 ∧ W.cell? ⟨na, 1, none⟩ = some c1 ∧ W.cell? ⟨na, 2, none⟩ = some c2 ∧ W.cell? ⟨na, 3, none⟩ = some c3 ∧ W.cell? ⟨na, 4, none⟩ = some c4 ∧ W.cell? ⟨na, 5, none⟩ = some c5 ∧ W.cell? ⟨na, 6, none⟩ = some c6 ∧ W.cell? ⟨na, 7, none⟩ = some c7 ∧ W.cell? ⟨na, 8, none⟩ = some c8 ∧ W.cell? ⟨na, 9, none⟩ = some c9 := by
  have e := cell_of_heap h.1
  exact ⟨e 0, e 1, e 2, e 3, e 4, e 5, e 6, e 7, e 8, e 9⟩
theorem cut_world {P : Program} {c : Code} {Q : Exit → Act → World → Prop} {a : Act} {W : World} (F : World → Prop) (h : F W) (k : ∀ W', F W' → Code.wp P c Q a W') : Code.wp P c Q a W := k W h
theorem own_below {w w' : World} {base e size n : Nat} {v : Value} {xs : List Value} (h : w.ownsRow base e size v n xs) (hb : Below w.heap.size w w') : w'.ownsRow base e size v n xs := by
  refine ⟨h.1, ?_⟩
  rcases h.2 with h | ⟨g, cap, cur, rfl, h1, h2, h3⟩
  · exact .inl h
  · exact .inr ⟨g, cap, cur, rfl, h1, (hb.block g (Array.getElem?_eq_some_iff.1 h2).1).trans h2, h3⟩
theorem own_block {w : World} {base e size n : Nat} {v : Value} {xs : List Value} (h : w.ownsRow base e size v n xs) {b : Nat} (hb : v.ownBlock = some b) : b < w.heap.size := by
  rcases h.2 with ⟨rfl, _⟩ | ⟨g, cap, cur, rfl, h1, h2, h3⟩
  · cases hb
  · cases hb
    exact (Array.getElem?_eq_some_iff.1 h2).1
/-- A row of acts of the call's own. -/
def ActsOwn (PP : Pats) (base : Nat) (W : World) (v : Value) (l : List PA) : Prop := ∃ xs, W.ownsRow base 36 10 v l.length xs ∧ ActsAt PP (okOut base v) W xs l
def ActsOut (PP : Pats) (l : List PA) (w : World) (e : Ending) (w' : World) : Prop := ∃ v, e = .returned v ∧ ActsOwn PP w.heap.size w' v l ∧ Below w.heap.size w w'
/-- What the round leaves of the row of acts. -/
theorem row_snoc {PP : Pats} (HS : Still PP) {base : Nat} {wr W3 W3' w4 : World} {old : Value} {g n cap : Nat} {xs cs : List Value} {done : List PA} {a : PA} {okA : Nat → Prop} (hbase : base ≤ wr.heap.size) (hold : wr.ownsRow base 36 10 old done.length xs) (hacts : ActsAt PP (okOut base old) wr xs done)
    (hB : Below wr.heap.size wr W3) (hA : ActIs PP okA W3 cs a) (hok : ∀ b, okA b → wr.heap.size ≤ b) (hW : Below W3.heap.size W3 W3') (hown : w4.ownsRow base 36 10 (.slice (some ⟨g, 0, none⟩) n cap) n (xs ++ cs)) (hn : n = done.length + 1) (hgrow : W3'.grownBy w4 old.ownBlock) (hat : old.ownBlock = some g ∨ g = W3'.heap.size) :
    ActsOwn PP base w4 (.slice (some ⟨g, 0, none⟩) n cap) (done ++ [a]) := by
  have hk : Go.Ai.Keeps (fun b => old.ownBlock ≠ some b) W3' w4 := ⟨hgrow.size, fun b hb ho => hgrow.block b hb (fun e => ho e.symm)⟩
  have hg : ∀ b, b < W3.heap.size → old.ownBlock ≠ some b → g ≠ b := fun b hb ho e => by
    subst e
    rcases hat with h | h
    · exact ho h
    · have := hW.size; omega
  have hs1 := hB.size
  refine ⟨xs ++ cs, by rw [List.length_append]; subst hn; exact hown, ?_⟩
  have key : ActsAt PP (fun b => old.ownBlock ≠ some b ∧ base ≤ b ∧ g ≠ b) w4 (xs ++ cs) (done ++ [a]) := by
    refine ActsAt.snoc ?_ ?_
    · refine ActsAt.mono HS (ActsAt.weaken HS hacts fun b hb ho => ⟨ho.2, ho.1, hg b (by omega) ho.2⟩) ?_
      exact ((Go.Ai.Keeps.below hB).trans (Go.Ai.Keeps.below hW)).trans (hk.less fun b _ ho => ho.1)
    · refine ActIs.mono HS (ActIs.weaken HS hA fun b hb ho => ?_) ((Go.Ai.Keeps.below hW).trans (hk.less fun b _ ho => ho.1))
      have hl := hok b ho
      have hne : old.ownBlock ≠ some b := fun e => by have := own_block hold e; omega
      exact ⟨hne, by omega, hg b hb hne⟩
  exact ActsAt.weaken HS key fun b _ ho => ⟨ho.2.1, fun e => ho.2.2 (Option.some.inj e)⟩
theorem news10 {W : World} {c0 c1 c2 c3 c4 c5 c6 c7 c8 c9 : Value} (j : Nat) (u : Value) (h : [c0, c1, c2, c3, c4, c5, c6, c7, c8, c9][j]? = some u) : (W.alloc (.cells #[c0, c1, c2, c3, c4, c5, c6, c7, c8, c9] 36)).cell? ((⟨W.heap.size, 0, none⟩ : Addr).add j) = some u := by
  rw [Addr.add_lit, Nat.zero_add, cell_of_heap (fz := (0, 0)) (heap_alloc_new W _)]
  simpa using h
theorem Src.tail' {w : World} {b o cap n : Nat} {l : List Nat} (h : Src w (.slice (some ⟨b, o, none⟩) l.length cap) l) (hn : n ≤ l.length) : Src w (.slice (if cap = n then some ⟨b, o, none⟩ else some ⟨b, o + n, none⟩) (l.length - n) (cap - n)) (l.drop n) := by
  have h := h.tail hn
  by_cases hc : cap = n
  · rw [if_pos hc] at h ⊢; exact h
  · rw [if_neg hc] at h ⊢; exact h
theorem acts_step {done : List PA} {L r r' : List Nat} {k w n x : Nat} {a : PA} (h : done.length < 1024) (he : done ++ actsL (1024 - done.length) (k :: w :: n :: x :: r) = actsL 1024 L) (hA : ∀ m, actsL (m + 1) (k :: w :: n :: x :: r) = a :: actsL m r') : done ++ [a] ++ actsL (1024 - (done ++ [a]).length) r' = actsL 1024 L := by
  rw [← he, show 1024 - done.length = (1024 - (done.length + 1)) + 1 by omega, hA]
  simp
theorem below_grown {PP : Pats} {w wr W3 W3' w4 : World} {old : Value} {n : Nat} {xs : List Value} (hB : Below w.heap.size w wr) (h3 : Below wr.heap.size wr W3) (h4 : Below W3.heap.size W3 W3') (hown : wr.ownsRow w.heap.size 36 10 old n xs) (hg : W3'.grownBy w4 old.ownBlock) : Below w.heap.size w w4 := by
  have h := (hB.trans (h3.mono hB.size)).trans (h4.mono (Nat.le_trans hB.size h3.size))
  refine h.grown hg h.size fun k hk => ?_
  rcases hown.2 with ⟨rfl, _⟩ | ⟨g, cap, cur, rfl, h1, _⟩
  · cases hk
  · cases hk; exact h1
theorem news10h {W : World} {H : Nat} {c0 c1 c2 c3 c4 c5 c6 c7 c8 c9 : Value} (hH : W.heap.size = H) (j : Nat) (u : Value) (h : [c0, c1, c2, c3, c4, c5, c6, c7, c8, c9][j]? = some u) : (W.alloc (.cells #[c0, c1, c2, c3, c4, c5, c6, c7, c8, c9] 36)).cell? ((⟨H, 0, none⟩ : Addr).add j) = some u := by
  subst hH
  exact news10 j u h
theorem raw_act {PP : Pats} (HS : Still PP) {okA : Nat → Prop} {W3 W5 : World} {c0 c1 c2 c3 c4 c5 c6 c7 c8 c9 vb : Value} {a : PA} {l : List Nat} (h : ActIs PP okA W3 [c0, c1, c2, c3, c4, c5, c6, c7, c8, c9] a) (hK : Go.Ai.Keeps okA W3 W5) (hb : BytIs okA W5 vb l) : ActIs PP okA W5 [c0, c1, c2, c3, c4, c5, c6, c7, vb, c9] { a with byt := l } := by
  obtain ⟨v5, v6, v7, v8, v9, e, h5, h6, h8, h9⟩ := h.mono HS hK
  simp only [heads, List.cons.injEq, and_true] at e
  obtain ⟨rfl, rfl, rfl, rfl, rfl, rfl, rfl, rfl, rfl, rfl⟩ := e
  exact ⟨_, _, _, _, _, rfl, h5, h6, hb, h9⟩
theorem own_set {w : World} {base e size n : Nat} {v : Value} {xs : List Value} (h : w.ownsRow base e size v n xs) {p : Addr} (u : Value) (hp : v.ownBlock ≠ some p.block) : (w.setCell p u).ownsRow base e size v n xs := by
  refine ⟨h.1, ?_⟩
  rcases h.2 with h | ⟨g, cap, cur, rfl, h1, h2, h3⟩
  · exact .inl h
  · exact .inr ⟨g, cap, cur, rfl, h1, (Below.heap_setCell _ _ _ _ (fun e => hp (by rw [← e]; rfl))).trans h2, h3⟩
theorem own_far {w : World} {base e size n na : Nat} {v : Value} {xs : List Value} (h : w.ownsRow base e size v n xs) (hn : w.heap.size ≤ na) : v.ownBlock ≠ some na := fun e => by have := own_block h e; omega
def R8 (PP : Pats) (L : List Nat) (w : World) (b out : Value) (wr : World) : Prop := ∃ (rest : List Nat) (done : List PA), Src w b rest ∧ ActsOwn PP w.heap.size wr out done ∧ done ++ actsL (1024 - done.length) rest = actsL 1024 L ∧ done.length ≤ 1024 ∧ (∀ x ∈ rest, x < 256) ∧ Below w.heap.size w wr
def blen : Value → Nat
  | .slice _ n _ => n
  | _ => 0
theorem take_min (r : List Nat) (k n' : Nat) (h : n' = min k r.length) : r.take n' = r.take k := by
  subst h
  rcases Nat.le_total k r.length with h | h
  · rw [Nat.min_eq_left h]
  · rw [Nat.min_eq_right h, List.take_of_length_le (Nat.le_refl _), List.take_of_length_le h]
theorem drop_min (r : List Nat) (k n' : Nat) (h : n' = min k r.length) : r.drop n' = r.drop k := by
  subst h
  rcases Nat.le_total k r.length with h | h
  · rw [Nat.min_eq_left h]
  · rw [Nat.min_eq_right h, List.drop_of_length_le (Nat.le_refl _), List.drop_of_length_le h]
theorem raw_close {PP : Pats} (HS : Still PP) {w wr W3 w5 w4 : World} {L r : List Nat} {k w1 n x n' capb g cap1 na : Nat} {vt old : Value} {c0 c1 c2 c3 c4 c5 c6 c7 c8 c9 : Value} {a : PA} {xs : List Value} {done : List PA} {nb : Nat}
    (hB : Below w.heap.size w wr) (hown : wr.ownsRow w.heap.size 36 10 old done.length xs) (hacts : ActsAt PP (okOut w.heap.size old) wr xs done) (hM : Mid PP wr na c0 c1 c2 c3 c4 c5 c6 c7 c8 c9 a W3) (hnb : W3.heap.size ≤ nb) (hbt : Bts w5 nb 0 n' (fun i => ((r.getD i 0 : Nat) : Int))) (hB5 : Below W3.heap.size W3 w5)
    (hn' : n' = min (n % 16) r.length) (he : done ++ actsL (1024 - done.length) (k :: w1 :: n :: x :: r) = actsL 1024 L) (h5 : done.length < 1024) (hby : ∀ y ∈ k :: w1 :: n :: x :: r, y < 256) (h11 : kindN k = 11) (ha : actC (kindN k) w1 n x = a) (hsrc : Src w vt (r.drop n'))
    (hown4 : w4.ownsRow w.heap.size 36 10 (.slice (some ⟨g, 0, none⟩) (done.length + 1) cap1) (done.length + 1) (xs ++ [c0, c1, c2, c3, c4, c5, c6, c7, .slice (some ⟨nb, 0, none⟩) n' capb, c9]))
    (hgrow4 : ((w5.setCell ⟨na, 8, none⟩ (.slice (some ⟨nb, 0, none⟩) n' capb)).alloc (.cells #[c0, c1, c2, c3, c4, c5, c6, c7, .slice (some ⟨nb, 0, none⟩) n' capb, c9] 36)).grownBy w4 old.ownBlock) (hat : old.ownBlock = some g ∨ g = w5.heap.size + 1) :
    R8 PP L w vt (.slice (some ⟨g, 0, none⟩) (done.length + 1) cap1) w4 := by
  obtain ⟨m1, m2, m3, m4⟩ := hM
  have hna := (Array.getElem?_eq_some_iff.1 m1).1
  have hb5 : Below wr.heap.size wr w5 := m2.trans (hB5.mono m2.size)
  have hb6 := hb5.setCell (p := ⟨na, 8, none⟩) m3 (.slice (some ⟨nb, 0, none⟩) n' capb)
  have hk : Go.Ai.Keeps (fun b => wr.heap.size ≤ b ∧ b ≠ na) W3 (w5.setCell ⟨na, 8, none⟩ (.slice (some ⟨nb, 0, none⟩) n' capb)) := keeps_set (Go.Ai.Keeps.below hB5) (fun h => h.2 rfl) _
  have hs := m2.size
  have hbyt : BytIs (fun b => wr.heap.size ≤ b ∧ b ≠ na) (w5.setCell ⟨na, 8, none⟩ (.slice (some ⟨nb, 0, none⟩) n' capb)) (.slice (some ⟨nb, 0, none⟩) n' capb) (r.take (n % 16)) := by
    rw [← take_min r (n % 16) n' hn']
    refine BytIs.mono (W := w5) (byt_of_bts ⟨by omega, by omega⟩ (by omega) hbt) (keeps_set (Go.Ai.Keeps.refl _ _) (fun h => h.2 rfl) _)
  have hact := raw_act HS m4 hk hbyt
  have hb4 := below_grown (PP := PP) hB hb6 ((Below.refl _ _).alloc (Nat.le_refl _) _) hown hgrow4
  have hrow := row_snoc HS hB.size hown hacts hb6 hact (fun b h => h.1) ((Below.refl _ _).alloc (Nat.le_refl _) _) hown4 rfl hgrow4 (by simpa using hat)
  refine ⟨r.drop n', done ++ [_], hsrc, hrow, acts_step h5 he (fun m => ?_), by simp; omega, fun y hy => hby y (by have := List.mem_of_mem_drop hy; simp [this]), hb4⟩
  rw [actsL_raw h11, drop_min r (n % 16) n' hn', ← ha, h11]
set_option maxRecDepth 100000 in
set_option maxHeartbeats 4000000 in
theorem c8 (PP : Pats) (HS : Still PP) (L : List Nat) (v : Value) (w : World) (h0 : 0 < w.heap.size) (hT : Tab w) (hby : ∀ x ∈ L, x < 256) (hL : L.length ≤ 100000) (h : Src w v L)
    (C13 : ∀ n : Nat, n < 256 → ∀ W', Calls Tryd.prog 13 #[.int .u8 n] W' (PatGot PP (n % 32) W')) : Calls Tryd.prog 8 #[v] w (ActsOut PP (actsL 1024 L) w) := by
  obtain ⟨i0, hi0, hz0, hz1, hz2⟩ := info_parts info36
  have HT := Lib.hid hT
  clear hT
  obtain ⟨b0, o0, cap0, rfl, _⟩ := id h
  go_enter Tryd.func8, Tryd.ntmps8
  go_wp2
  go_loopw [0, 3] (fun b out wr => R8 PP L w b out wr) (fun b _ _ => blen b)
  case atStart => exact ⟨L, [], h, ⟨[], ⟨rfl, .inl ⟨rfl, rfl⟩⟩, ActsAt.nil _ _ _⟩, rfl, by simp, hby, Below.refl _ _⟩
  case round =>
    clear h
    obtain ⟨rest, done, hsrc, hown, he, hd, hb, hB⟩ := hrel
    obtain ⟨blk, o, cap, rfl, hcap, hblk, hcell⟩ := id hsrc
    obtain ⟨xs, hown, hacts⟩ := hown
    obtain ⟨a3, c3, rfl⟩ : ∃ a c, u3 = .slice a done.length c := by
      rcases hown.2 with ⟨rfl, h⟩ | ⟨_, _, _, rfl, _⟩
      · exact ⟨_, _, by rw [h]⟩
      · exact ⟨_, _, rfl⟩
    have HOWN := Lib.hid hown; have HACTS := Lib.hid hacts; have HE := Lib.hid he; have HSRC := Lib.hid hsrc; have HB := Lib.hid hB; have HBY := Lib.hid hb
    clear hown hacts he hsrc hB hb
    by_cases hgo : 4 ≤ rest.length ∧ done.length < 1024
    · obtain ⟨h4, h5⟩ := hgo
      obtain ⟨k, w1, n, x, r, rfl⟩ : ∃ k w1 n x r, rest = k :: w1 :: n :: x :: r := by
        match rest, h4 with
        | k :: w1 :: n :: x :: r, _ => exact ⟨k, w1, n, x, r, rfl⟩
      have hk : k < 256 := HBY.out k (by simp)
      have hw : w1 < 256 := HBY.out w1 (by simp)
      have hn : n < 256 := HBY.out n (by simp)
      have hx : x < 256 := HBY.out x (by simp)
      have hlt : blk < w.heap.size := hblk (by simp)
      have q0 : wr.cell? ⟨blk, o, none⟩ = some (.int .u8 k) := ((bcell HB.out).1 _ _ hlt).trans (hcell 0 k rfl)
      have q1 : wr.cell? ⟨blk, o + 1, none⟩ = some (.int .u8 w1) := ((bcell HB.out).1 _ _ hlt).trans (hcell 1 w1 rfl)
      have q2 : wr.cell? ⟨blk, o + 2, none⟩ = some (.int .u8 n) := ((bcell HB.out).1 _ _ hlt).trans (hcell 2 n rfl)
      have q3 : wr.cell? ⟨blk, o + 3, none⟩ = some (.int .u8 x) := ((bcell HB.out).1 _ _ hlt).trans (hcell 3 x rfl)
      have hT' : Tab wr := tab_mono HT.out h0 HB.out
      have C19 := fun W (hW : Below wr.heap.size wr W) => c19 PP HS k w1 n x W hk hw hn hx (Nat.lt_of_lt_of_le (Nat.lt_of_lt_of_le h0 HB.out.size) hW.size) (tab_mono hT' (Nat.lt_of_lt_of_le h0 HB.out.size) hW) (C13 n hn)
      have hlen : (k :: w1 :: n :: x :: r).length = r.length + 4 := by simp
      have hsl := slice_tail blk o (r.length + 4) cap 4 (by omega)
      clear hcell hblk hT' h4
      rw [hlen] at hcap ⊢
      generalize hm : r.length = m at hcap hsl ⊢
      rw [Nat.add_sub_cancel] at hsl
      have hst := Src.tail (n := 4) HSRC.out (by simp)
      rw [show (k :: w1 :: n :: x :: r).drop 4 = r from rfl, show (k :: w1 :: n :: x :: r).length - 4 = r.length by simp, hm] at hst
      generalize (if cap = 4 then o else o + 4) = o4 at hsl hst
      have HST := Lib.hid hst
      clear hst
      have HM := Lib.hid hm
      clear hm
      have n0 := World.new_ne wr _ q0
      have n1 := World.new_ne wr _ q1
      have n2 := World.new_ne wr _ q2
      have n3 := World.new_ne wr _ q3
      have hltw : blk < wr.drew.heap.size := Nat.lt_of_lt_of_le hlt HB.out.size
      have i0' : (0 : Int) < (m : Int) + 4 := by omega
      have i1' : (1 : Int) < (m : Int) + 4 := by omega
      have i2' : (2 : Int) < (m : Int) + 4 := by omega
      have i3' : (3 : Int) < (m : Int) + 4 := by omega
      generalize ha : actC (kindN k) w1 n x = a at C19
      have HA := Lib.hid ha
      clear ha hlen
      by_cases h11 : kindN k = 11
      · have hka : a.kind = 11 := by rw [← HA.out]; exact h11
        have ht : ((a.kind : Int) == 11) = true := by simp; omega
        clear hka
        have HTL : Hid (Src w (.slice (if cap = 4 then some ⟨blk, o, none⟩ else some ⟨blk, o + 4, none⟩) m (cap - 4)) r) := by
          have hs := Src.tail' (n := 4) HSRC.out (by simp)
          rw [show (k :: w1 :: n :: x :: r).drop 4 = r from rfl, show (k :: w1 :: n :: x :: r).length - 4 = r.length by simp, HM.out] at hs
          exact Lib.hid hs
        have HBR : Hid (∀ y ∈ r, y < 256) := Lib.hid (fun y hy => HBY.out y (by simp [hy]))
        by_cases hc4 : cap = 4
        · obtain rfl : m = 0 := by omega
          have HT4 : Hid (Src w (.slice (some ⟨blk, o, none⟩) r.length 0) r) := by
            have h := HTL.out
            rw [if_pos hc4, hc4] at h
            rw [HM.out]
            exact Lib.hid h
          subst hc4
          clear HTL
          by_cases hnm : (n : Int) % 16 = 0
          · have hmz : min ((n : Int) % 16) 0 = 0 := by omega
            go_wp2
            go_region_held3 (fun w' => w'.cell? ⟨blk, o, none⟩ = some (.int .u8 k) ∧ w'.cell? ⟨blk, o + 1, none⟩ = some (.int .u8 w1) ∧ w'.cell? ⟨blk, o + 2, none⟩ = some (.int .u8 n) ∧ w'.cell? ⟨blk, o + 3, none⟩ = some (.int .u8 x)) (go_keep)
              ((go_at_call 19; refine (C19 _ (by first | exact (Below.refl _ wr).drew | exact ((Below.refl _ wr).alloc (Nat.le_refl _) _).drew)).mono ?_; rintro e w2 hq; obtain ⟨p5, l5, m5, p6, l6, m6, m7, p8, l8, m8, p9, l9, m9, rfl, hact, hB2⟩ := hq.open; obtain ⟨hc2, hz2⟩ := bcell hB2; have hBw : Below wr.heap.size wr w2 := (by first | exact ((Below.refl _ wr).drew).trans hB2 | exact (((Below.refl _ wr).alloc (Nat.le_refl _) _).drew).trans (hB2.mono (by simp))); have z0 := ((bcell hBw).1 blk o hltw).trans q0; have z1 := ((bcell hBw).1 blk (o + 1) hltw).trans q1; have z2 := ((bcell hBw).1 blk (o + 2) hltw).trans q2; have z3 := ((bcell hBw).1 blk (o + 3) hltw).trans q3))
            have hmid := midB HS hB2 hact
            refine cut3 _ hmid ?_
            clear hmid
            rotate_left
            have hmid := midA HS hB2 hact
            refine cut3 _ hmid ?_
            clear hmid
            all_goals
              intro W3 hM
              have HM3 := Lib.hid hM
              obtain ⟨y0, y1, y2, y3, y4, y5, y6, y7, y8, y9⟩ := mid_cells hM
              have HOWN3 := Lib.hid (own_below HOWN.out hM.2.1)
              have hs3 : w.heap.size ≤ W3.heap.size := Nat.le_trans HB.out.size hM.2.1.size
              have k2 := ((bcell hM.2.1).1 blk (o + 2) hltw).trans q2
              have hna := (Array.getElem?_eq_some_iff.1 hM.1).1
              have hB3 := Lib.hid hM.2.1
              have hbt : Bts W3 blk o 0 (fun i => ((r.getD i 0 : Nat) : Int)) := (Bts.mono (Src.bts (n := 0) HT4.out HBR.out (by have := HM.out; omega)) (HB.out.trans (hM.2.1.mono HB.out.size)))
              have C20 := c20 blk o 0 0 (fun i => ((r.getD i 0 : Nat) : Int)) W3 (by omega) hbt
              skip
              have fz := frozen_of_row W3 _ 8 _ _ hM.1
              have hne := own_far HOWN.out hM.2.2.1
              clear hM hact hB2 hc2 hz2 z0 z1 z2 z3 q0 q1 q2 q3 n0 n1 n2 n3 C19 hBw hbt
              go_wp2_with (first | (go_at_call 20; refine C20.mono ?_; rintro e w5 ⟨nb, capb, rfl, hnb, hbt5, hB5⟩; obtain ⟨hc5, hf5⟩ := bcell hB5; have x0 := (hc5 _ _ hna).trans y0; have x1 := (hc5 _ _ hna).trans y1; have x2 := (hc5 _ _ hna).trans y2; have x3 := (hc5 _ _ hna).trans y3; have x4 := (hc5 _ _ hna).trans y4; have x5 := (hc5 _ _ hna).trans y5; have x6 := (hc5 _ _ hna).trans y6; have x7 := (hc5 _ _ hna).trans y7; have x8 := (hc5 _ _ hna).trans y8; have x9 := (hc5 _ _ hna).trans y9; have fz5 := (hf5 _ _ hna).trans fz; have hs5 : W3.heap.size ≤ w5.heap.size := hB5.size; have HOWN5 := Lib.hid (own_below HOWN3.out hB5); clear hc5 hf5) | (at_builtin; go_must (refine wpList_append_lies _ (by rfl) _ _ 24 (by rfl) w.heap.size 36 i0 _ 10 128 Tryd.underlying24 hi0 hz0 hz1 hz2 rfl (by omega) _ done.length xs (by rfl) ((own_set HOWN5.out _ hne).alloc _) ⟨w5.heap.size, 0, none⟩ 1 1 _ (by rfl) rfl (news10h (by simp)) (by simp [Value.oneCell']) (by omega) (by unfold maxLen; omega) (by omega) (by simp; omega) (w5.heap.size + 1) (by simp) ?_); intro g cap1 w4 hown4 hgrow4 hat hlt))
              exact ⟨raw_close HS HB.out HOWN.out HACTS.out HM3.out hnb hbt5 hB5 (by have := HM.out; omega) HE.out h5 HBY.out h11 HA.out (by have h := Src.tail' (n := 0) HT4.out (by have := HM.out; omega); rw [HM.out] at h; simpa using h) hown4 hgrow4 hat, by simp [blen]; try omega⟩
          · skip
            go_wp2
            go_region_held3 (fun w' => w'.cell? ⟨blk, o, none⟩ = some (.int .u8 k) ∧ w'.cell? ⟨blk, o + 1, none⟩ = some (.int .u8 w1) ∧ w'.cell? ⟨blk, o + 2, none⟩ = some (.int .u8 n) ∧ w'.cell? ⟨blk, o + 3, none⟩ = some (.int .u8 x)) (go_keep)
              ((go_at_call 19; refine (C19 _ (by first | exact (Below.refl _ wr).drew | exact ((Below.refl _ wr).alloc (Nat.le_refl _) _).drew)).mono ?_; rintro e w2 hq; obtain ⟨p5, l5, m5, p6, l6, m6, m7, p8, l8, m8, p9, l9, m9, rfl, hact, hB2⟩ := hq.open; obtain ⟨hc2, hz2⟩ := bcell hB2; have hBw : Below wr.heap.size wr w2 := (by first | exact ((Below.refl _ wr).drew).trans hB2 | exact (((Below.refl _ wr).alloc (Nat.le_refl _) _).drew).trans (hB2.mono (by simp))); have z0 := ((bcell hBw).1 blk o hltw).trans q0; have z1 := ((bcell hBw).1 blk (o + 1) hltw).trans q1; have z2 := ((bcell hBw).1 blk (o + 2) hltw).trans q2; have z3 := ((bcell hBw).1 blk (o + 3) hltw).trans q3))
            have hmid := midB HS hB2 hact
            refine cut3 _ hmid ?_
            clear hmid
            rotate_left
            have hmid := midA HS hB2 hact
            refine cut3 _ hmid ?_
            clear hmid
            all_goals
              intro W3 hM
              have HM3 := Lib.hid hM
              obtain ⟨y0, y1, y2, y3, y4, y5, y6, y7, y8, y9⟩ := mid_cells hM
              have HOWN3 := Lib.hid (own_below HOWN.out hM.2.1)
              have hs3 : w.heap.size ≤ W3.heap.size := Nat.le_trans HB.out.size hM.2.1.size
              have k2 := ((bcell hM.2.1).1 blk (o + 2) hltw).trans q2
              have hna := (Array.getElem?_eq_some_iff.1 hM.1).1
              have hB3 := Lib.hid hM.2.1
              have hbt : Bts W3 blk o 0 (fun i => ((r.getD i 0 : Nat) : Int)) := (Bts.mono (Src.bts (n := 0) HT4.out HBR.out (by have := HM.out; omega)) (HB.out.trans (hM.2.1.mono HB.out.size)))
              have C20 := c20 blk o 0 0 (fun i => ((r.getD i 0 : Nat) : Int)) W3 (by omega) hbt
              skip
              have fz := frozen_of_row W3 _ 8 _ _ hM.1
              have hne := own_far HOWN.out hM.2.2.1
              clear hM hact hB2 hc2 hz2 z0 z1 z2 z3 q0 q1 q2 q3 n0 n1 n2 n3 C19 hBw hbt
              go_wp2_with (first | (go_at_call 20; refine C20.mono ?_; rintro e w5 ⟨nb, capb, rfl, hnb, hbt5, hB5⟩; obtain ⟨hc5, hf5⟩ := bcell hB5; have x0 := (hc5 _ _ hna).trans y0; have x1 := (hc5 _ _ hna).trans y1; have x2 := (hc5 _ _ hna).trans y2; have x3 := (hc5 _ _ hna).trans y3; have x4 := (hc5 _ _ hna).trans y4; have x5 := (hc5 _ _ hna).trans y5; have x6 := (hc5 _ _ hna).trans y6; have x7 := (hc5 _ _ hna).trans y7; have x8 := (hc5 _ _ hna).trans y8; have x9 := (hc5 _ _ hna).trans y9; have fz5 := (hf5 _ _ hna).trans fz; have hs5 : W3.heap.size ≤ w5.heap.size := hB5.size; have HOWN5 := Lib.hid (own_below HOWN3.out hB5); clear hc5 hf5) | (at_builtin; go_must (refine wpList_append_lies _ (by rfl) _ _ 24 (by rfl) w.heap.size 36 i0 _ 10 128 Tryd.underlying24 hi0 hz0 hz1 hz2 rfl (by omega) _ done.length xs (by rfl) ((own_set HOWN5.out _ hne).alloc _) ⟨w5.heap.size, 0, none⟩ 1 1 _ (by rfl) rfl (news10h (by simp)) (by simp [Value.oneCell']) (by omega) (by unfold maxLen; omega) (by omega) (by simp; omega) (w5.heap.size + 1) (by simp) ?_); intro g cap1 w4 hown4 hgrow4 hat hlt))
              exact ⟨raw_close HS HB.out HOWN.out HACTS.out HM3.out hnb hbt5 hB5 (by have := HM.out; omega) HE.out h5 HBY.out h11 HA.out (by have h := Src.tail' (n := 0) HT4.out (by have := HM.out; omega); rw [HM.out] at h; simpa using h) hown4 hgrow4 hat, by simp [blen]; try omega⟩
        · have HT4 : Hid (Src w (.slice (some ⟨blk, o + 4, none⟩) r.length (cap - 4)) r) := by
            have h := HTL.out
            rw [if_neg hc4] at h
            rw [HM.out]
            exact Lib.hid h
          clear HTL
          by_cases hnm : (n : Int) % 16 ≤ (m : Int)
          · skip
            go_wp2
            go_region_held3 (fun w' => w'.cell? ⟨blk, o, none⟩ = some (.int .u8 k) ∧ w'.cell? ⟨blk, o + 1, none⟩ = some (.int .u8 w1) ∧ w'.cell? ⟨blk, o + 2, none⟩ = some (.int .u8 n) ∧ w'.cell? ⟨blk, o + 3, none⟩ = some (.int .u8 x)) (go_keep)
              ((go_at_call 19; refine (C19 _ (by first | exact (Below.refl _ wr).drew | exact ((Below.refl _ wr).alloc (Nat.le_refl _) _).drew)).mono ?_; rintro e w2 hq; obtain ⟨p5, l5, m5, p6, l6, m6, m7, p8, l8, m8, p9, l9, m9, rfl, hact, hB2⟩ := hq.open; obtain ⟨hc2, hz2⟩ := bcell hB2; have hBw : Below wr.heap.size wr w2 := (by first | exact ((Below.refl _ wr).drew).trans hB2 | exact (((Below.refl _ wr).alloc (Nat.le_refl _) _).drew).trans (hB2.mono (by simp))); have z0 := ((bcell hBw).1 blk o hltw).trans q0; have z1 := ((bcell hBw).1 blk (o + 1) hltw).trans q1; have z2 := ((bcell hBw).1 blk (o + 2) hltw).trans q2; have z3 := ((bcell hBw).1 blk (o + 3) hltw).trans q3))
            have hmid := midB HS hB2 hact
            refine cut3 _ hmid ?_
            clear hmid
            rotate_left
            have hmid := midA HS hB2 hact
            refine cut3 _ hmid ?_
            clear hmid
            all_goals
              intro W3 hM
              have HM3 := Lib.hid hM
              obtain ⟨y0, y1, y2, y3, y4, y5, y6, y7, y8, y9⟩ := mid_cells hM
              have HOWN3 := Lib.hid (own_below HOWN.out hM.2.1)
              have hs3 : w.heap.size ≤ W3.heap.size := Nat.le_trans HB.out.size hM.2.1.size
              have k2 := ((bcell hM.2.1).1 blk (o + 2) hltw).trans q2
              have hna := (Array.getElem?_eq_some_iff.1 hM.1).1
              have hB3 := Lib.hid hM.2.1
              have hbt : Bts W3 blk (o + 4) (n % 16) (fun i => ((r.getD i 0 : Nat) : Int)) := (Bts.mono (Src.bts (n := n % 16) HT4.out HBR.out (by have := HM.out; omega)) (HB.out.trans (hM.2.1.mono HB.out.size)))
              have C20 := c20 blk (o + 4) (n % 16) (cap - 4) (fun i => ((r.getD i 0 : Nat) : Int)) W3 (by omega) hbt
              rw [show ((n % 16) : Nat) = ((n : Int) % 16).toNat by omega] at C20
              have fz := frozen_of_row W3 _ 8 _ _ hM.1
              have hne := own_far HOWN.out hM.2.2.1
              clear hM hact hB2 hc2 hz2 z0 z1 z2 z3 q0 q1 q2 q3 n0 n1 n2 n3 C19 hBw hbt
              go_wp2_with (first | (go_at_call 20; refine C20.mono ?_; rintro e w5 ⟨nb, capb, rfl, hnb, hbt5, hB5⟩; obtain ⟨hc5, hf5⟩ := bcell hB5; have x0 := (hc5 _ _ hna).trans y0; have x1 := (hc5 _ _ hna).trans y1; have x2 := (hc5 _ _ hna).trans y2; have x3 := (hc5 _ _ hna).trans y3; have x4 := (hc5 _ _ hna).trans y4; have x5 := (hc5 _ _ hna).trans y5; have x6 := (hc5 _ _ hna).trans y6; have x7 := (hc5 _ _ hna).trans y7; have x8 := (hc5 _ _ hna).trans y8; have x9 := (hc5 _ _ hna).trans y9; have fz5 := (hf5 _ _ hna).trans fz; have hs5 : W3.heap.size ≤ w5.heap.size := hB5.size; have HOWN5 := Lib.hid (own_below HOWN3.out hB5); clear hc5 hf5) | (at_builtin; go_must (refine wpList_append_lies _ (by rfl) _ _ 24 (by rfl) w.heap.size 36 i0 _ 10 128 Tryd.underlying24 hi0 hz0 hz1 hz2 rfl (by omega) _ done.length xs (by rfl) ((own_set HOWN5.out _ hne).alloc _) ⟨w5.heap.size, 0, none⟩ 1 1 _ (by rfl) rfl (news10h (by simp)) (by simp [Value.oneCell']) (by omega) (by unfold maxLen; omega) (by omega) (by simp; omega) (w5.heap.size + 1) (by simp) ?_); intro g cap1 w4 hown4 hgrow4 hat hlt))
              exact ⟨raw_close HS HB.out HOWN.out HACTS.out HM3.out hnb hbt5 hB5 (by have := HM.out; omega) HE.out h5 HBY.out h11 HA.out (by rw [show ((n : Int) % 16).toNat = n % 16 by omega]; have h := Src.tail' (n := n % 16) HT4.out (by have := HM.out; omega); rw [HM.out] at h; simpa using h) hown4 hgrow4 hat, by simp [blen]; try omega⟩
          · skip
            go_wp2
            go_region_held3 (fun w' => w'.cell? ⟨blk, o, none⟩ = some (.int .u8 k) ∧ w'.cell? ⟨blk, o + 1, none⟩ = some (.int .u8 w1) ∧ w'.cell? ⟨blk, o + 2, none⟩ = some (.int .u8 n) ∧ w'.cell? ⟨blk, o + 3, none⟩ = some (.int .u8 x)) (go_keep)
              ((go_at_call 19; refine (C19 _ (by first | exact (Below.refl _ wr).drew | exact ((Below.refl _ wr).alloc (Nat.le_refl _) _).drew)).mono ?_; rintro e w2 hq; obtain ⟨p5, l5, m5, p6, l6, m6, m7, p8, l8, m8, p9, l9, m9, rfl, hact, hB2⟩ := hq.open; obtain ⟨hc2, hz2⟩ := bcell hB2; have hBw : Below wr.heap.size wr w2 := (by first | exact ((Below.refl _ wr).drew).trans hB2 | exact (((Below.refl _ wr).alloc (Nat.le_refl _) _).drew).trans (hB2.mono (by simp))); have z0 := ((bcell hBw).1 blk o hltw).trans q0; have z1 := ((bcell hBw).1 blk (o + 1) hltw).trans q1; have z2 := ((bcell hBw).1 blk (o + 2) hltw).trans q2; have z3 := ((bcell hBw).1 blk (o + 3) hltw).trans q3))
            have hmid := midB HS hB2 hact
            refine cut3 _ hmid ?_
            clear hmid
            rotate_left
            have hmid := midA HS hB2 hact
            refine cut3 _ hmid ?_
            clear hmid
            all_goals
              intro W3 hM
              have HM3 := Lib.hid hM
              obtain ⟨y0, y1, y2, y3, y4, y5, y6, y7, y8, y9⟩ := mid_cells hM
              have HOWN3 := Lib.hid (own_below HOWN.out hM.2.1)
              have hs3 : w.heap.size ≤ W3.heap.size := Nat.le_trans HB.out.size hM.2.1.size
              have k2 := ((bcell hM.2.1).1 blk (o + 2) hltw).trans q2
              have hna := (Array.getElem?_eq_some_iff.1 hM.1).1
              have hB3 := Lib.hid hM.2.1
              have hbt : Bts W3 blk (o + 4) m (fun i => ((r.getD i 0 : Nat) : Int)) := (Bts.mono (Src.bts (n := m) HT4.out HBR.out (by have := HM.out; omega)) (HB.out.trans (hM.2.1.mono HB.out.size)))
              have C20 := c20 blk (o + 4) m (cap - 4) (fun i => ((r.getD i 0 : Nat) : Int)) W3 (by omega) hbt
              skip
              have fz := frozen_of_row W3 _ 8 _ _ hM.1
              have hne := own_far HOWN.out hM.2.2.1
              clear hM hact hB2 hc2 hz2 z0 z1 z2 z3 q0 q1 q2 q3 n0 n1 n2 n3 C19 hBw hbt
              go_wp2_with (first | (go_at_call 20; refine C20.mono ?_; rintro e w5 ⟨nb, capb, rfl, hnb, hbt5, hB5⟩; obtain ⟨hc5, hf5⟩ := bcell hB5; have x0 := (hc5 _ _ hna).trans y0; have x1 := (hc5 _ _ hna).trans y1; have x2 := (hc5 _ _ hna).trans y2; have x3 := (hc5 _ _ hna).trans y3; have x4 := (hc5 _ _ hna).trans y4; have x5 := (hc5 _ _ hna).trans y5; have x6 := (hc5 _ _ hna).trans y6; have x7 := (hc5 _ _ hna).trans y7; have x8 := (hc5 _ _ hna).trans y8; have x9 := (hc5 _ _ hna).trans y9; have fz5 := (hf5 _ _ hna).trans fz; have hs5 : W3.heap.size ≤ w5.heap.size := hB5.size; have HOWN5 := Lib.hid (own_below HOWN3.out hB5); clear hc5 hf5) | (at_builtin; go_must (refine wpList_append_lies _ (by rfl) _ _ 24 (by rfl) w.heap.size 36 i0 _ 10 128 Tryd.underlying24 hi0 hz0 hz1 hz2 rfl (by omega) _ done.length xs (by rfl) ((own_set HOWN5.out _ hne).alloc _) ⟨w5.heap.size, 0, none⟩ 1 1 _ (by rfl) rfl (news10h (by simp)) (by simp [Value.oneCell']) (by omega) (by unfold maxLen; omega) (by omega) (by simp; omega) (w5.heap.size + 1) (by simp) ?_); intro g cap1 w4 hown4 hgrow4 hat hlt))
              exact ⟨raw_close HS HB.out HOWN.out HACTS.out HM3.out hnb hbt5 hB5 (by have := HM.out; omega) HE.out h5 HBY.out h11 HA.out (by have h := Src.tail' (n := m) HT4.out (by have := HM.out; omega); rw [HM.out] at h; simpa using h) hown4 hgrow4 hat, by simp [blen]; try omega⟩
      · have hka : a.kind ≠ 11 := by rw [← HA.out]; exact h11
        have ht : ((a.kind : Int) == 11) = false := by simp; omega
        go_wp2
        go_region_held3 (fun w' => w'.cell? ⟨blk, o, none⟩ = some (.int .u8 k) ∧ w'.cell? ⟨blk, o + 1, none⟩ = some (.int .u8 w1) ∧ w'.cell? ⟨blk, o + 2, none⟩ = some (.int .u8 n) ∧ w'.cell? ⟨blk, o + 3, none⟩ = some (.int .u8 x)) (go_keep)
          ((go_at_call 19; refine (C19 _ (by first | exact (Below.refl _ wr).drew | exact ((Below.refl _ wr).alloc (Nat.le_refl _) _).drew)).mono ?_; rintro e w2 hq; obtain ⟨p5, l5, m5, p6, l6, m6, m7, p8, l8, m8, p9, l9, m9, rfl, hact, hB2⟩ := hq.open; obtain ⟨hc2, hz2⟩ := bcell hB2; have hBw : Below wr.heap.size wr w2 := (by first | exact ((Below.refl _ wr).drew).trans hB2 | exact (((Below.refl _ wr).alloc (Nat.le_refl _) _).drew).trans (hB2.mono (by simp))); have z0 := ((bcell hBw).1 blk o hltw).trans q0; have z1 := ((bcell hBw).1 blk (o + 1) hltw).trans q1; have z2 := ((bcell hBw).1 blk (o + 2) hltw).trans q2; have z3 := ((bcell hBw).1 blk (o + 3) hltw).trans q3))
        have hmid := midB HS hB2 hact
        refine cut3 _ hmid ?_
        clear hmid
        rotate_left
        have hmid := midA HS hB2 hact
        refine cut3 _ hmid ?_
        clear hmid
        all_goals
          intro W3 hM
          have HM3 := Lib.hid hM
          obtain ⟨y0, y1, y2, y3, y4, y5, y6, y7, y8, y9⟩ := mid_cells hM
          have HOWN3 := Lib.hid (own_below HOWN.out hM.2.1)
          have hs3 : w.heap.size ≤ W3.heap.size := Nat.le_trans HB.out.size hM.2.1.size
          have k2 := ((bcell hM.2.1).1 blk (o + 2) hltw).trans q2
          clear hM hact hB2 hc2 hz2 z0 z1 z2 z3 q0 q1 q2 q3 n0 n1 n2 n3 C19 hBw
          go_wp2_with (at_builtin; go_must (refine wpList_append_lies _ (by rfl) _ _ 24 (by rfl) w.heap.size 36 i0 _ 10 128 Tryd.underlying24 hi0 hz0 hz1 hz2 rfl (by omega) _ done.length xs (by rfl) (HOWN3.out.alloc _) ⟨W3.heap.size, 0, none⟩ 1 1 _ (by rfl) rfl news10 (by simp [Value.oneCell']) (by omega) (by unfold maxLen; omega) (by omega) (by simp; omega) (W3.heap.size + 1) (by simp) ?_); intro g cap1 w4 hown4 hgrow4 hat hlt)
          have hM := HM3.out
          have hb4 := below_grown (PP := PP) HB.out hM.2.1 ((Below.refl _ W3).alloc (Nat.le_refl _) _) HOWN.out hgrow4
          have hrow := row_snoc HS HB.out.size HOWN.out HACTS.out hM.2.1 hM.2.2.2 (fun b h => h.1) ((Below.refl _ W3).alloc (Nat.le_refl _) _) hown4 rfl hgrow4 (by simpa using hat)
          refine ⟨⟨r, done ++ [a], ?_, hrow, acts_step h5 HE.out (fun m => by rw [actsL_other h11, HA.out]), by simp; omega, fun y hy => HBY.out y (by simp [hy]), hb4⟩, by simp [blen]⟩
          have hs := Src.tail' (n := 4) HSRC.out (by simp)
          rw [show (k :: w1 :: n :: x :: r).drop 4 = r from rfl, show (k :: w1 :: n :: x :: r).length - 4 = r.length by simp, HM.out] at hs
          exact hs
    · have hfin : done = actsL 1024 L := by
        have he := HE.out
        by_cases h4 : rest.length < 4
        · rw [actsL_short h4, List.append_nil] at he; exact he
        · rw [show 1024 - done.length = 0 by omega] at he
          rw [← he, actsL, List.append_nil]
      have hown' : ActsOwn PP w.heap.size wr (.slice a3 done.length c3) done := ⟨xs, HOWN.out, HACTS.out⟩
      have HF := Lib.hid hfin
      have HO := Lib.hid hown'
      clear hfin hown' hcell hblk
      by_cases h4 : 4 ≤ rest.length
      · have h5 : ¬ done.length < 1024 := fun h => hgo ⟨h4, h⟩
        clear hgo
        go_wp2
        go_ret
        exact ⟨_, rfl, by rw [← HF.out]; exact HO.out, HB.out⟩
      · clear hgo
        go_wp2
        go_ret
        exact ⟨_, rfl, by rw [← HF.out]; exact HO.out, HB.out⟩
end Go.Proofs.SA
