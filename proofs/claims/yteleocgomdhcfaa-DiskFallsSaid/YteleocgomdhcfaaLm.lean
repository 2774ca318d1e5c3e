/- Proved: what an operation makes of a disk, and that both disks hold the same after an act of each. Each theorem says its own conditions. -/
import Derived.Test.YteleocgomdhcfaaLl
set_option linter.unusedVariables false
set_option linter.unusedSimpArgs false
set_option linter.unusedSectionVars false
namespace Go.Proofs.DK
open Go.RowKit
/-- Blocks that are not forbidden, or new. -/
@[instance_reducible] def okP (F : Nat → Prop) (n : Nat) : Okb := ⟨fun b => F b → n ≤ b, n, fun _ h _ => h⟩
theorem Rd.change {F F' : Nat → Prop} {n n' : Nat} {W W' : World} {v : Value} {l : List UInt8} (h : @Rd (okP F n) W v l) (hs : W.heap.size ≤ W'.heap.size) (hk : ∀ b, b < W.heap.size → (F b → n ≤ b) → (∃ o x, W.cell? ⟨b, o, none⟩ = some (.int .u8 x)) → W'.heap[b]? = W.heap[b]? ∧ (F' b → n' ≤ b)) : @Rd (okP F' n') W' v l := by
  obtain ⟨p, c, rfl, hl, h⟩ := h
  refine ⟨p, c, rfl, hl, fun j x hx => ?_⟩
  obtain ⟨b, o, hp, hb, hc, hok⟩ := h j x hx
  obtain ⟨k1, k2⟩ := hk b hb hok ⟨_, _, hc⟩
  exact ⟨b, o, hp, by omega, (World.cell?_of_block (a := ⟨b, o + j, none⟩) k1).trans hc, k2⟩
theorem FsAt.change {F F' : Nat → Prop} {n n' : Nat} {W W' : World} {p : Option Addr} {fs : List Fl} (h : @FsAt (okP F n) W p fs) (hs : W.heap.size ≤ W'.heap.size) (hk : ∀ b, b < W.heap.size → (F b → n ≤ b) → (∃ o x, W.cell? ⟨b, o, none⟩ = some (.int .u8 x)) → W'.heap[b]? = W.heap[b]? ∧ (F' b → n' ≤ b)) (ht : ∀ b, b < W.heap.size → Tg W b → W'.heap[b]? = W.heap[b]?) : @FsAt (okP F' n') W' p fs := fun i f hf => by
  obtain ⟨b, hp, hb, h0, ⟨v, h1, hr⟩, h2, h3⟩ := h i f hf
  have e := ht b hb h3
  have h3' : Tg W' b := by obtain ⟨c, z, h3⟩ := h3; exact ⟨c, z, e.trans h3⟩
  exact ⟨b, hp, by omega, (World.cell?_of_block (a := ⟨b, _, none⟩) e).trans h0, ⟨v, (World.cell?_of_block (a := ⟨b, _, none⟩) e).trans h1, hr.change hs hk⟩, (World.cell?_of_block (a := ⟨b, _, none⟩) e).trans h2, h3'⟩
/-- Blocks that are none of a disk's: of another type. -/
def Kp (W : World) (b : Nat) : Prop := ∃ cur t fz, W.heap[b]? = some (.cells cur t fz) ∧ t ≠ 56 ∧ t ≠ 73 ∧ t ≠ 5
theorem Tg.kp {W : World} {b : Nat} (h : Tg W b) : Kp W b := let ⟨c, z, h⟩ := h; ⟨c, 43, z, h, by decide, by decide, by decide⟩
/-- The disk's blocks are of few types. -/
theorem D.exact {G : Nat → Prop} {bd : Nat} {S : Ds} {W : World} (h : D G bd S W) : D (fun b => G b ∧ b < W.heap.size ∧ ¬ Kp W b) bd S W := by
  obtain ⟨bm, es, ck, R, h⟩ := h
  have ne : ∀ {b : Nat} {o : Obj}, W.heap[b]? = some o → (∀ c t fz, o = .cells c t fz → t = 56 ∨ t = 73 ∨ t = 5) → b < W.heap.size ∧ ¬ Kp W b := fun {b o} hb ho => ⟨(Array.getElem?_eq_some_iff.1 hb).1, fun ⟨c, t, fz, e, h1, h2, h3⟩ => by
    rw [hb] at e
    rcases ho _ _ _ (Option.some.inj e) with h | h | h
    · exact h1 h
    · exact h2 h
    · exact h3 h⟩
  refine ⟨bm, es, ck, R, ⟨h.gd, ne h.hd (fun c t fz e => by cases e; exact .inl rfl)⟩, ⟨h.gm, ne h.map (fun c t fz e => by cases e)⟩, h.hd, h.map, h.mp, h.perm, h.srt, fun e he => ?_, h.apart, h.st⟩
  obtain ⟨h1, h2, h3, h4⟩ := h.ent e he
  refine ⟨⟨h1, ne h2 (fun c t fz e => by cases e; exact .inr (.inl rfl))⟩, h2, h3, fun g hg => ?_⟩
  obtain ⟨cur, hc⟩ := h3.lt g hg
  exact ⟨h4 g hg, ne hc (fun c t fz e => by cases e; exact .inr (.inr rfl))⟩
/-- The program's disk and the document's hold the same. -/
def Both (N bd : Nat) (S : Ds) (p : Option Addr) (W : World) : Prop := ∃ G : Nat → Prop, D G bd S W ∧ (∀ b, G b → N ≤ b ∧ b < W.heap.size ∧ ¬ Kp W b) ∧ @FsAt (okP G W.heap.size) W p S.fs
theorem Both.below {N bd : Nat} {S : Ds} {p : Option Addr} {W W' : World} (h : Both N bd S p W) (hB : Below W.heap.size W W') : Both N bd S p W' := by
  obtain ⟨G, hD, hG, hF⟩ := h
  refine ⟨G, hD.below hB, fun b hb => ?_, hF.change hB.size (fun b hb hk _ => ⟨hB.block b hb, fun hg => absurd (hk hg) (by omega)⟩) (fun b hb _ => hB.block b hb)⟩
  obtain ⟨h1, h2, h3⟩ := hG b hb
  refine ⟨h1, Nat.lt_of_lt_of_le h2 hB.size, fun ⟨c, t, z, e, ho⟩ => h3 ⟨c, t, z, ?_, ho⟩⟩
  rw [← hB.block b h2]
  exact e
/-- After an act of each. -/
theorem fin_both {N n bd : Nat} {S' : Ds} {p' : Option Addr} {G' : Nat → Prop} {w2 w3 w' : World} (hN : N ≤ n) (hn : n + 3 ≤ w2.heap.size) (hD : D G' bd S' w2) (hG : ∀ b, G' b → (N ≤ b ∧ b < n) ∨ n + 3 ≤ b)
    (hF : @FsAt (okP (fun b => G' b ∨ (n ≤ b ∧ b < n + 3)) w2.heap.size) w3 p' S'.fs) (hB : Below w2.heap.size w2 w3) (hk : ∀ b, b ≠ n → b ≠ n + 2 → w'.heap[b]? = w3.heap[b]?) (hs : w'.heap.size = w3.heap.size)
    (h0 : ∃ o, w3.heap[n]? = some (.cells o 31 (0, 0))) (h2 : ∃ o, w3.heap[n + 2]? = some (.cells o 31 (0, 0))) : Both N bd S' p' w' := by
  have hz := hB.size
  have hne : ∀ b, G' b → b ≠ n ∧ b ≠ n + 2 := fun b h => by
    rcases hG b h with h | h
    · omega
    · omega
  refine ⟨fun b => G' b ∧ b < w2.heap.size ∧ ¬ Kp w2 b, (hD.exact.below hB).keep (fun b hb hg => hk b (hne b hg.1).1 (hne b hg.1).2), fun b hb => ⟨?_, ?_, fun ⟨c, t, z, e, ho⟩ => hb.2.2 ⟨c, t, z, ?_, ho⟩⟩, hF.change (by omega) (fun b hb hok hc => ⟨?_, fun hg => ?_⟩) (fun b hb ht => ?_)⟩
  · have := hG b hb.1
    omega
  · have := hb.2.1
    omega
  · rw [← hB.block b hb.2.1, ← hk b (hne b hb.1).1 (hne b hb.1).2]
    exact e
  · have h1 : ¬ (n ≤ b ∧ b < n + 3) := fun h => by
      have := hok (.inr h)
      omega
    exact hk b (by omega) (by omega)
  · have h1 := hok (.inl hg.1)
    have h2 := hg.2.1
    omega
  · obtain ⟨c, z, e⟩ := ht
    refine hk b (fun h => ?_) (fun h => ?_)
    · obtain ⟨o, h0⟩ := h0
      rw [h, h0] at e; cases e
    · obtain ⟨o, h2⟩ := h2
      rw [h, h2] at e; cases e
/-- What an operation makes of a disk. -/
def Ds.does (S : Ds) (o : Opn) : Ds :=
  if o.kind = 0 then S.append o.n o.b else if o.kind = 1 then S.sync o.n else if o.kind = 2 then S.rename o.n o.t else if o.kind = 3 then S.truncate o.n o.N
  else if o.kind = 4 then S.delete o.n else if o.kind = 5 then S.light o.N o.K else if o.kind = 6 then S.crash else if o.kind = 7 then S.wake o.keep else S
/-- Numbers that fit. -/
structure Lim (S : Ds) : Prop where
  fuse : S.fuse ≤ 9223372036854775807
  part : S.part ≤ 9223372036854775807
theorem Lim.of {S S' : Ds} (h : Lim S) (h1 : S'.fuse ≤ S.fuse ∨ S'.fuse ≤ 0) (h2 : S'.part = S.part ∨ S'.part = 0) : Lim S' := by
  obtain ⟨a, b⟩ := h
  constructor <;> omega
theorem Lim.begin {S : Ds} (h : Lim S) : Lim S.begin := by
  refine h.of ?_ ?_
  all_goals
    unfold Ds.begin Ds.crash
    repeat' split
    all_goals simp
    try omega
theorem Lim.same {S S' : Ds} (h : Lim S) (h1 : S'.fuse = S.fuse) (h2 : S'.part = S.part) : Lim S' := h.of (.inl (by omega)) (.inl h2)
theorem Lim.does {S : Ds} (h : Lim S) (o : Opn) (hN : o.N ≤ 9223372036854775807) (hK : o.K ≤ 9223372036854775807) : Lim (S.does o) := by
  unfold Ds.does
  split
  · unfold Ds.append
    repeat' split
    all_goals first | exact h | exact h.begin | exact h.begin.same rfl rfl
  split
  · unfold Ds.sync
    repeat' split
    all_goals first | exact h.begin | exact h.begin.same rfl rfl
  split
  · unfold Ds.rename
    repeat' split
    all_goals first | exact h.begin | exact h.begin.same rfl rfl
  split
  · unfold Ds.truncate
    repeat' split
    all_goals first | exact h.begin | exact h.begin.same rfl rfl
  split
  · unfold Ds.delete
    repeat' split
    all_goals first | exact h.begin | exact h.begin.same rfl rfl
  split
  · unfold Ds.light
    constructor
    · show max o.N 0 ≤ _; omega
    · show max o.K 0 ≤ _; omega
  split
  · unfold Ds.crash
    exact h.of (.inr (Int.le_refl _)) (.inr rfl)
  split
  · unfold Ds.wake
    split
    · exact h.same rfl rfl
    · exact h
  · exact h
theorem Ok.does {m : Nat} {S : Ds} (h : Ok m S) (o : Opn) : Ok (m + 1) (S.does o) := by
  unfold Ds.does
  split
  · exact h.append _ _
  split
  · exact h.sync _
  split
  · exact h.rename _ _
  split
  · exact h.truncate _ _
  split
  · exact h.delete _
  split
  · exact h.light _ _
  split
  · exact h.crash
  split
  · exact h.wake _
  · exact h.more
theorem Ok.fine {m : Nat} {S : Ds} (h : Ok m S) (hl : Lim S) (hm : m ≤ 100000) : Fine S :=
  ⟨h.falls.1, by have := h.falls.2; omega, h.fuse, hl.fuse, h.many, h.srt⟩
theorem drew_cell (W : World) (p : Addr) : W.drew.cell? p = W.cell? p := rfl
theorem far7 {w : World} {n a o : Nat} {v0 v1 v2 v3 v4 v5 v6 : Value} (h : a ≠ n) : (((((((w.setCell ⟨a, 0, none⟩ v0).setCell ⟨a, 1, none⟩ v1).setCell ⟨a, 2, none⟩ v2).setCell ⟨a, 3, none⟩ v3).setCell ⟨a, 4, none⟩ v4).setCell ⟨a, 5, none⟩ v5).setCell ⟨a, 6, none⟩ v6).drew.cell? ⟨n, o, none⟩ = w.cell? ⟨n, o, none⟩ := by
  rw [drew_cell]
  iterate 7 rw [World.cell?_setCell_far _ _ _ _ h]
/-- The boxes of 'do': the document's disk, the operation, the result. -/
def opc (o : Opn) (vb vk : Value) : Array Value := #[.int .i64 o.kind, .string (bs o.n), .string (bs o.t), vb, .int .i64 o.N, .int .i64 o.K, vk]
def WB (S : Ds) (v : Value) (o : Opn) (vb vk : Value) (w : World) : World := ((w.alloc (bx S v)).alloc (.cells (opc o vb vk) 35)).alloc bz
structure Tri (S : Ds) (v : Value) (o : Opn) (vb vk : Value) (b : Nat) (W : World) : Prop where
  a : W.heap[b]? = some (bx S v)
  f : W.heap[b + 1]? = some (.cells (opc o vb vk) 35)
  z : W.heap[b + 2]? = some bz
theorem WB.below (S : Ds) (v : Value) (o : Opn) (vb vk : Value) (w : World) : Below w.heap.size w (WB S v o vb vk w) := (((Below.refl _ w).alloc (Nat.le_refl _) _).alloc (by simp) _).alloc (by simp; omega) _
theorem WB.size (S : Ds) (v : Value) (o : Opn) (vb vk : Value) (w : World) : (WB S v o vb vk w).heap.size = w.heap.size + 3 := by simp [WB]
theorem Tri.at (S : Ds) (v : Value) (o : Opn) (vb vk : Value) (w : World) : Tri S v o vb vk w.heap.size (WB S v o vb vk w) := by
  refine ⟨?_, ?_, ?_⟩
  · show (((w.heap.push _).push _).push _)[w.heap.size]? = _
    simp [Array.getElem?_push, Array.getElem_push]
    omega
  · show (((w.heap.push _).push _).push _)[w.heap.size + 1]? = _
    simp [Array.getElem?_push, Array.getElem_push]
  · show (((w.heap.push _).push _).push _)[w.heap.size + 2]? = _
    simp [Array.getElem?_push, Array.getElem_push]
theorem Tri.keep {S : Ds} {v : Value} {o : Opn} {vb vk : Value} {b : Nat} {W W' : World} (h : Tri S v o vb vk b W) (hk : ∀ c, b ≤ c → c < b + 3 → W'.heap[c]? = W.heap[c]?) : Tri S v o vb vk b W' :=
  ⟨(hk _ (Nat.le_refl _) (by omega)).trans h.a, (hk _ (by omega) (by omega)).trans h.f, (hk _ (by omega) (by omega)).trans h.z⟩
def DoOut (N bd : Nat) (S' : Ds) (w : World) (e : Ending) (w' : World) : Prop := ∃ (r : Bool) (p' : Option Addr) (c' : Nat), e = .returned (.tuple #[.bool r, MV S' (.slice p' S'.fs.length c')]) ∧ Both N bd S' p' w' ∧ Below N w w' ∧ ∀ k, k < w.heap.size → Kp w k → w'.heap[k]? = w.heap[k]?
end Go.Proofs.DK
