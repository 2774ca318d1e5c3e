/- Proved: what a run has made, kept as a still picture: it stays true while nothing that is there is written; two such pictures are a start for another run. Conditions: none but what each theorem names. -/
import Derived.Test.YtopnmikijbajfaaAd
set_option linter.unusedVariables false
set_option linter.unusedSimpArgs false
namespace Go.Ai
open Go.RowKit
variable {P : Program}

def Blk.still : Blk → Option Blk
  | .cells vs t loose ro => match ro with
    | false => some (.cells vs t loose true)
    | true => none
  | _ => none
def Trie.mapO (f : Blk → Option Blk) : Trie → Trie
  | .leaf => .leaf
  | .node v l r => .node (v.bind f) (l.mapO f) (r.mapO f)
def Trie.or : Trie → Trie → Trie
  | .leaf, t => t
  | t, .leaf => t
  | .node v l r, .node v' l' r' => .node (match v with | some x => some x | none => v') (l.or l') (r.or r')
theorem Trie.get_mapO (f : Blk → Option Blk) : ∀ (t : Trie) (i : Nat), (t.mapO f).get i = (t.get i).bind f
  | .leaf, i => by rw [show Trie.leaf.mapO f = Trie.leaf from rfl, Trie.get_leaf]; rfl
  | .node v l r, i => by
    rw [Trie.get_eq, Trie.get_eq (.node v l r)]
    cases i with
    | zero => rfl
    | succ k =>
      simp only [Trie.mapO, Trie.left, Trie.right]
      split
      · exact Trie.get_mapO f l _
      · exact Trie.get_mapO f r _
theorem Trie.get_or : ∀ (a b : Trie) (i : Nat), (a.or b).get i = match a.get i with | some x => some x | none => b.get i
  | .leaf, t, i => by simp [Trie.or, Trie.get_leaf]
  | .node v l r, .leaf, i => by
    simp only [Trie.or, Trie.get_leaf]
    cases (Trie.node v l r).get i <;> rfl
  | .node v l r, .node v' l' r', i => by
    rw [Trie.get_eq, Trie.get_eq (.node v l r), Trie.get_eq (.node v' l' r')]
    cases i with
    | zero => rfl
    | succ k =>
      simp only [Trie.or, Trie.left, Trie.right]
      split
      · exact Trie.get_or l l' _
      · exact Trie.get_or r r' _

/-- Of the blocks that are there those that 'ok' names are as they were. -/
def Keeps (ok : Nat → Prop) (W W' : World) : Prop := W.heap.size ≤ W'.heap.size ∧ ∀ b, b < W.heap.size → ok b → W'.heap[b]? = W.heap[b]?
theorem Keeps.below {ok : Nat → Prop} {W W' : World} (h : Below W.heap.size W W') : Keeps ok W W' := ⟨h.size, fun b hb _ => h.block b hb⟩
theorem Keeps.refl (ok : Nat → Prop) (W : World) : Keeps ok W W := ⟨Nat.le_refl _, fun _ _ _ => rfl⟩
theorem Keeps.trans {ok : Nat → Prop} {W W' W'' : World} (h : Keeps ok W W') (k : Keeps ok W' W'') : Keeps ok W W'' :=
  ⟨Nat.le_trans h.1 k.1, fun b hb ho => (k.2 b (Nat.lt_of_lt_of_le hb h.1) ho).trans (h.2 b hb ho)⟩
theorem Keeps.drew {ok : Nat → Prop} {W W' : World} (h : Keeps ok W W') : Keeps ok W W'.drew := h
theorem Keeps.less {ok ok' : Nat → Prop} {W W' : World} (h : Keeps ok W W') (hl : ∀ b, b < W.heap.size → ok' b → ok b) : Keeps ok' W W' := ⟨h.1, fun b hb ho => h.2 b hb (hl b hb ho)⟩
theorem Keeps.cell {ok : Nat → Prop} {W W' : World} (h : Keeps ok W W') {b : Nat} (hb : b < W.heap.size) (ho : ok b) (o : Nat) : W'.cell? ⟨b, o, none⟩ = W.cell? ⟨b, o, none⟩ :=
  World.cell?_of_block (a := ⟨b, o, none⟩) (h.2 b hb ho)

/-- The memory 't', its blocks numbered from lo up to hi, lies in the world, in blocks that 'ok' names; v' is what v is there. -/
def Holds (P : Program) (ok : Nat → Prop) (t : Trie) (lo hi : Nat) (v : Value) (W : World) (v' : Value) : Prop :=
  ∃ ι : Inj, (∀ i b, t.get i = some b → lo ≤ i ∧ i < hi ∧ b.rw = false ∧ ∃ p, ι i = some p ∧ ok p.block ∧ BRel P ι p 0 W b) ∧
    (∀ i p, ι i = some p → (i < P.globals.size ∧ p = ⟨i, 0, 0, 0⟩) ∨ (lo ≤ i ∧ i < hi)) ∧ VRel ι v v'
theorem Holds.mono {ok : Nat → Prop} {t : Trie} {lo hi : Nat} {v v' : Value} {W W' : World} (h : Holds P ok t lo hi v W v') (hb : Keeps ok W W') : Holds P ok t lo hi v W' v' := by
  obtain ⟨ι, h1, h2, h3⟩ := h
  refine ⟨ι, fun i b e => ?_, h2, h3⟩
  obtain ⟨a, c, d, p, hp, ho, r⟩ := h1 i b e
  exact ⟨a, c, d, p, hp, ho, r.heap (hb.2 _ r.lt ho)⟩
theorem Holds.weaken {ok ok' : Nat → Prop} {t : Trie} {lo hi : Nat} {v v' : Value} {W : World} (h : Holds P ok t lo hi v W v') (hl : ∀ b, b < W.heap.size → ok b → ok' b) : Holds P ok' t lo hi v W v' := by
  obtain ⟨ι, h1, h2, h3⟩ := h
  refine ⟨ι, fun i b e => ?_, h2, h3⟩
  obtain ⟨a, c, d, p, hp, ho, r⟩ := h1 i b e
  exact ⟨a, c, d, p, hp, hl _ r.lt ho, r⟩
theorem BRel.anyB {ι : Inj} {p : Pl} {B B' : Nat} {w : World} {b : Blk} (hb : b.rw = false) (h : BRel P ι p B w b) : BRel P ι p B' w b := by
  cases b with
  | cells vs t loose ro =>
    obtain ⟨c, lo, hi, h1, h2, h3, h4, h5, h6⟩ := h
    refine ⟨c, lo, hi, h1, h2, h3, h4, fun hr => ?_, h6⟩
    simp [Blk.rw] at hb; rw [hb] at hr; cases hr
  | map es => simp [Blk.rw] at hb
  | iter s pos => simp [Blk.rw] at hb
theorem BRel.toStill {ι : Inj} {p : Pl} {B B' : Nat} {w : World} {b b' : Blk} (hb : b.still = some b') (h : BRel P ι p B w b) : BRel P ι p B' w b' := by
  cases b with
  | cells vs t loose ro =>
    cases ro <;> cases hb
    obtain ⟨c, lo, hi, h1, h2, h3, h4, h5, h6⟩ := h
    exact ⟨c, lo, hi, h1, h2, h3, h4, (fun hr => by cases hr), h6⟩
  | map es => cases hb
  | iter s pos => cases hb

theorem holds_one {t : Trie} {lo hi : Nat} {v v' : Value} {W : World} (hg : P.globals.size ≤ lo) (hh : lo ≤ hi) {ok : Nat → Prop} (h : Holds P ok t lo hi v W v') :
    ∃ ι, Rel P W ⟨t, hi, INF⟩ ι W ∧ VRel ι v v' := by
  obtain ⟨ι, h1, h2, h3⟩ := h
  refine ⟨fun i => if i < P.globals.size then some ⟨i, 0, 0, 0⟩ else ι i, ?_, ?_⟩
  · have hle : ι.le fun i => if i < P.globals.size then some ⟨i, 0, 0, 0⟩ else ι i := fun i p e => by
      rcases h2 i p e with ⟨a, rfl⟩ | ⟨a, b⟩
      · exact if_pos a
      · show (if _ then _ else _) = _
        rw [if_neg (by omega)]; exact e
    exact {
      below := Below.refl _ W
      glob := fun g hg => ⟨⟨g, 0, 0, 0⟩, if_pos hg, rfl, rfl⟩
      blk := fun i b e => by
        obtain ⟨a, c, d, p, hp, _, r⟩ := h1 i b e
        exact ⟨p, hle _ _ hp, (r.mono hle).anyB d⟩
      inj := fun i j bi bj pi pj e hr => by
        obtain ⟨a, c, d, _⟩ := h1 i bi e
        rw [d] at hr; cases hr
      dom := fun i p e => by
        show i < hi
        by_cases hi : i < P.globals.size
        · omega
        · rw [if_neg hi] at e
          rcases h2 i p e with ⟨a, _⟩ | ⟨a, b⟩ <;> omega }
  · refine h3.mono fun i p e => ?_
    rcases h2 i p e with ⟨a, rfl⟩ | ⟨a, b⟩
    · exact if_pos a
    · show (if _ then _ else _) = _
      rw [if_neg (by omega)]; exact e

theorem holds_two {t1 t2 : Trie} {lo1 hi1 lo2 hi2 : Nat} {v1 v1' v2 v2' : Value} {W : World} (hg : P.globals.size ≤ lo1) (h11 : lo1 ≤ hi1) (h12 : hi1 ≤ lo2) (h22 : lo2 ≤ hi2) {ok1 ok2 : Nat → Prop} (k1 : Holds P ok1 t1 lo1 hi1 v1 W v1') (k2 : Holds P ok2 t2 lo2 hi2 v2 W v2') :
    ∃ ι, Rel P W ⟨t1.or t2, hi2, INF⟩ ι W ∧ VRel ι v1 v1' ∧ VRel ι v2 v2' := by
  obtain ⟨ι1, a1, a2, a3⟩ := k1
  obtain ⟨ι2, b1, b2, b3⟩ := k2
  let ι : Inj := fun i => if i < P.globals.size then some ⟨i, 0, 0, 0⟩ else if i < lo2 then ι1 i else ι2 i
  have hle1 : ι1.le ι := fun i p e => by
    show (if _ then _ else _) = _
    rcases a2 i p e with ⟨a, rfl⟩ | ⟨a, b⟩
    · exact if_pos a
    · rw [if_neg (by omega), if_pos (by omega)]; exact e
  have hle2 : ι2.le ι := fun i p e => by
    show (if _ then _ else _) = _
    rcases b2 i p e with ⟨a, rfl⟩ | ⟨a, b⟩
    · exact if_pos a
    · rw [if_neg (by omega), if_neg (by omega)]; exact e
  have hblk : ∀ i b, (t1.or t2).get i = some b → b.rw = false ∧ ∃ p, ι i = some p ∧ BRel P ι p W.heap.size W b := fun i b e => by
    rw [Trie.get_or] at e
    cases h : t1.get i with
    | some x =>
      rw [h] at e; cases e
      obtain ⟨a, c, d, p, hp, _, r⟩ := a1 i b h
      exact ⟨d, p, hle1 _ _ hp, (r.mono hle1).anyB d⟩
    | none =>
      rw [h] at e
      obtain ⟨a, c, d, p, hp, _, r⟩ := b1 i b e
      exact ⟨d, p, hle2 _ _ hp, (r.mono hle2).anyB d⟩
  refine ⟨ι, ?_, a3.mono hle1, b3.mono hle2⟩
  exact {
    below := Below.refl _ W
    glob := fun g hg => ⟨⟨g, 0, 0, 0⟩, if_pos hg, rfl, rfl⟩
    blk := fun i b e => (hblk i b e).2
    inj := fun i j bi bj pi pj e hr => by
      rw [(hblk i bi e).1] at hr; cases hr
    dom := fun i p e => by
      show i < hi2
      have e' : (if i < P.globals.size then some ⟨i, 0, 0, 0⟩ else if i < lo2 then ι1 i else ι2 i) = some p := e
      by_cases h0 : i < P.globals.size
      · omega
      · rw [if_neg h0] at e'
        by_cases h1 : i < lo2
        · omega
        · rw [if_neg h1] at e'
          rcases b2 i p e' with ⟨a, _⟩ | ⟨a, b⟩ <;> omega }

/-- The blank world whose new blocks are numbered from 'lo' on. -/
def blankAt (lo : Nat) : AW := ⟨.leaf, lo, INF⟩
theorem blankAt_rel (w : World) (lo : Nat) (hg : P.globals.size ≤ lo) : Rel P w (blankAt lo) (blankInj P) w where
  below := Below.refl _ w
  glob := fun g hg => ⟨⟨g, 0, 0, 0⟩, by unfold blankInj; rw [if_pos hg], rfl, rfl⟩
  blk := fun i b e => by cases e
  inj := fun i j b b' p p' e => by cases e
  dom := fun i p e => by
    show i < lo
    unfold blankInj at e; split at e
    · omega
    · cases e
def noneBelow (t : Trie) : Nat → Bool
  | 0 => true
  | n + 1 => match t.get n with
    | none => noneBelow t n
    | some _ => false
theorem noneBelow_spec {t : Trie} : ∀ {n : Nat}, noneBelow t n = true → ∀ i, i < n → t.get i = none
  | 0, _, i, h => by omega
  | n + 1, e, i, h => by
    unfold noneBelow at e
    split at e
    · rename_i h0
      by_cases hi : i = n
      · subst hi; exact h0
      · exact noneBelow_spec e i (by omega)
    · cases e
/-- What a run has made, as a picture. -/
def picT (x : Out) : Trie := match x with
  | some (_, some σ) => σ.mem.mapO Blk.still
  | _ => .leaf
def picV (x : Out) : Value := match x with
  | some (v, _) => v
  | none => undef
/-- It is one, between these numbers. -/
def picOk (x : Out) (lo hi : Nat) : Bool := match x with
  | some (_, some σ) => noneBelow σ.mem lo && Nat.ble σ.next hi
  | some (_, none) => true
  | none => false
theorem pic_calls (hN : progOk P = true) (hM : P.follows .mixedOrders = true) (n d : Nat) (f : FuncId) (args : List Value) (lo hi : Nat) (x : Out) (hlo : P.globals.size ≤ lo) (hlh : lo ≤ hi) (hg : args.all gr = true) (e : aCall P noSums (run P noSums n d) f args (blankAt lo) = x) (ok : picOk x lo hi = true) (w : World) :
    Calls P f args.toArray w fun e w' => ∃ v', e = .returned v' ∧ Holds P (w.heap.size ≤ ·) (picT x) lo hi (picV x) w' v' ∧ Below w.heap.size w w' := by
  have ha : LRel (blankInj P) args args := ⟨rfl, fun i x x' p q => by
    rw [p] at q; cases q
    exact gr_refl _ (List.all_eq_true.1 hg x (List.mem_of_getElem? p))⟩
  match x, e, ok with
  | some (v, u), e, ok =>
  refine (ai_calls (progOk_spec hN) hM noSums_sound n d e (blankAt_rel w lo hlo) ha).mono fun en w' hp => ?_
  obtain ⟨v', ι', rfl, hs, hr⟩ := hp
  refine ⟨v', rfl, ⟨ι', ?_, ?_, hr⟩, hs.rel.below⟩
  · intro i b e
    cases u with
    | none => cases e
    | some σ =>
      simp only [picOk, Bool.and_eq_true] at ok
      simp only [picT, Trie.get_mapO] at e
      cases hb : σ.mem.get i with
      | none => rw [hb] at e; cases e
      | some b0 =>
        rw [hb] at e
        have e' : b0.still = some b := e
        obtain ⟨p, hp, r⟩ := hs.rel.blk i b0 hb
        have hd := hs.rel.dom i p hp
        have hn := Nat.le_of_ble_eq_true ok.2
        have hro : b0.rw = true ∧ b.rw = false := by
          cases b0 with
          | cells vs t loose ro => cases ro <;> cases e'; exact ⟨rfl, rfl⟩
          | map es => cases e'
          | iter s pos => cases e'
        refine ⟨?_, ?_, hro.2, p, hp, r.base hro.1, r.toStill e'⟩
        · rcases Nat.lt_or_ge i lo with h | h
          · rw [noneBelow_spec ok.1 i h] at hb; cases hb
          · exact h
        · exact Nat.lt_of_lt_of_le hd hn
  · intro i p e
    by_cases hi : i < lo
    · have := hs.same i hi
      rw [this] at e
      unfold blankInj at e
      split at e
      · cases e; exact .inl ⟨by assumption, rfl⟩
      · cases e
    · refine .inr ⟨by omega, ?_⟩
      have hd := hs.rel.dom i p e
      cases u with
      | none => exact Nat.lt_of_lt_of_le hd hlh
      | some σ =>
        simp only [picOk, Bool.and_eq_true] at ok
        exact Nat.lt_of_lt_of_le hd (Nat.le_of_ble_eq_true ok.2)
end Go.Ai
namespace Go.Ai
open Go.RowKit
variable {P : Program}
/-- A call handed one picture; its result names no block. -/
theorem pic_one (hN : progOk P = true) (hM : P.follows .mixedOrders = true) (n d : Nat) (f : FuncId) {t : Trie} {lo hi : Nat} {v v' r : Value} {W : World} (hg : P.globals.size ≤ lo) (hh : lo ≤ hi) {ok : Nat → Prop} (h : Holds P ok t lo hi v W v')
    (e : aCall P noSums (run P noSums n d) f [v] ⟨t, hi, INF⟩ = some (r, none)) (hr : gr r = true) : Calls P f #[v'] W fun e w' => e = .returned r ∧ Below W.heap.size W w' := by
  obtain ⟨ι, hR, hv⟩ := holds_one hg hh h
  refine (ai_calls (progOk_spec hN) hM noSums_sound n d (args' := [v']) e hR (LRel.cons hv (LRel.nil ι))).mono fun en w' hp => ?_
  obtain ⟨v', ι', rfl, hs, hx⟩ := hp
  rw [gr_eq hx hr]
  exact ⟨rfl, hs.rel.below⟩
/-- A call handed two. -/
theorem pic_two (hN : progOk P = true) (hM : P.follows .mixedOrders = true) (n d : Nat) (f : FuncId) {t1 t2 : Trie} {lo1 hi1 lo2 hi2 : Nat} {v1 v1' v2 v2' r : Value} {W : World} (hg : P.globals.size ≤ lo1) (h11 : lo1 ≤ hi1) (h12 : hi1 ≤ lo2) (h22 : lo2 ≤ hi2)
    {ok1 ok2 : Nat → Prop} (k1 : Holds P ok1 t1 lo1 hi1 v1 W v1') (k2 : Holds P ok2 t2 lo2 hi2 v2 W v2') (e : aCall P noSums (run P noSums n d) f [v1, v2] ⟨t1.or t2, hi2, INF⟩ = some (r, none)) (hr : gr r = true) :
    Calls P f #[v1', v2'] W fun e w' => e = .returned r ∧ Below W.heap.size W w' := by
  obtain ⟨ι, hR, hv1, hv2⟩ := holds_two hg h11 h12 h22 k1 k2
  refine (ai_calls (progOk_spec hN) hM noSums_sound n d (args' := [v1', v2']) e hR (LRel.cons hv1 (LRel.cons hv2 (LRel.nil ι)))).mono fun en w' hp => ?_
  obtain ⟨v', ι', rfl, hs, hx⟩ := hp
  rw [gr_eq hx hr]
  exact ⟨rfl, hs.rel.below⟩
end Go.Ai
