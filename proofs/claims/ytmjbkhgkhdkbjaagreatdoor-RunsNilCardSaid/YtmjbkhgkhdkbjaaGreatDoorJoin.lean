/- A function that ranges over two iterators, one within the other, each of which yields one number (joins of the automata's maker): a summary for the interpreter. Conditions: none but what each theorem names. -/
import Derived.Test.YtmjbkhgkhdkbjaaGreatDoorIn3
import Derived.RangeFuncNested
import Derived.RangeFuncLeaves
set_option linter.unusedVariables false
set_option linter.unusedSimpArgs false
namespace Go.Ai
open Go.RowKit
variable {P : Program} {w0 : World} {σ σ' : AW} {ι ι' : Inj} {w W W' : World} {self : Self}

def isCellsB : Blk → Bool
  | .cells .. => true
  | _ => false
/-- The blocks from a number on, so many, are cells. -/
def allCells (σ : AW) (lo : Nat) : Nat → Bool
  | 0 => true
  | n + 1 => match allCells σ lo n, σ.get (lo + n) with
    | true, none => true
    | true, some b => isCellsB b
    | false, _ => false
theorem allCells_spec {σ : AW} {lo : Nat} : ∀ {n : Nat}, allCells σ lo n = true → ∀ i b, lo ≤ i → i < lo + n → σ.get i = some b → isCellsB b = true
  | 0, _, i, b, h1, h2, _ => by omega
  | n + 1, h, i, b, h1, h2, e => by
    unfold allCells at h
    split at h
    · rename_i h3 h4
      by_cases hi : i = lo + n
      · subst hi; rw [h4] at e; cases e
      · exact allCells_spec h3 i b h1 (by omega) e
    · rename_i b' h3 h4
      by_cases hi : i = lo + n
      · subst hi; rw [h4] at e; cases e; exact h
      · exact allCells_spec h3 i b h1 (by omega) e
    · cases h
/-- New blocks are cells. -/
def newCellsB (σ σ' : AW) : Bool := allCells σ' σ.next (σ'.next - σ.next)
/-- What is no cells lies ahead of B. -/
def NoMaps (σ : AW) (ι : Inj) (B : Nat) : Prop := ∀ i b p, σ.get i = some b → ι i = some p → isCellsB b = true ∨ p.block < B
theorem noMaps_of (h : Rel P w0 σ ι w) (hs : Step P w0 σ ι w σ' ι' W) (hn : newCellsB σ σ' = true) : NoMaps σ' ι' w.heap.size := by
  intro i b p hg hp
  cases hb : isCellsB b with
  | true => exact .inl rfl
  | false =>
    have hrw : b.rw = true := by cases b <;> first | rfl | (simp [isCellsB] at hb)
    rcases hs.fresh i b p hg hrw hp with ⟨hi, blk0, h0, h1⟩ | ⟨hi, _⟩
    · obtain ⟨p0, hp0, hr⟩ := h.blk i blk0 h0
      have : ι' i = ι i := hs.same i hi
      rw [this, hp0] at hp
      cases hp
      exact .inr hr.lt
    · have hlt := hs.rel.lt hg
      have := allCells_spec hn i b hi (by omega) hg
      rw [hb] at this; cases this
theorem BRel.isCells {p : Pl} {B : Nat} {b : Blk} (h : BRel P ι p B W b) (hb : isCellsB b = true) : ∃ o : Obj, W.heap[p.block]? = some o ∧ o.isCells = true := by
  cases b with
  | cells vs t loose ro => obtain ⟨c, lo, hi, h1, _⟩ := h; exact ⟨_, h1, rfl⟩
  | map es => simp [isCellsB] at hb
  | iter s pos => simp [isCellsB] at hb
/-- Such worlds abide the turn of a new block that is no cells. -/
theorem Step.turned {B : Nat} (hs : Step P w0 σ ι w σ' ι' W) (hn : NoMaps σ' ι' B) (hB : w.heap.size ≤ B) (h0 : w0.heap.size ≤ w.heap.size) {row : Option Nat} (hg : W.grownBy W' row) (hr : ∀ r, row = some r → B ≤ r ∧ ∃ o : Obj, W.heap[r]? = some o ∧ o.isCells = false) : Step P w0 σ ι w σ' ι' W' := by
  have hne : ∀ i b p, σ'.get i = some b → ι' i = some p → some p.block ≠ row := fun i b p hi hp e => by
    obtain ⟨hBr, o, ho, hc⟩ := hr p.block e.symm
    rcases hn i b p hi hp with h | h
    · obtain ⟨p', hp', r⟩ := hs.rel.blk i b hi
      rw [hp] at hp'; cases hp'
      obtain ⟨o', ho', hc'⟩ := r.isCells h
      rw [ho] at ho'; cases ho'; rw [hc] at hc'; cases hc'
    · omega
  have hbl : ∀ k, k < B → some k ≠ row := fun k hk e => by have := (hr k e.symm).1; omega
  exact {
    rel := {
      below := ⟨hg.os.trans hs.rel.below.os, hg.tape.trans hs.rel.below.tape, hg.output.trans hs.rel.below.output, Nat.le_trans hs.rel.below.size hg.size, fun b hb => (hg.block b (Nat.lt_of_lt_of_le hb hs.rel.below.size) (hbl b (by omega))).trans (hs.rel.below.block b hb)⟩
      glob := hs.rel.glob
      blk := fun i b e => by
        obtain ⟨p, hp, r⟩ := hs.rel.blk i b e
        exact ⟨p, hp, r.heap (hg.block _ r.lt (hne i b p e hp))⟩
      inj := hs.rel.inj
      dom := hs.rel.dom }
    le := hs.le
    same := hs.same
    next := hs.next
    mw := hs.mw
    size := Nat.le_trans hs.size hg.size
    keep := fun b hb H => (hg.block b (Nat.lt_of_lt_of_le hb hs.size) (hbl b (by omega))).trans (hs.keep b hb H)
    fresh := hs.fresh
    unch := hs.unch }
theorem below_turned {B n₀ : Nat} (h : Below n₀ w W) (hn : n₀ ≤ w.heap.size) (hB : n₀ ≤ B) {row : Option Nat} (hg : W.grownBy W' row) (hr : ∀ r, row = some r → B ≤ r) : Below n₀ w W' :=
  h.grown hg (Nat.le_trans hn h.size) (fun k e => Nat.le_trans hB (hr k e))
/-- What is no cells and new lies as it lay. -/
theorem keepsFrom_of {B : Nat} (h : Rel P w0 σ ι W) (hs : Step P w0 σ ι W σ' ι' W') (hn : NoMaps σ ι B) : KeepsFrom B W W' := by
  refine ⟨hs.size, fun k o hk ho hc => ?_⟩
  refine (hs.keep k (Array.getElem?_eq_some_iff.1 ho).1 fun i b p hi _ hp e => ?_).trans ho
  rcases hn i b p hi hp with h1 | h1
  · obtain ⟨p', hp', r⟩ := h.blk i b hi
    rw [hp] at hp'; cases hp'
    obtain ⟨o', ho', hc'⟩ := r.isCells h1
    rw [e, ho] at ho'; cases ho'; rw [hc] at hc'; cases hc'
  · omega
/-- Which bit alone is set. -/
def bitOf : Int → Option Nat
  | .ofNat n => (List.range 32).find? fun p => Nat.beq n (2 ^ p)
  | _ => none
theorem bitOf_spec {s : Int} {p : Nat} (h : bitOf s = some p) : s = ((2 ^ p : Nat) : Int) ∧ p < 32 := by
  unfold bitOf at h
  split at h
  · rename_i n
    have h1 := List.find?_some h
    have h2 := List.mem_of_find?_eq_some h
    exact ⟨by rw [beq_eq h1]; rfl, by simpa using h2⟩
  · cases h
def bitAt (σ : AW) (bx : Nat) : Option Nat := match σ.get bx with
  | some (.cells [.int .u32 s] _ false _) => bitOf s
  | _ => none
theorem bitAt_spec {bx q : Nat} {p : Pl} (h : Rel P w0 σ ι w) (e : bitAt σ bx = some q) (hp : ι bx = some p) : w.cell? ⟨p.block, 0, none⟩ = some (.int .u32 ((2 ^ q : Nat) : Int)) ∧ q < 32 ∧ p.d = 0 ∧ p.block < w.heap.size := by
  unfold bitAt at e
  split at e <;> try contradiction
  rename_i s t ro hg
  obtain ⟨hs, hq⟩ := bitOf_spec e
  subst hs
  obtain ⟨p', hp', r⟩ := h.blk bx _ hg
  rw [hp] at hp'; cases hp'
  have hlt := r.lt
  obtain ⟨c, lo, hi, h1, _, h3, _, _, h6⟩ := r
  obtain ⟨x', hx', hr⟩ := h3 0 _ rfl
  have hd := h6 rfl
  cases hr
  refine ⟨?_, hq, hd, hlt⟩
  unfold World.cell?
  rw [h1]
  simpa [hd] using hx'
def bitIs (σ : AW) (bx q : Nat) : Bool := match bitAt σ bx with
  | some p => Nat.beq p q
  | none => false
theorem bitIs_spec {bx q : Nat} (h : bitIs σ bx q = true) : bitAt σ bx = some q := by
  unfold bitIs at h
  split at h
  · rename_i p hp; rw [hp, beq_eq h]
  · cases h
/-- The iterator that a temporary holds: its box, and the one number that it yields. -/
def genAt (gf : FuncId) (σ : AW) (v : Value) : Option (Nat × Nat) :=
  match v with
  | .func (.func g) f c => match Nat.beq g gf, f.toList, c.toList with
    | true, [], [.pointer (some ⟨bx, 0, none⟩)] => match bitAt σ bx with
      | some q => some (bx, q)
      | none => none
    | _, _, _ => none
  | _ => none
theorem genAt_spec {gf : FuncId} {v v' : Value} {bx q : Nat} (h : Rel P w0 σ ι w) (e : genAt gf σ v = some (bx, q)) (hv : VRel ι v v') :
    bitAt σ bx = some q ∧ ∃ p, ι bx = some p ∧ p.d = 0 ∧ v' = .func (.func gf) #[] #[.pointer (some ⟨p.block, 0, none⟩)] := by
  unfold genAt at e
  split at e <;> try contradiction
  rename_i g f c
  split at e <;> try contradiction
  rename_i bx' hg hf hc
  split at e <;> try contradiction
  rename_i q' hq
  cases e
  have hg := beq_eq hg
  subst hg
  refine ⟨hq, ?_⟩
  cases hv with
  | func _ _ f' _ c' hy hs1 hs2 r1 r2 =>
  have hf' : f' = #[] := by
    apply Array.eq_empty_of_size_eq_zero
    rw [← hs1, ← Array.length_toList, hf]; rfl
  have hc1 : c.size = 1 := by rw [← Array.length_toList, hc]; rfl
  have h0 : c[0]? = some (.pointer (some ⟨bx, 0, none⟩)) := by rw [← Array.getElem?_toList, hc]; rfl
  have hlt : 0 < c'.size := by omega
  have h0' : c'[0]? = some c'[0] := Array.getElem?_eq_getElem hlt
  have hr := r2 0 _ _ h0 h0'
  have hce : c' = #[c'[0]] := by
    apply Array.ext
    · simp; omega
    · intro i h1 h2
      have : i = 0 := by simp at h2; omega
      subst this; simp
  subst hf'
  generalize c'[0] = x at hr hce
  cases hr with
  | ptr a o p' hp' =>
    have hd := (bitAt_spec h hq hp').2.2.1
    exact ⟨p', hp', hd, by rw [hce, hd]⟩
/-- The iterator's contract: at a box that holds one bit it yields that bit's number. -/
def YieldsBit (P : Program) (gf : FuncId) : Prop := ∀ (k : Nat), 1 ≤ k → ∀ (b q : Nat), q < 32 → ∀ w : World, b < w.heap.size → w.cell? ⟨b, 0, none⟩ = some (.int .u32 ((2 ^ q : Nat) : Int)) →
  SeqStopsK Fence.wide k P gf #[.pointer (some ⟨b, 0, none⟩)] (fun _ : Unit => #[Value.int .i64 q]) (fun A B => B.cell? ⟨b, 0, none⟩ = A.cell? ⟨b, 0, none⟩) (fun ys => ys = [()]) (fun _ => True) 1 w

/-- The parts of such a function. -/
structure JP where
  gf : FuncId
  c0 : Code
  c1 : Code
  t1 : Tmp
  p1 : Tmp
  as1 : Code
  c3 : Code
  t2 : Tmp
  p2 : Tmp
  as2 : Code
  body : Code
  b0 : Nat
  b1 : Nat
  b2 : Nat
def JP.code (J : JP) : Code := J.c0.seq (J.c1.seq (.block J.b0 (.rangeFunc (.tmp J.t1) #[J.p1] J.as1 (.block J.b1 (J.c3.seq (.block J.b2 (.rangeFunc (.tmp J.t2) #[J.p2] J.as2 J.body)))))))
def JP.ok (J : JP) : Bool := (codeOk J.c0 && codeNd J.c0) && ((codeOk J.c1 && codeNd J.c1) && ((codeOk J.as1 && codeNd J.as1) && ((codeOk J.c3 && codeNd J.c3) && ((codeOk J.as2 && codeNd J.as2) && (codeOk J.body && codeNd J.body)))))
/-- A range over an iterator that yields one number: 'inner' is the body's run. -/
def rangeRun (self : Self) (inner : List Value → AW → Option AW) (gf : FuncId) (t p : Tmp) (as : Code) (fr : List Value) (σ : AW) : Option AW :=
  match genAt gf σ (fr.getD t undef) with
  | some (bx, q) => match self as (fr.set p (.int .i64 q)) { σ with mw := INF } with
    | some (.normal, fr4, σ4) => match (Nat.ble σ.next σ4.mw && newCellsB σ σ4) && bitIs σ4 bx q with
      | true => match inner fr4 σ4 with
        | some σ5 => match newCellsB σ σ5 && bitIs σ5 bx q with
          | true => match self as (fr.set p (.int .i64 q)) { σ5 with mw := INF } with
            | some (.normal, _, σ6) => match Nat.ble σ5.next σ6.mw with
              | true => some { σ5 with mw := min σ.mw σ5.mw }
              | false => none
            | _ => none
          | false => none
        | none => none
      | false => none
    | _ => none
  | none => none
def JP.inner (J : JP) (self : Self) (fr : List Value) (σ : AW) : Option AW := match self J.body fr σ with
  | some (.normal, _, σ') => some σ'
  | _ => none
def JP.outer (J : JP) (self : Self) (fr : List Value) (σ : AW) : Option AW := match self J.c3 fr σ with
  | some (.normal, fr', σ') => rangeRun self (J.inner self) J.gf J.t2 J.p2 J.as2 fr' σ'
  | _ => none
noncomputable def JP.sum (J : JP) (P : Program) (sums : Sums) (n d ntmps : Nat) (args : List Value) (σ : AW) : Out :=
  match run P sums n d J.c0 (args ++ List.replicate (ntmps - args.length) undef) { σ with mw := INF } with
  | some (.normal, fr, σ1) => match run P sums n d J.c1 fr σ1 with
    | some (.normal, fr, σ2) => match rangeRun (run P sums n d) (J.outer (run P sums n d)) J.gf J.t1 J.p1 J.as1 fr σ2 with
      | some σ' => match newCellsB σ σ' with
        | true => some (.tuple #[], some { σ' with mw := min σ.mw σ'.mw })
        | false => none
      | none => none
    | _ => none
  | _ => none
set_option maxHeartbeats 1000000 in
theorem rangeRun_outer (hin : SelfSoundIn P w0 self) {gf : FuncId} (hY : YieldsBit P gf) (hent : ∀ args w, (callFunc gf args).run P w = .ok (.enter gf args) w) {inner : List Value → AW → Option AW} {as body : Code} (hasok : codeOk as = true ∧ codeNd as = true)
    {a : Act} {t p : Tmp} {fr : List Value} (e : rangeRun self inner gf t p as fr σ = some σ') (h : Rel P w0 σ ι w) (hfr : LRel ι fr a.tmps.toList) (hd : a.defers = [])
    (hbody : ∀ (l : Nat) (fr : List Value) (σ σ' : AW), inner fr σ = some σ' → ∀ ι W (a : Act), Rel P w0 σ ι W → NoMaps σ ι w.heap.size → w.heap.size ≤ l → (∃ r, W.heap[l]? = some (.loop r)) → LRel ι fr a.tmps.toList → a.defers = [] → body.wpIn (wideR (some l)) 18 P (fun e _ W' => e = .normal ∧ ∃ ι', Step P w0 σ ι W σ' ι' W') a W)
    {Q : Exit → Act → World → Prop} (hQ : ∀ D W ι', w.heap.size ≤ D → Step P w0 σ ι w σ' ι' W → NoMaps σ' ι' w.heap.size → W.heap[D]? = some (.deferred (some [])) → Q .normal { a with defers := { target := .collected D, args := #[] } :: a.defers } W) :
    (Code.rangeFunc (.tmp t) #[p] as body).wpIn Fence.wide 20 P Q a w := by
  unfold rangeRun at e
  split at e <;> try contradiction
  rename_i bx q hgen
  split at e <;> try contradiction
  rename_i fr4 σ4 has
  split at e <;> try contradiction
  rename_i hchk
  split at e <;> try contradiction
  rename_i σ5 hinn
  split at e <;> try contradiction
  rename_i hchk2
  split at e <;> try contradiction
  rename_i fr6 σ6 has6
  split at e <;> try contradiction
  rename_i hclean6
  cases e
  simp only [Bool.and_eq_true] at hchk hchk2
  obtain ⟨⟨hclean, hnew4⟩, hb4⟩ := hchk
  obtain ⟨hnew5, hb5⟩ := hchk2
  obtain ⟨hbit, pl, hpl, hpd, hv'⟩ := genAt_spec h hgen (hfr.getD t)
  obtain ⟨hcell, hq, _, hlt⟩ := bitAt_spec h hbit hpl
  have hINF := h.withMw INF
  have hg : a.eval (.tmp t) = .func (.func gf) #[] #[.pointer (some ⟨pl.block, 0, none⟩)] := by
    rw [← hv']
    rw [eval_getD]
  have hset : ∀ {ι2 : Inj}, ι.le ι2 → LRel ι2 (fr.set p (.int .i64 q)) (a.tmps.setIfInBounds p (.int .i64 q)).toList := fun hle => by
    rw [Array.toList_setIfInBounds]
    exact (hfr.mono hle).set p (.int _ _)
  have hfold : ((#[p] : Array Tmp).zip (#[Value.int .i64 q])).foldl (fun t (p, v) => t.setIfInBounds p v) a.tmps = a.tmps.setIfInBounds p (.int .i64 q) := by simp
  refine wpIn_rangeFunc_ownH (w0 := w) rfl (by omega) (gf := gf) hg trivial hent (hY 19 (by omega) pl.block q hq w hlt hcell) (fun h k => k.trans h) (fun W l o o' hl ho hc _ => World.cell?_of_block (a := ⟨pl.block, 0, none⟩) (World.putObj_heap_other (show pl.block ≠ l by omega))) (Below.refl _ _) (fun _ => rfl)
    (fun pre W => (pre = [] → Below w.heap.size w W) ∧ (pre ≠ [] → ∃ ι', Step P w0 { σ with mw := INF } ι w σ5 ι' W))
    (fun _ _ _ => False)
    (fun s A B row hs hg hr => ⟨fun e => below_turned (hs.1 e) (Nat.le_refl _) (Nat.le_refl _) hg (fun r e => (hr r e).1), fun e => let ⟨ι', st⟩ := hs.2 e; ⟨ι', st.turned (noMaps_of hINF st hnew5) (Nat.le_refl _) h.below.size hg hr⟩⟩)
    (fun _ _ _ _ _ hs _ _ => hs.elim)
    ⟨fun _ => Below.refl _ _, fun h => (h rfl).elim⟩
    (fun _ a' W => w.heap.size ≤ W.heap.size ∧ (Below w.heap.size w W → ∃ ι4, Step P w0 { σ with mw := INF } ι w σ4 ι4 W ∧ LRel ι4 fr4 a'.tmps.toList ∧ a'.defers = []))
    (fun _ a' s A B row hs hg hr => ⟨Nat.le_trans hs.1 hg.size, fun hb => by
      have hbA : Below w.heap.size w A := ⟨hg.os.symm.trans hb.os, hg.tape.symm.trans hb.tape, hg.output.symm.trans hb.output, hs.1, fun b hlb => (hg.block b (Nat.lt_of_lt_of_le hlb hs.1) (fun e => by have := (hr b e.symm).1; omega)).symm.trans (hb.block b hlb)⟩
      obtain ⟨ι4, h4, h5, h6⟩ := hs.2 hbA
      exact ⟨ι4, h4.turned (noMaps_of hINF h4 hnew4) (Nat.le_refl _) h.below.size hg hr, h5, h6⟩⟩)
    ?assign ?body ?done ?stop
  case assign =>
    rintro l pre x W K hi hK
    rw [hfold]
    by_cases hW : Below w.heap.size w W
    · have hst : Step P w0 { σ with mw := INF } ι w { σ with mw := INF } ι W := Step.grow hINF hW
      refine wpIn_mono (hin (some l) _ as hasok.1 hasok.2 _ _ _ _ _ has ι W { tmps := a.tmps.setIfInBounds p (.int .i64 q), defers := [] } hst.rel (hset (Inj.le.refl ι)) rfl) fun e a' W' hp => ?_
      obtain ⟨rfl, hd', ι4, hs4, hfr4⟩ := hp
      have hB := Step.clean hs4 hst.rel (ble_le hclean)
      refine hK a' W' (keepsFrom_of hst.rel hs4 (fun i b p' hi hp' => .inr ?_)) (hB.cell (p := ⟨pl.block, 0, none⟩) (Nat.lt_of_lt_of_le hlt hst.size)) ⟨fun e => (hi.1 e).trans (hB.mono hst.size), fun e => let ⟨ι', st⟩ := hi.2 e; ⟨ι', st.trans hINF (Step.grow st.rel hB)⟩⟩ ⟨Nat.le_trans hst.size hs4.size, fun _ => ⟨ι4, hst.trans hINF hs4, hfr4, hd'⟩⟩
      obtain ⟨q', hq', r'⟩ := h.blk i b hi
      rw [show ι i = some q' from hq'] at hp'; cases hp'
      exact r'.lt
    · have hne : pre ≠ [] := fun e => hW (hi.1 e)
      obtain ⟨ι5, st⟩ := hi.2 hne
      refine wpIn_mono (hin (some l) _ as hasok.1 hasok.2 _ _ _ _ _ has6 ι5 W { tmps := a.tmps.setIfInBounds p (.int .i64 q), defers := [] } (st.rel.withMw INF) (hset st.le) rfl) fun e a' W' hp => ?_
      obtain ⟨rfl, hd', ι6, hs6, hfr6⟩ := hp
      have hB := Step.clean hs6 (st.rel.withMw INF) (ble_le hclean6)
      refine hK a' W' (keepsFrom_of (st.rel.withMw INF) hs6 (show NoMaps σ5 ι5 w.heap.size from noMaps_of hINF st hnew5)) (hB.cell (p := ⟨pl.block, 0, none⟩) (Nat.lt_of_lt_of_le hlt st.size)) ⟨fun e => (hne e).elim, fun _ => ⟨ι5, st.trans hINF (Step.grow st.rel hB)⟩⟩ ⟨Nat.le_trans st.size hs6.size, fun hbw => (hW ?_).elim⟩
      exact ⟨hB.os.symm.trans hbw.os, hB.tape.symm.trans hbw.tape, hB.output.symm.trans hbw.output, st.size, fun b hb => (hB.block b (Nat.lt_of_lt_of_le hb st.size)).symm.trans (hbw.block b hb)⟩
  case body =>
    rintro l pre x a' W hl hr hi hax hlen
    have hpre : pre = [] := by cases pre with | nil => rfl | cons _ _ => simp at hlen
    obtain ⟨ι4, hs4, hfr4, hd4⟩ := hax.2 (hi.1 hpre)
    have hnm := noMaps_of hINF hs4 hnew4
    refine wpIn_mono (hbody l fr4 σ4 σ5 hinn ι4 W a' hs4.rel hnm hl hr hfr4 hd4) fun e a2 W2 hp => ?_
    obtain ⟨rfl, ι5, hs5⟩ := hp
    have hall := hs4.trans hINF hs5
    refine ⟨keepsFrom_of hs4.rel hs5 hnm, ?_, fun e => by simp at e, fun _ => ⟨ι5, hall⟩⟩
    show W2.cell? _ = W.cell? _
    rw [(bitAt_spec hs4.rel (bitIs_spec hb4) (hs4.le _ _ hpl)).1, (bitAt_spec hs5.rel (bitIs_spec hb5) (hall.le _ _ hpl)).1]
  case done =>
    rintro D xs W hD rfl hi hDd
    obtain ⟨ι5, st⟩ := hi.2 (by simp)
    exact hQ D W ι5 hD (Step.ofInner INF st) (show NoMaps σ5 ι5 w.heap.size from noMaps_of hINF st hnew5) hDd
  case stop =>
    rintro D c pre W _ _ h _
    exact h.elim

set_option maxHeartbeats 1000000 in
theorem rangeRun_inner (hin : SelfSoundIn P w0 self) {gf : FuncId} (hY : YieldsBit P gf) (hent : ∀ args w, (callFunc gf args).run P w = .ok (.enter gf args) w) {inner : List Value → AW → Option AW} {as body : Code} (hasok : codeOk as = true ∧ codeNd as = true)
    {a : Act} {t p : Tmp} {fr : List Value} (e : rangeRun self inner gf t p as fr σ = some σ') (h : Rel P w0 σ ι w) (hfr : LRel ι fr a.tmps.toList) (hd : a.defers = [])
    (hbody : ∀ (l : Nat) (fr : List Value) (σ σ' : AW), inner fr σ = some σ' → ∀ ι W (a : Act), Rel P w0 σ ι W → NoMaps σ ι w.heap.size → w.heap.size ≤ l → (∃ r, W.heap[l]? = some (.loop r)) → LRel ι fr a.tmps.toList → a.defers = [] → body.wpIn (wideR (some l)) 16 P (fun e _ W' => e = .normal ∧ ∃ ι', Step P w0 σ ι W σ' ι' W') a W)
    {Q : Exit → Act → World → Prop} (hQ : ∀ W ι', Step P w0 σ ι w σ' ι' W → Q .normal a W) {l₀ : Nat} {r₀ : Loop} (hl₀ : w.heap[l₀]? = some (.loop r₀)) :
    (Code.rangeFunc (.tmp t) #[p] as body).wpIn (wideR (some l₀)) 18 P Q a w := by
  unfold rangeRun at e
  split at e <;> try contradiction
  rename_i bx q hgen
  split at e <;> try contradiction
  rename_i fr4 σ4 has
  split at e <;> try contradiction
  rename_i hchk
  split at e <;> try contradiction
  rename_i σ5 hinn
  split at e <;> try contradiction
  rename_i hchk2
  split at e <;> try contradiction
  rename_i fr6 σ6 has6
  split at e <;> try contradiction
  rename_i hclean6
  cases e
  simp only [Bool.and_eq_true] at hchk hchk2
  obtain ⟨⟨hclean, hnew4⟩, hb4⟩ := hchk
  obtain ⟨hnew5, hb5⟩ := hchk2
  obtain ⟨hbit, pl, hpl, hpd, hv'⟩ := genAt_spec h hgen (hfr.getD t)
  obtain ⟨hcell, hq, _, hlt⟩ := bitAt_spec h hbit hpl
  have hINF := h.withMw INF
  have hg : a.eval (.tmp t) = .func (.func gf) #[] #[.pointer (some ⟨pl.block, 0, none⟩)] := by
    rw [← hv']
    rw [eval_getD]
  have hset : ∀ {ι2 : Inj}, ι.le ι2 → LRel ι2 (fr.set p (.int .i64 q)) (a.tmps.setIfInBounds p (.int .i64 q)).toList := fun hle => by
    rw [Array.toList_setIfInBounds]
    exact (hfr.mono hle).set p (.int _ _)
  have hfold : ((#[p] : Array Tmp).zip (#[Value.int .i64 q])).foldl (fun t (p, v) => t.setIfInBounds p v) a.tmps = a.tmps.setIfInBounds p (.int .i64 q) := by simp
  refine wpIn_rangeFunc_ownN (w0 := w) (l₀ := l₀) (r₀ := r₀) rfl hl₀ (by omega) (gf := gf) hg trivial hent ((hY 17 (by omega) pl.block q hq w hlt hcell).inRound l₀) (fun h k => k.trans h) (fun W l o o' hl ho hc _ => World.cell?_of_block (a := ⟨pl.block, 0, none⟩) (World.putObj_heap_other (show pl.block ≠ l by omega))) (Below.refl _ _) (fun _ => rfl)
    (fun pre W => (pre = [] → Below w.heap.size w W) ∧ (pre ≠ [] → ∃ ι', Step P w0 { σ with mw := INF } ι w σ5 ι' W))
    (fun _ _ _ => False)
    (fun s A B row hs hg hr => ⟨fun e => below_turned (hs.1 e) (Nat.le_refl _) (Nat.le_refl _) hg (fun r e => (hr r e).1), fun e => let ⟨ι', st⟩ := hs.2 e; ⟨ι', st.turned (noMaps_of hINF st hnew5) (Nat.le_refl _) h.below.size hg hr⟩⟩)
    (fun _ _ _ _ _ hs _ _ => hs.elim)
    ⟨fun _ => Below.refl _ _, fun h => (h rfl).elim⟩
    (fun _ a' W => w.heap.size ≤ W.heap.size ∧ (Below w.heap.size w W → ∃ ι4, Step P w0 { σ with mw := INF } ι w σ4 ι4 W ∧ LRel ι4 fr4 a'.tmps.toList ∧ a'.defers = []))
    (fun _ a' s A B row hs hg hr => ⟨Nat.le_trans hs.1 hg.size, fun hb => by
      have hbA : Below w.heap.size w A := ⟨hg.os.symm.trans hb.os, hg.tape.symm.trans hb.tape, hg.output.symm.trans hb.output, hs.1, fun b hlb => (hg.block b (Nat.lt_of_lt_of_le hlb hs.1) (fun e => by have := (hr b e.symm).1; omega)).symm.trans (hb.block b hlb)⟩
      obtain ⟨ι4, h4, h5, h6⟩ := hs.2 hbA
      exact ⟨ι4, h4.turned (noMaps_of hINF h4 hnew4) (Nat.le_refl _) h.below.size hg hr, h5, h6⟩⟩)
    ?assign ?body ?done ?stop
  case assign =>
    rintro l pre x W K hi hK
    rw [hfold]
    by_cases hW : Below w.heap.size w W
    · have hst : Step P w0 { σ with mw := INF } ι w { σ with mw := INF } ι W := Step.grow hINF hW
      refine wpIn_mono (hin (some l) _ as hasok.1 hasok.2 _ _ _ _ _ has ι W { tmps := a.tmps.setIfInBounds p (.int .i64 q), defers := [] } hst.rel (hset (Inj.le.refl ι)) rfl) fun e a' W' hp => ?_
      obtain ⟨rfl, hd', ι4, hs4, hfr4⟩ := hp
      have hB := Step.clean hs4 hst.rel (ble_le hclean)
      refine hK a' W' (keepsFrom_of hst.rel hs4 (fun i b p' hi hp' => .inr ?_)) (hB.cell (p := ⟨pl.block, 0, none⟩) (Nat.lt_of_lt_of_le hlt hst.size)) ⟨fun e => (hi.1 e).trans (hB.mono hst.size), fun e => let ⟨ι', st⟩ := hi.2 e; ⟨ι', st.trans hINF (Step.grow st.rel hB)⟩⟩ ⟨Nat.le_trans hst.size hs4.size, fun _ => ⟨ι4, hst.trans hINF hs4, hfr4, hd'⟩⟩
      obtain ⟨q', hq', r'⟩ := h.blk i b hi
      rw [show ι i = some q' from hq'] at hp'; cases hp'
      exact r'.lt
    · have hne : pre ≠ [] := fun e => hW (hi.1 e)
      obtain ⟨ι5, st⟩ := hi.2 hne
      refine wpIn_mono (hin (some l) _ as hasok.1 hasok.2 _ _ _ _ _ has6 ι5 W { tmps := a.tmps.setIfInBounds p (.int .i64 q), defers := [] } (st.rel.withMw INF) (hset st.le) rfl) fun e a' W' hp => ?_
      obtain ⟨rfl, hd', ι6, hs6, hfr6⟩ := hp
      have hB := Step.clean hs6 (st.rel.withMw INF) (ble_le hclean6)
      refine hK a' W' (keepsFrom_of (st.rel.withMw INF) hs6 (show NoMaps σ5 ι5 w.heap.size from noMaps_of hINF st hnew5)) (hB.cell (p := ⟨pl.block, 0, none⟩) (Nat.lt_of_lt_of_le hlt st.size)) ⟨fun e => (hne e).elim, fun _ => ⟨ι5, st.trans hINF (Step.grow st.rel hB)⟩⟩ ⟨Nat.le_trans st.size hs6.size, fun hbw => (hW ?_).elim⟩
      exact ⟨hB.os.symm.trans hbw.os, hB.tape.symm.trans hbw.tape, hB.output.symm.trans hbw.output, st.size, fun b hb => (hB.block b (Nat.lt_of_lt_of_le hb st.size)).symm.trans (hbw.block b hb)⟩
  case body =>
    rintro l pre x a' W hl hr hi hax hlen
    have hpre : pre = [] := by cases pre with | nil => rfl | cons _ _ => simp at hlen
    obtain ⟨ι4, hs4, hfr4, hd4⟩ := hax.2 (hi.1 hpre)
    have hnm := noMaps_of hINF hs4 hnew4
    refine wpIn_mono (hbody l fr4 σ4 σ5 hinn ι4 W a' hs4.rel hnm hl hr hfr4 hd4) fun e a2 W2 hp => ?_
    obtain ⟨rfl, ι5, hs5⟩ := hp
    have hall := hs4.trans hINF hs5
    refine ⟨keepsFrom_of hs4.rel hs5 hnm, ?_, fun e => by simp at e, fun _ => ⟨ι5, hall⟩⟩
    show W2.cell? _ = W.cell? _
    rw [(bitAt_spec hs4.rel (bitIs_spec hb4) (hs4.le _ _ hpl)).1, (bitAt_spec hs5.rel (bitIs_spec hb5) (hall.le _ _ hpl)).1]
  case done =>
    rintro xs W rfl hi
    obtain ⟨ι5, st⟩ := hi.2 (by simp)
    exact hQ W ι5 (Step.ofInner INF st)
  case stop =>
    rintro c pre W _ h
    exact h.elim

theorem JP.outer_sound {J : JP} {self : Self} (hok : J.ok = true) (hin : SelfSoundIn P w0 self) (hY : YieldsBit P J.gf) (hent : ∀ args w, (callFunc J.gf args).run P w = .ok (.enter J.gf args) w)
    (B : Nat) (l : Nat) (fr : List Value) (σ σ' : AW) (e : J.outer self fr σ = some σ') (ι : Inj) (W : World) (a : Act) (h : Rel P w0 σ ι W) (hn : NoMaps σ ι B) (hl : B ≤ l) (hr : ∃ r, W.heap[l]? = some (.loop r)) (hfr : LRel ι fr a.tmps.toList) (hd : a.defers = []) :
    (Code.block J.b1 (J.c3.seq (.block J.b2 (.rangeFunc (.tmp J.t2) #[J.p2] J.as2 J.body)))).wpIn (wideR (some l)) 18 P (fun e _ W' => e = .normal ∧ ∃ ι', Step P w0 σ ι W σ' ι' W') a W := by
  simp only [JP.ok, Bool.and_eq_true] at hok
  obtain ⟨h0, h1, h2, h3, h4, h5⟩ := hok
  unfold JP.outer at e
  split at e <;> try contradiction
  rename_i fr' σ3 hc3
  refine wpIn_block (wpIn_seq (wpIn_mono (hin (some l) _ J.c3 h3.1 h3.2 _ _ _ _ _ hc3 ι W a h hfr hd) fun e1 a1 W1 hp => ?_))
  obtain ⟨rfl, hd1, ι1, hs1, hfr1⟩ := hp
  obtain ⟨r, hr⟩ := hr
  have hr1 := (keepsFrom_of h hs1 hn).same l _ hl hr rfl
  refine wpIn_block (rangeRun_inner hin hY hent h4 e hs1.rel hfr1 hd1 ?_ ?_ hr1)
  · intro l2 fr2 σ2 σ2' e2 ι2 W2 a2 hrel2 _ _ _ hfr2 hd2
    unfold JP.inner at e2
    split at e2 <;> try contradiction
    rename_i fr5 σ5 h5'
    cases e2
    refine wpIn_mono (hin (some l2) _ J.body h5.1 h5.2 _ _ _ _ _ h5' ι2 W2 a2 hrel2 hfr2 hd2) fun e3 a3 W3 hp => ?_
    obtain ⟨rfl, _, ι3, hs3, _⟩ := hp
    exact ⟨rfl, ι3, hs3⟩
  · intro W3 ι3 hs3
    exact ⟨rfl, ι3, hs1.trans h hs3⟩
theorem JP.sum_sound {J : JP} (hok : J.ok = true) (hN : ProgOk P) (hM : P.follows .mixedOrders = true) {sums : Sums} (hsums : SumsSound P w0 sums) (hY : YieldsBit P J.gf) (hent : ∀ args w, (callFunc J.gf args).run P w = .ok (.enter J.gf args) w)
    {f : FuncId} {fn : Func} (hf : P.funcs[f]? = some fn) (hb : fn.body = some J.code) (hres : fn.results = #[]) {n d : Nat} {args args' : List Value} {r : Value × Option AW} (e : J.sum P sums n d fn.ntmps args σ = some r) (h : Rel P w0 σ ι w) (ha : LRel ι args args') :
    Calls P f args'.toArray w (CPost P w0 σ ι w r) := by
  have hin := run_soundIn hN hM hsums n d
  have hok' := hok
  simp only [JP.ok, Bool.and_eq_true] at hok
  obtain ⟨h0, h1, h2, h3, h4, h5⟩ := hok
  unfold JP.sum at e
  split at e <;> try contradiction
  rename_i fr1 σ1 hc0
  split at e <;> try contradiction
  rename_i fr2 σ2 hc1
  split at e <;> try contradiction
  rename_i σ3 hrr
  split at e <;> try contradiction
  rename_i hnew
  cases e
  have hfr0 : LRel ι (args ++ List.replicate (fn.ntmps - args.length) undef) (args'.toArray ++ Array.replicate (fn.ntmps - args'.toArray.size) undef).toList := by
    simp only [Array.toList_append, Array.toList_replicate, List.size_toArray, ← ha.1]
    refine ha.append ⟨rfl, fun i x x' p q => ?_⟩
    rw [p] at q; cases q
    have := List.mem_of_getElem? p
    rw [List.eq_of_mem_replicate this]; exact VRel.undef ι
  have hINF := h.withMw INF
  refine callsIn_wide.1 (callsIn_of_wp_marks (F := Fence.wide) (n := 20) hf hb trivial ?_ rfl)
  unfold JP.code
  refine wpIn_seq (wpIn_mono (hin none _ J.c0 h0.1 h0.2 _ _ _ _ _ hc0 ι w { tmps := args'.toArray ++ Array.replicate (fn.ntmps - args'.toArray.size) undef, defers := [] } hINF hfr0 rfl) fun e1 a1 W1 hp => ?_)
  obtain ⟨rfl, hd1, ι1, hs1, hfr1⟩ := hp
  refine wpIn_seq (wpIn_mono (hin none _ J.c1 h1.1 h1.2 _ _ _ _ _ hc1 ι1 W1 a1 hs1.rel hfr1 hd1) fun e2 a2 W2 hp => ?_)
  obtain ⟨rfl, hd2, ι2, hs2, hfr2⟩ := hp
  refine wpIn_block (rangeRun_outer hin hY hent h2 hrr hs2.rel hfr2 hd2 (JP.outer_sound hok' hin hY hent W2.heap.size) fun D W ι' hD hst hnm hDd => ?_)
  have hall := (hs1.trans hINF hs2).trans hINF hst
  show LeavesInM _ _ _ _ _ _ _ _ _
  rw [hd2]
  refine ⟨by simp, .inl ⟨_, _, rfl, run_takeDeferred hDd, ?_⟩⟩
  have hgr : W.grownBy (W.putObj D (.deferred none)) (some D) := grownBy_putObj' W D _
  have hfin := hall.turned (noMaps_of hINF hall hnew) (Nat.le_refl _) h.below.size hgr (fun r er => by
    cases er
    exact ⟨Nat.le_trans hs1.size (Nat.le_trans hs2.size hD), _, hDd, rfl⟩)
  exact ⟨.tuple #[], by simp [results, hres, go_sem], _, ι', rfl, Step.ofInner INF hfin, .tuple _ _ rfl (by simp)⟩
end Go.Ai
