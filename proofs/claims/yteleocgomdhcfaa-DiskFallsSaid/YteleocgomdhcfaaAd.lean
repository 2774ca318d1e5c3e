/- Proved: an executable interpreter of the model's Code over an abstract heap is sound: what it answers for a call, the call comes to, in whatever memory. Conditions: none but what each theorem names. -/
import Derived.Test.YteleocgomdhcfaaAc
import Derived.Carry
set_option linter.unusedVariables false
set_option linter.unusedSimpArgs false

/- The interpreter once more, told beforehand what some tests come to: each such word is asked for in its answer. -/
namespace Go.Ai

/-- An answer that parts at some tests: both ways are there. -/
inductive O (α : Type) where
  | no
  | yes (a : α)
  | ask (c : Bool) (k : Bool → O α)
def O.force {α : Type} : O α → Option α
  | .no => none
  | .yes a => some a
  | .ask c k => (k c).force
def O.bind {α β : Type} : O α → (α → O β) → O β
  | .no, _ => .no
  | .yes a, f => f a
  | .ask c k, f => .ask c fun b => (k b).bind f
def O.of {α : Type} : Option α → O α
  | none => .no
  | some a => .yes a
/-- All ways end so. -/
def O.good {α : Type} (p : α → Bool) : O α → Bool
  | .no => false
  | .yes a => p a
  | .ask _ k => (k true).good p && (k false).good p
theorem O.force_bind {α β : Type} (f : α → O β) : ∀ x : O α, (x.bind f).force = x.force.bind fun a => (f a).force
  | .no => rfl
  | .yes a => rfl
  | .ask c k => by
    simp only [O.bind, O.force]
    exact O.force_bind f (k c)
theorem O.force_of {α : Type} (x : Option α) : (O.of x).force = x := by cases x <;> rfl
theorem O.good_force {α : Type} {p : α → Bool} : ∀ x : O α, x.good p = true → ∃ a, x.force = some a ∧ p a = true
  | .no, h => by cases h
  | .yes a, h => ⟨a, rfl, h⟩
  | .ask c k, h => by
    simp only [O.good, Bool.and_eq_true] at h
    simp only [O.force]
    cases c with
    | true => exact O.good_force (k true) h.1
    | false => exact O.good_force (k false) h.2

/-- At which temporaries of which functions the run parts. -/
abbrev Orc := FuncId → Tmp → Bool
def orcAt (orc : Orc) (g : FuncId) : Option Tmp → Bool
  | some t => orc g t
  | none => false
def askT {β : Type} (w : Bool) (v : Value) (k : Value → O β) : O β :=
  match w with
  | false => k v
  | true => match v with
    | .bool x => .ask x fun b => k (.bool b)
    | v => k v
theorem askT_force {β : Type} {w : Bool} {v : Value} {k : Value → O β} {r : β} (h : (askT w v k).force = some r) : (k v).force = some r := by
  unfold askT at h
  split at h
  · exact h
  · split at h
    · exact h
    · exact h

abbrev SelfO := FuncId → Code → FrT → AW → O (AEx × FrT × AW)
def SimO (so : SelfO) (st : SelfT) : Prop := ∀ g c f σ r, (so g c f σ).force = some r → st c f σ = some r

def aCallO (P : Program) (sums : Sums) (so : SelfO) (f : FuncId) (args : List Value) (σ : AW) : O (Value × Option AW) :=
  match P.funcs[f]? with
  | some fn => match fn.body with
    | some c => match sums f with
      | some s => .of (s args σ)
      | none => frameK args fn.ntmps fun fr => (so f c fr { σ with mw := INF }).bind fun
        | (.exit _, _, _) => .no
        | (_, fr, σ') => match aResT P fr σ' fn.results.toList with
          | some l => match gr (joinRes l) && Nat.ble σ.next σ'.mw with
            | true => .yes (joinRes l, none)
            | false => .yes (joinRes l, some { σ' with mw := min σ.mw σ'.mw })
          | none => .no
    | none => .no
  | none => .no
theorem aCallO_imp {P : Program} {sums : Sums} {so : SelfO} {st : SelfT} (hs : SimO so st) {f : FuncId} {args : List Value} {σ : AW} {r : Value × Option AW} (e : (aCallO P sums so f args σ).force = some r) : aCallT P sums st f args σ = some r := by
  unfold aCallO at e
  unfold aCallT
  split at e <;> try contradiction
  rename_i fn hf
  rw [hf]
  simp only
  split at e <;> try contradiction
  rename_i c hc
  rw [hc]
  simp only
  split at e
  · rename_i s hsum; rw [O.force_of] at e; rw [hsum]; exact e
  · rename_i hsum
    rw [hsum]
    simp only [frameK_eq, O.force_bind] at e ⊢
    cases hrun : (so f c (frameT args fn.ntmps) { σ with mw := INF }).force with
    | none => rw [hrun] at e; cases e
    | some q =>
      rw [hs _ _ _ _ _ hrun]
      rw [hrun] at e
      simp only [Option.bind_some] at e
      obtain ⟨ex, fr, σ'⟩ := q
      cases ex <;> simp only at e ⊢
      · split at e <;> try contradiction
        rename_i l hl
        rw [hl]
        simp only [fV_eq]
        split at e <;> (rename_i hb; rw [hb]; exact e)
      · cases e
      · split at e <;> try contradiction
        rename_i l hl
        rw [hl]
        simp only [fV_eq]
        split at e <;> (rename_i hb; rw [hb]; exact e)

def aOperO (P : Program) (sums : Sums) (hard : FuncId → Bool) (stT : SelfT) (so : SelfO) (o : Oper) (f : FrT) (σ : AW) : O (Value × Option AW) :=
  match o.op.operands.toList.all (evOk P) with
  | true =>
    match aOp P o (evT f) σ with
    | some r => .yes r
    | none => match gOp P o (evT f) with
      | some r => .yes r
      | none => match aTarget P o (evT f) σ with
        | some (g, args) => match hard g with
          | true => .of (aCallT P sums stT g args σ)
          | false => aCallO P sums so g args σ
        | none => .no
  | false => .no
theorem aOperO_imp {P : Program} {sums : Sums} {hard : FuncId → Bool} {so : SelfO} {st : SelfT} (hs : SimO so st) {o : Oper} {f : FrT} {σ : AW} {r : Value × Option AW} (e : (aOperO P sums hard st so o f σ).force = some r) : aOperT P sums st o f σ = some r := by
  unfold aOperO at e
  unfold aOperT
  split at e <;> try contradiction
  rename_i hall
  rw [hall]
  simp only
  split at e
  · rename_i r' h1; rw [h1]; exact e
  · rename_i h1
    rw [h1]
    simp only
    split at e
    · rename_i r' h2; rw [h2]; exact e
    · rename_i h2
      rw [h2]
      simp only
      split at e <;> try contradiction
      rename_i g args h3
      rw [h3]
      simp only [fVs_eq]
      split at e
      · rw [O.force_of] at e; exact e
      · exact aCallO_imp hs e

def aSeqO (P : Program) (sums : Sums) (hard : FuncId → Bool) (stT : SelfT) (orc : Orc) (g : FuncId) (so : SelfO) (ops : Array Oper) : List Oper → FrT → AW → O (FrT × AW)
  | [], f, σ => .yes (f, σ)
  | o :: rest, f, σ => match Region.wanted o (yieldedT ops f) with
    | true => (aOperO P sums hard stT so o f σ).bind fun
      | (v, u) => askT (orcAt orc g o.dst) v fun v => match u with
        | some σ' => putK f o.dst v fun f => aSeqO P sums hard stT orc g so ops rest f σ'
        | none => putK f o.dst v fun f => aSeqO P sums hard stT orc g so ops rest f σ
    | false => putK f o.dst undef fun f => aSeqO P sums hard stT orc g so ops rest f σ
theorem aSeqO_imp {P : Program} {sums : Sums} {hard : FuncId → Bool} {orc : Orc} {g : FuncId} {so : SelfO} {st : SelfT} (hs : SimO so st) (ops : Array Oper) : ∀ (l : List Oper) (f : FrT) (σ : AW) (r : FrT × AW), (aSeqO P sums hard st orc g so ops l f σ).force = some r → aSeqT P sums st ops l f σ = some r
  | [], f, σ, r, e => e
  | o :: rest, f, σ, r, e => by
    simp only [aSeqO] at e
    simp only [aSeqT]
    split at e
    · rename_i hw
      rw [hw]
      simp only [O.force_bind] at e ⊢
      cases ho : (aOperO P sums hard st so o f σ).force with
      | none => rw [ho] at e; cases e
      | some q =>
        rw [aOperO_imp hs ho]
        rw [ho] at e
        obtain ⟨v, u⟩ := q
        simp only [Option.bind_some, fV_eq] at e ⊢
        have e := askT_force e
        cases u with
        | none => simp only [putK_eq] at e ⊢; exact aSeqO_imp hs ops rest _ _ _ e
        | some σ1 => simp only [putK_eq] at e ⊢; exact aSeqO_imp hs ops rest _ _ _ e
    · rename_i hw
      rw [hw]
      simp only [putK_eq] at e ⊢
      exact aSeqO_imp hs ops rest _ _ _ e

def dstepO (P : Program) (sums : Sums) (hard : FuncId → Bool) (stT : SelfT) (orc : Orc) (g : FuncId) (so : SelfO) (ops : Array Oper) (ms : List Nat) (o : Oper) (f : FrT) (s : DX) : O (FrT × DX) :=
  match Region.wanted o (yieldedT ops f) with
  | false => putK f o.dst undef fun f => (s.quiet undef).fz fun s => .yes (f, s)
  | true => match pureOp o.op with
    | true => (aOperO P sums hard stT so o f bot).bind fun
      | (v, none) => askT (orcAt orc g o.dst) v fun v => putK f o.dst v fun f => (s.quiet v).fz fun s => .yes (f, s)
      | _ => .no
    | false => match loadStill P ops ms o (evT f) s with
      | some (v, b) => askT (orcAt orc g o.dst) v fun v => putK f o.dst v fun f => (s.still v b).fz fun s => .yes (f, s)
      | none => match s.view ms with
        | some view => (aOperO P sums hard stT so o f view).bind fun
          | (v, u) => askT (orcAt orc g o.dst) v fun v => match s.after ms v u with
            | some s' => match s'.mark o (evT f) with
              | some s' => putK f o.dst v fun f => s'.fz fun s' => .yes (f, s')
              | none => .no
            | none => .no
        | none => .no
theorem dstepO_imp {P : Program} {sums : Sums} {hard : FuncId → Bool} {orc : Orc} {g : FuncId} {so : SelfO} {st : SelfT} (hs : SimO so st) {ops : Array Oper} {ms : List Nat} {o : Oper} {f : FrT} {s : DX} {r : FrT × DX} (e : (dstepO P sums hard st orc g so ops ms o f s).force = some r) : dstepT P sums st ops ms o f s = some r := by
  unfold dstepO at e
  unfold dstepT
  simp only [putK_eq, DX.fz_eq, fV_eq] at e ⊢
  split at e
  · rename_i hw; rw [hw]; exact e
  · rename_i hw
    rw [hw]
    simp only
    split at e
    · rename_i hp
      rw [hp]
      simp only [O.force_bind] at e ⊢
      cases ho : (aOperO P sums hard st so o f bot).force with
      | none => rw [ho] at e; cases e
      | some q =>
        rw [aOperO_imp hs ho]
        rw [ho] at e
        obtain ⟨v, u⟩ := q
        cases u with
        | some σ1 => cases e
        | none =>
          simp only [Option.bind_some] at e ⊢
          exact askT_force e
    · rename_i hp
      rw [hp]
      simp only
      split at e
      · rename_i v b hl
        rw [hl]
        exact askT_force e
      · rename_i hl
        rw [hl]
        simp only
        split at e <;> try contradiction
        rename_i view hview
        rw [hview]
        simp only [O.force_bind] at e ⊢
        cases ho : (aOperO P sums hard st so o f view).force with
        | none => rw [ho] at e; cases e
        | some q =>
          rw [aOperO_imp hs ho]
          rw [ho] at e
          obtain ⟨v, u⟩ := q
          simp only [Option.bind_some] at e ⊢
          have e := askT_force e
          split at e <;> try contradiction
          rename_i s' h1
          rw [h1]
          simp only
          split at e <;> try contradiction
          rename_i s2 h2
          rw [h2]
          exact e

def aDrawGoO (P : Program) (sums : Sums) (hard : FuncId → Bool) (stT : SelfT) (orc : Orc) (g : FuncId) (so : SelfO) (ops : Array Oper) (ms : List Nat) : List Oper → FrT → DX → O (FrT × DX)
  | [], f, s => .yes (f, s)
  | o :: rest, f, s => (dstepO P sums hard stT orc g so ops ms o f s).bind fun
    | (f, s) => aDrawGoO P sums hard stT orc g so ops ms rest f s
theorem aDrawGoO_imp {P : Program} {sums : Sums} {hard : FuncId → Bool} {orc : Orc} {g : FuncId} {so : SelfO} {st : SelfT} (hs : SimO so st) (ops : Array Oper) (ms : List Nat) : ∀ (l : List Oper) (f : FrT) (s : DX) (r : FrT × DX), (aDrawGoO P sums hard st orc g so ops ms l f s).force = some r → aDrawGoT P sums st ops ms l f s = some r
  | [], f, s, r, e => e
  | o :: rest, f, s, r, e => by
    simp only [aDrawGoO, O.force_bind] at e
    simp only [aDrawGoT]
    cases h1 : (dstepO P sums hard st orc g so ops ms o f s).force with
    | none => rw [h1] at e; cases e
    | some q =>
      rw [dstepO_imp hs h1]
      rw [h1] at e
      exact aDrawGoO_imp hs ops ms rest _ _ _ e

def aDrawO (P : Program) (sums : Sums) (hard : FuncId → Bool) (stT : SelfT) (orc : Orc) (g : FuncId) (so : SelfO) (ops : Array Oper) (f : FrT) (σ : AW) : O (FrT × AW) :=
  forceL forceN (masks ops.toList []) fun ms => (aDrawGoO P sums hard stT orc g so ops ms ops.toList f (.init σ)).bind fun
    | (f, s) => .yes (f, { s.cur with mw := s.mw })
theorem aDrawO_imp {P : Program} {sums : Sums} {hard : FuncId → Bool} {orc : Orc} {g : FuncId} {so : SelfO} {st : SelfT} (hs : SimO so st) (ops : Array Oper) {f : FrT} {σ : AW} {r : FrT × AW} (e : (aDrawO P sums hard st orc g so ops f σ).force = some r) : aDrawT P sums st ops f σ = some r := by
  unfold aDrawO at e
  unfold aDrawT
  rw [forceL_eq (fun x k => forceN_eq x k)] at e ⊢
  rw [O.force_bind] at e
  cases h1 : (aDrawGoO P sums hard st orc g so ops (masks ops.toList []) ops.toList f (.init σ)).force with
  | none => rw [h1] at e; cases e
  | some q =>
    rw [aDrawGoO_imp hs ops _ _ _ _ _ h1]
    rw [h1] at e
    exact e

def aLoopO (so : SelfO) (g : FuncId) (c : Code) : Nat → FrT → AW → O (AEx × FrT × AW)
  | 0, _, _ => .no
  | n + 1, f, σ => (so g c f σ).bind fun
    | (.normal, f, σ) => aLoopO so g c n f σ
    | r => .yes r
theorem aLoopO_imp {so : SelfO} {st : SelfT} (hs : SimO so st) (g : FuncId) (c : Code) : ∀ (n : Nat) (f : FrT) (σ : AW) (r : AEx × FrT × AW), (aLoopO so g c n f σ).force = some r → aLoopT st c n f σ = some r
  | 0, _, _, _, e => by cases e
  | n + 1, f, σ, r, e => by
    simp only [aLoopO, O.force_bind] at e
    simp only [aLoopT]
    cases h1 : (so g c f σ).force with
    | none => rw [h1] at e; cases e
    | some q =>
      rw [hs _ _ _ _ _ h1]
      rw [h1] at e
      obtain ⟨ex, f1, σ1⟩ := q
      cases ex
      · exact aLoopO_imp hs g c n _ _ _ e
      · exact e
      · exact e

def stepCO (P : Program) (sums : Sums) (hard : FuncId → Bool) (stT : SelfT) (orc : Orc) (n : Nat) (so : SelfO) : SelfO := fun g c f σ =>
  match c with
  | .skip | .label _ => .yes (.normal, f, σ)
  | .region _ ops false => (aSeqO P sums hard stT orc g so ops ops.toList f σ).bind fun
    | (f, σ) => .yes (.normal, f, σ)
  | .region _ ops true => (aDrawO P sums hard stT orc g so ops f σ).bind fun
    | (f, σ) => .yes (.normal, f, σ)
  | .seq a b => (so g a f σ).bind fun
    | (.normal, f, σ) => so g b f σ
    | r => .yes r
  | .cond c a b => match evOk P c, evT f c with
    | true, .bool true => so g a f σ
    | true, .bool false => so g b f σ
    | _, _ => .no
  | .block id b => (so g b f σ).bind fun
    | (.exit i, f, σ) => match Nat.beq i id with
      | true => .yes (.normal, f, σ)
      | false => .yes (.exit i, f, σ)
    | r => .yes r
  | .loop b => aLoopO so g b n f σ
  | .scope b => so g b f σ
  | .exit id => .yes (.exit id, f, σ)
  | .ret => .yes (.ret, f, σ)
  | _ => .no
theorem stepCO_imp {P : Program} {sums : Sums} {hard : FuncId → Bool} {orc : Orc} (n : Nat) {so : SelfO} {st : SelfT} (hs : SimO so st) : SimO (stepCO P sums hard st orc n so) (stepCT P sums n st) := by
  intro g c f σ r e
  cases c with
  | skip => exact e
  | label l => exact e
  | exit id => exact e
  | ret => exact e
  | region id ops draw =>
    cases draw with
    | false =>
      simp only [stepCO, O.force_bind] at e
      simp only [stepCT]
      cases h1 : (aSeqO P sums hard st orc g so ops ops.toList f σ).force with
      | none => rw [h1] at e; cases e
      | some q => rw [aSeqO_imp hs ops _ _ _ _ h1]; rw [h1] at e; exact e
    | true =>
      simp only [stepCO, O.force_bind] at e
      simp only [stepCT]
      cases h1 : (aDrawO P sums hard st orc g so ops f σ).force with
      | none => rw [h1] at e; cases e
      | some q => rw [aDrawO_imp hs ops h1]; rw [h1] at e; exact e
  | seq x y =>
    simp only [stepCO, O.force_bind] at e
    simp only [stepCT]
    cases h1 : (so g x f σ).force with
    | none => rw [h1] at e; cases e
    | some q =>
      rw [hs _ _ _ _ _ h1]
      rw [h1] at e
      obtain ⟨ex, f1, σ1⟩ := q
      cases ex
      · exact hs _ _ _ _ _ e
      · exact e
      · exact e
  | cond c x y =>
    simp only [stepCO] at e
    simp only [stepCT]
    split at e <;> try contradiction
    · rename_i h1 h2; rw [h1, h2]; exact hs _ _ _ _ _ e
    · rename_i h1 h2; rw [h1, h2]; exact hs _ _ _ _ _ e
  | block id b =>
    simp only [stepCO, O.force_bind] at e
    simp only [stepCT]
    cases h1 : (so g b f σ).force with
    | none => rw [h1] at e; cases e
    | some q =>
      rw [hs _ _ _ _ _ h1]
      rw [h1] at e
      obtain ⟨ex, f1, σ1⟩ := q
      cases ex
      · exact e
      · rename_i i
        simp only [Option.bind_some] at e ⊢
        cases hb : Nat.beq i id <;> (rw [hb] at e; exact e)
      · exact e
  | loop b => exact aLoopO_imp hs g b n _ _ _ e
  | scope b => exact hs _ _ _ _ _ e
  | rangeFunc => cases e
  | goto => cases e
  | refuse => cases e

noncomputable def runO (P : Program) (sums : Sums) (hard : FuncId → Bool) (orc : Orc) (n d : Nat) : SelfO := Nat.rec (fun _ _ _ _ => .no) (fun m ih => stepCO P sums hard (runT P sums n m) orc n ih) d
theorem runO_sim (P : Program) (sums : Sums) (hard : FuncId → Bool) (orc : Orc) (n : Nat) : ∀ d, SimO (runO P sums hard orc n d) (runT P sums n d)
  | 0 => fun g c f σ r e => by cases e
  | d + 1 => stepCO_imp n (runO_sim P sums hard orc n d)

/-- A call's answer on all its ways. 'hard': functions that are called with closed values alone. -/
noncomputable def asked (P : Program) (sums : Sums) (hard : FuncId → Bool) (orc : Orc) (n d : Nat) (f : FuncId) (args : List Value) (σ : AW) (p : Value × Option AW → Bool) : Bool := (aCallO P sums (runO P sums hard orc n d) f args σ).good p
theorem asked_call {P : Program} {sums : Sums} {hard : FuncId → Bool} {orc : Orc} {n d : Nat} {f : FuncId} {args : List Value} {σ : AW} {p : Value × Option AW → Bool} (h : asked P sums hard orc n d f args σ p = true) : ∃ r, aCall P sums (run P sums n d) f args σ = some r ∧ p r = true := by
  obtain ⟨r, h1, h2⟩ := O.good_force _ h
  exact ⟨r, aCallT_imp (runT_sim P sums n d) (aCallO_imp (runO_sim P sums hard orc n d) h1), h2⟩
def saysTrue : Value × Option AW → Bool
  | (v, none) => isTrue v
  | _ => false
theorem saysTrue_eq {r : Value × Option AW} (h : saysTrue r = true) : r = (.bool true, none) := by
  unfold saysTrue at h
  split at h
  · rename_i v
    unfold isTrue at h
    split at h
    · rfl
    · cases h
  · cases h

end Go.Ai

/- Starts: package variables whose cells are known, and blocks of which nothing is known; arguments by their outer form; the last step of a row. -/
namespace Go.Ai
open Go.RowKit Go.ChangeShapes Go.WideShapes
variable {P : Program}

def mixInj (P : Program) (bs : List Nat) : Inj := fun g => if g < P.globals.size then some ⟨g, 0, 0, 0⟩ else (bs[g - P.globals.size]?).map fun b => ⟨b, 0, 0, 0⟩
theorem mix_rel (w : World) (l : List (Nat × List Value)) (bs : List Nat) (h : Tabled P w l) : Rel P w (tabW P (typeIn w) l bs.length) (mixInj P bs) w where
  below := Below.refl _ w
  glob := fun g hg => ⟨⟨g, 0, 0, 0⟩, by unfold mixInj; rw [if_pos hg], rfl, rfl⟩
  blk := fun i b e => by
    obtain ⟨p, hp, hb⟩ := (tab_rel w l h).blk i b e
    have hi : i < P.globals.size := by
      obtain ⟨vs, hm, _⟩ := tabMem_get l i b e
      exact (h i vs hm).1
    have e0 : blankInj P i = some ⟨i, 0, 0, 0⟩ := by unfold blankInj; rw [if_pos hi]
    rw [e0] at hp; cases hp
    refine ⟨⟨i, 0, 0, 0⟩, by unfold mixInj; rw [if_pos hi], ?_⟩
    refine BRel.mono (ι := blankInj P) ?_ hb
    intro g q hq
    unfold blankInj at hq
    unfold mixInj
    split at hq
    · rename_i hg; rw [if_pos hg]; exact hq
    · cases hq
  inj := fun i j bi bj pi pj ei ri => by
    obtain ⟨vs, hm, rfl⟩ := tabMem_get l i bi ei
    cases ri
  dom := fun i p e => by
    show i < P.globals.size + bs.length
    unfold mixInj at e; split at e
    · omega
    · cases hb : bs[i - P.globals.size]? with
      | none => rw [hb] at e; cases e
      | some b => have := (List.getElem?_eq_some_iff.1 hb).1; omega

/-- A slice of which nothing is known but its numbers. -/
theorem mix_slice {bs : List Nat} {b : Nat} (j : Nat) (h : bs[j]? = some b) (off len cap : Nat) (hl : len ≤ cap) (hc : cap < 2 ^ 64) : VRel (mixInj P bs) (.slice (some ⟨P.globals.size + j, off, none⟩) len cap) (.slice (some ⟨b, off, none⟩) len cap) := by
  have h := VRel.slice (ι := mixInj P bs) (P.globals.size + j) off off len cap cap ⟨b, 0, 0, 0⟩ (by unfold mixInj; rw [if_neg (by omega), Nat.add_sub_cancel_left, h]; rfl) (.inl ⟨Nat.lt_of_lt_of_le hc (Nat.pow_le_pow_right (by omega) (by omega)), rfl⟩) hl (fun _ => by simp)
  exact h

theorem VRel.aggL {ι : Inj} {l l' : List Value} (h : LRel ι l l') : VRel ι (.agg l.toArray) (.agg l'.toArray) := .agg _ _ (by simpa using h.1) fun i x x' e e' => h.2 i x x' (by simpa using e) (by simpa using e')

/-- A call that looks into nothing of what it is handed and answers true whichever way some tests go; over summaries of some functions. -/
theorem ai_asked (hN : progOk P = true) (hM : P.follows .mixedOrders = true) (sums : Sums) (hS : ∀ w0, SumsSound P w0 sums) (hard : FuncId → Bool) (orc : Orc) (n d : Nat) (f : FuncId) (l : List (Nat × List Value)) (bs : List Nat) (args args' : List Value) (w : World) (hl : Tabled P w l) (hg : LRel (mixInj P bs) args args')
    (e : ∀ ts, asked P sums hard orc n d f args (tabW P ts l bs.length) saysTrue = true) :
    Calls P f args'.toArray w fun e w' => e = .returned (.bool true) ∧ Below w.heap.size w w' := by
  obtain ⟨r, h1, h2⟩ := asked_call (e (typeIn w))
  have := saysTrue_eq h2
  subst this
  refine (ai_calls (progOk_spec hN) hM (hS w) n d h1 (mix_rel w l bs hl) hg).mono fun en w' hp => ?_
  obtain ⟨v', ι', rfl, hs, hr⟩ := hp
  rw [gr_eq hr rfl]
  exact ⟨rfl, hs.rel.below⟩

theorem tabled_nil (w : World) : Tabled P w [] := fun g vs h => by cases h

/- the outer forms of what is handed in -/
section
variable {w : World} {r : Reach} {base : Nat} {t : TypeId} {v : Value}
theorem cell_int {k : IntKind} (ht : P.underlying t = some (.int k)) (h : Cell.okWide P w r base t v) : ∃ n, v = .int k n ∧ k.has n := by
  unfold Cell.okWide Cell.ok at h
  rw [ht] at h
  cases v <;> simp at h
  obtain ⟨rfl, h⟩ := h
  exact ⟨_, rfl, h⟩
theorem cell_bool (ht : P.underlying t = some .bool) (h : Cell.okWide P w r base t v) : ∃ n, v = .bool n := by
  unfold Cell.okWide Cell.ok at h
  rw [ht] at h
  cases v <;> simp at h
  exact ⟨_, rfl⟩
theorem cell_string (ht : P.underlying t = some .string) (h : Cell.okWide P w r base t v) : ∃ n, v = .string n ∧ (n.size : Int) ≤ IntKind.i64.max := by
  unfold Cell.okWide Cell.ok at h
  rw [ht] at h
  cases v <;> simp at h
  exact ⟨_, rfl, h⟩
theorem cell_slice {e : TypeId} (ht : P.underlying t = some (.slice e)) (h : Cell.okWide P w r base t v) : v = .slice none 0 0 ∨ ∃ b o l c, v = .slice (some ⟨b, o, none⟩) l c ∧ l ≤ c ∧ c < 2 ^ 64 := by
  unfold Cell.okWide Cell.ok at h
  rw [ht] at h
  cases v <;> simp at h
  rename_i a l c
  cases a with
  | none =>
    split at h <;> simp_all
  | some a =>
    obtain ⟨h1, h2, h3⟩ := h
    obtain ⟨b, o, s⟩ := a
    have hs : s = none := h3.2.1
    subst hs
    refine .inr ⟨b, o, l, c, rfl, h1, ?_⟩
    have : (c : Int) ≤ 9223372036854775807 := h2
    omega
theorem okWide_cell {t : TypeId} (h : Value.okWide P w r base t v) (hs : ∀ fs, P.underlying t ≠ some (.struct fs)) (ha : ∀ n e, P.underlying t ≠ some (.array n e)) : Cell.okWide P w r base t v := by
  unfold Value.okWide at h
  split at h
  · rename_i fs e; exact (hs fs e).elim
  · rename_i n x e; exact (ha n x e).elim
  · exact h
theorem okWide_struct {fs : Array Field} {ts : List TypeId} (ht : P.underlying t = some (.struct fs)) (hc : P.cellTypes P.depth t = some ts) (hn : P.cellsOf t = ts.length) (h : Value.okWide P w r base t v) :
    ∃ cs : List Value, v = .agg cs.toArray ∧ cs.length = ts.length ∧ ∀ (i : Nat) (x : Value), cs[i]? = some x → ∃ u, ts[i]? = some u ∧ Cell.okWide P w r base u x := by
  unfold Value.okWide at h
  rw [ht] at h
  simp only at h
  obtain ⟨cs, rfl, h1, ts', h2, _, h3⟩ := h
  rw [hc] at h2; cases h2
  refine ⟨cs.toList, by simp, by simp [h1, hn], fun i x hx => ?_⟩
  obtain ⟨u, h4, h5⟩ := h3 i x (by simpa using hx)
  have hi := (List.getElem?_eq_some_iff.1 hx).1
  rw [Nat.mod_eq_of_lt (by simp at hi; omega)] at h4
  exact ⟨u, h4, h5⟩
end

section
variable {H : Type} {enc : TypeId × Value → H}
theorem trodAll_len {w : World} {base : Nat} {spare : Nat → Bool} {held : Bool} : ∀ {ts : List TypeId} {vs : List Value} {ds : List (DataW H)} {ps : List MemPlace}, DataW.TrodAll enc P w base spare held ts vs ds ps → vs.length = ts.length ∧ ds.length = ts.length
  | [], [], [], _, _ => ⟨rfl, rfl⟩
  | [], [], _ :: _, _, h => h.elim
  | [], _ :: _, _, _, h => h.elim
  | _ :: _, [], _, _, h => h.elim
  | _ :: _, _ :: _, [], _, h => h.elim
  | _ :: _, _ :: _, _ :: _, _, h => by
    obtain ⟨p, q, _, h2, _⟩ := h
    obtain ⟨a, b⟩ := trodAll_len h2
    exact ⟨by simp [a], by simp [b]⟩
theorem trodAll_stays (hl : laidOutB P = true) {W W' : World} {sp : Nat → Bool} : ∀ {ts : List TypeId} {vs : List Value} {ds : List (DataW H)} {ps : List MemPlace}, (ts.all fun t => P.readableRec t && Nat.ble (t + 1) P.types.size) = true →
    DataW.TrodAll enc P W 0 (fun _ => true) true ts vs ds ps → (∀ p ∈ ps, W.sameAt W' p) → (∀ p ∈ ps, sp p.block = true) → DataW.TrodAll enc P W' 0 sp true ts vs ds ps
  | [], [], [], _, _, h, _, _ => h
  | [], [], _ :: _, _, _, h, _, _ => h.elim
  | [], _ :: _, _, _, _, h, _, _ => h.elim
  | _ :: _, [], _, _, _, h, _, _ => h.elim
  | _ :: _, _ :: _, [], _, _, h, _, _ => h.elim
  | t :: ts, v :: vs, d :: ds, ps, hr, h, hs, hp => by
    obtain ⟨p, q, h1, h2, rfl⟩ := h
    simp only [List.all_cons, Bool.and_eq_true] at hr
    exact ⟨p, q, WideElems.Trod_stays hl hr.1.1 (Nat.le_of_ble_eq_true hr.1.2) h1 (fun x hx => hs x (by simp [hx])) (fun x hx => hp x (by simp [hx])),
      trodAll_stays hl hr.2 h2 (fun x hx => hs x (by simp [hx])) (fun x hx => hp x (by simp [hx])), rfl⟩

/-- The last step of a row whose law answers true. -/
theorem row_true {f : Func} {s : ChangeSpec} {W W' : World} {args : Array Value} {ds gs : List (DataW H)} {before : List MemPlace} {tb : TypeId}
    (hl : laidOutB P = true) (hr : (f.params.toList.all fun t => P.readableRec t && Nat.ble (t + 1) P.types.size) = true) (hv : s.vars = []) (hfn : ∀ ds : List (DataW H), ds.length = f.params.toList.length → s.fn H ds = { results := [.lit (.bool true)], args := ds })
    (hres : f.resultTypes = #[tb]) (hb : P.underlying tb = some .bool) (hW : DataW.Whole enc P f.params.toList s.vars false W args.toList ds gs before) (hw : Below W.heap.size W W') :
    s.post enc P f false true false false W args (.bool true) W' := by
  have hW' := hW
  obtain ⟨p, q, hA, hV, rfl, hz, hn⟩ := hW
  rw [hv] at hV
  obtain ⟨rfl, rfl⟩ := trodVars_none hV
  have hlen := (trodAll_len hA).2
  have hlt : ∀ x ∈ p, x.block < W.heap.size := fun x hx => hW'.lt x (by simp [hx])
  have e := hfn ds hlen
  refine row_post (pa := p) (pv := []) hW' (fun b sp hd => ?_) (fun sp hsp => ?_) (fun sp hsp => ?_) rfl hw (ok_one hres rfl (okWide_bool_mk hb _))
  · rw [List.append_nil, e, hres]; exact trodAll_cons_mk (shut_bool hb _) trodAll_mk0
  · rw [List.append_nil, e]
    exact trodAll_stays hl hr hA (fun x hx => hw.same (hlt x hx)) (fun x hx => hsp x (by simp [hx]))
  · rw [List.append_nil, e, hv]; rfl
end

end Go.Ai
