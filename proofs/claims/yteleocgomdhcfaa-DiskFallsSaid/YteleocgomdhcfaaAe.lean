/- Proved: an executable interpreter of the model's Code over an abstract heap is sound: what it answers for a call, the call comes to, in whatever memory. Conditions: none but what each theorem names. -/
import Derived.Test.YteleocgomdhcfaaAd
import Derived.Maps.RangeRun
import Derived.Sort.KeysCollected
set_option linter.unusedVariables false
set_option linter.unusedSimpArgs false

/- Functions that write nothing and range over maps: a run that goes every way there is. -/
namespace Go.Ai
open Go.RowKit
open Go.ChangeMaps (setBlock)

/-- Iterators over maps: of which map; which of its entries came out. -/
abbrev Its := List (Nat × List Nat)
abbrev Leaf := AEx × List Value × Its

def bindL {α β : Type} (l : List α) (f : α → Option (List β)) : Option (List β) :=
  match l with
  | [] => some []
  | x :: r => match f x, bindL r f with
    | some a, some b => some (a ++ b)
    | _, _ => none

def noSelf : Self := fun _ _ _ => none

def tW (σ : AW) (its : Its) : AW := { mem := σ.mem, next := σ.next + its.length, mw := INF }

def mapAt (σ : AW) (m : Nat) : Option (List (Value × Value)) :=
  match σ.get m with
  | some (.map es) => some es
  | _ => none

def itOf (σ : AW) (its : Its) : Value → Option (Nat × Nat × List Nat × List (Value × Value))
  | .pointer (some ⟨r, 0, none⟩) => match Nat.ble σ.next r with
    | true => match its[r - σ.next]? with
      | some (m, seen) => match mapAt σ m with
        | some es => some (r - σ.next, m, seen, es)
        | none => none
      | none => none
    | false => none
  | _ => none

def unseen (n : Nat) (seen : List Nat) : List Nat := (List.range n).filter fun i => !seen.contains i

def outAt (its : Its) (j m : Nat) (seen : List Nat) (es : List (Value × Value)) (i : Nat) : Option (List (Value × Its)) :=
  match es[i]? with
  | some e => match gr e.1 with
    | true => some [(.tuple #[.bool true, e.1, e.2], its.set j (m, seen ++ [i]))]
    | false => none
  | none => none

def tOper (P : Program) (o : Oper) (fr : List Value) (σ : AW) (its : Its) : Option (List (Value × Its)) :=
  match o.op with
  | .range t x => match evOk P x, P.underlying t, ev fr x with
    | true, some (.map _ _), .map (some m) => match mapAt σ m, Nat.ble (σ.next + its.length + 1) INF with
      | some _, true => some [(.pointer (some ⟨σ.next + its.length, 0, none⟩), its ++ [(m, [])])]
      | _, _ => none
    | _, _, _ => none
  | .next x false => match evOk P x, itOf σ its (ev fr x) with
    | true, some (j, m, seen, es) => match unseen es.length seen with
      | [] => some [(.tuple #[.bool false], its)]
      | i :: l => bindL (i :: l) (outAt its j m seen es)
    | _, _ => none
  | .entry x => match evOk P x, itOf σ its (ev fr x) with
    | true, some (_, _, seen, es) => match seen.getLast? with
      | some i => match es[i]? with
        | some e => match gr e.1 with
          | true => some [(.tuple #[e.1, e.2], its)]
          | false => none
        | none => none
      | none => none
    | _, _ => none
  | _ => match aOper P (fun _ => none) noSelf o fr (tW σ its) with
    | some (v, none) => some [(v, its)]
    | _ => none

def tSeq (P : Program) (ops : Array Oper) (σ : AW) : List Oper → List Value → Its → Option (List (List Value × Its))
  | [], fr, its => some [(fr, its)]
  | o :: rest, fr, its => match Region.wanted o (yieldedL ops fr) with
    | true => match tOper P o fr σ its with
      | some outs => bindL outs fun x => tSeq P ops σ rest (putT fr o.dst x.1) x.2
      | none => none
    | false => tSeq P ops σ rest (putT fr o.dst undef) its

abbrev TSelf := Code → List Value → Its → Option (List Leaf)

def tLoop (self : TSelf) (c : Code) : Nat → List Value → Its → Option (List Leaf)
  | 0, _, _ => none
  | n + 1, fr, its => match self c fr its with
    | some outs => bindL outs fun x => match x.1 with
      | .normal => tLoop self c n x.2.1 x.2.2
      | _ => some [x]
    | none => none

def tStep (P : Program) (σ : AW) (n : Nat) (self : TSelf) : TSelf := fun c fr its =>
  match c with
  | .skip | .label _ => some [(.normal, fr, its)]
  | .region _ ops false => match tSeq P ops σ ops.toList fr its with
    | some outs => some (outs.map fun x => (.normal, x.1, x.2))
    | none => none
  | .seq a b => match self a fr its with
    | some outs => bindL outs fun x => match x.1 with
      | .normal => self b x.2.1 x.2.2
      | _ => some [x]
    | none => none
  | .cond c a b => match evOk P c, ev fr c with
    | true, .bool true => self a fr its
    | true, .bool false => self b fr its
    | _, _ => none
  | .block id b => match self b fr its with
    | some outs => some (outs.map fun x => match x.1 with
      | .exit i => match Nat.beq i id with
        | true => (.normal, x.2.1, x.2.2)
        | false => x
      | _ => x)
    | none => none
  | .loop b => tLoop self b n fr its
  | .exit id => some [(.exit id, fr, its)]
  | .ret => some [(.ret, fr, its)]
  | _ => none

noncomputable def tRun (P : Program) (σ : AW) (n d : Nat) : TSelf := Nat.rec (fun _ _ _ => none) (fun _ ih => tStep P σ n ih) d

def sameInt : Value → Value → Bool
  | .int k n, .int k' n' => (k == k') && (n == n')
  | _, _ => false
theorem sameInt_eq {a b : Value} (h : sameInt a b = true) : a = b := by
  unfold sameInt at h
  split at h
  · simp only [Bool.and_eq_true, beq_iff_eq] at h; rw [h.1, h.2]
  · cases h

def leafVal (P : Program) (fn : Func) (σ : AW) (x : Leaf) : Option Value :=
  match x.1 with
  | .exit _ => none
  | _ => match aRes P x.2.1 (tW σ x.2.2) fn.results.toList with
    | some [v] => some v
    | _ => none

/-- A call whose ways all end in one integer. -/
noncomputable def tCall (P : Program) (n d : Nat) (f : FuncId) (args : List Value) (σ : AW) : Out :=
  match P.funcs[f]? with
  | some fn => match fn.body with
    | some c => match codeOk c, tRun P σ n d c (args ++ List.replicate (fn.ntmps - args.length) undef) [] with
      | true, some (x :: outs) => match leafVal P fn σ x with
        | some v => match (x :: outs).all (fun y => match leafVal P fn σ y with | some u => sameInt v u | none => false) && Nat.ble σ.next INF with
          | true => ret v
          | false => none
        | none => none
      | _, _ => none
    | none => none
  | none => none

theorem bindL_mem {α β : Type} {f : α → Option (List β)} : ∀ {l : List α} {r : List β}, bindL l f = some r → ∀ x ∈ l, ∃ s, f x = some s ∧ ∀ y ∈ s, y ∈ r
  | [], r, e, x, hx => by cases hx
  | a :: l, r, e, x, hx => by
    simp only [bindL] at e
    split at e <;> try contradiction
    rename_i s1 s2 h1 h2
    cases e
    rcases List.mem_cons.1 hx with rfl | hx
    · exact ⟨s1, h1, fun y hy => List.mem_append_left _ hy⟩
    · obtain ⟨s, hs, hm⟩ := bindL_mem h2 x hx
      exact ⟨s, hs, fun y hy => List.mem_append_right _ (hm y hy)⟩

variable {P : Program} {w0 wE : World} {σ : AW} {ι0 : Inj}

def tInj (ι0 : Inj) (σ : AW) (rs : List Nat) : Inj := fun i => if i < σ.next then ι0 i else (rs[i - σ.next]?).map fun r => ⟨r, 0, 0, 0⟩

def bornAt (es : Array MapEntry) (i : Nat) : Nat := ((es[i]?).map (·.born)).getD 0

/-- How an iterator lies there. -/
def ItOk (P : Program) (σ : AW) (ι0 : Inj) (wE w : World) (m : Nat) (seen : List Nat) (r : Nat) : Prop :=
  wE.heap.size ≤ r ∧ r < w.heap.size ∧ ∃ p es es' clock, σ.get m = some (.map es) ∧ ι0 m = some p ∧ wE.heap[p.block]? = some (.map es' clock) ∧ es.length = es'.size ∧
    (∀ (i : Nat) (e : Value × Value) (e' : MapEntry), es[i]? = some e → es'[i]? = some e' → e'.key = e.1 ∧ VRel ι0 e.2 e'.val) ∧ Born es'.toList clock ∧
    (∀ i ∈ seen, i < es.length) ∧ w.heap[r]? = some (.mapIter (some p.block) clock (seen.map (bornAt es')).toArray clock)

structure TInv (P : Program) (σ : AW) (ι0 : Inj) (wE : World) (its : Its) (rs : List Nat) (w : World) : Prop where
  hb : Below wE.heap.size wE w
  len : rs.length = its.length
  nodup : rs.Nodup
  lim : σ.next + its.length ≤ INF
  ok : ∀ (j m : Nat) (seen : List Nat) (r : Nat), its[j]? = some (m, seen) → rs[j]? = some r → ItOk P σ ι0 wE w m seen r

theorem tInj_le (h : Rel P w0 σ ι0 wE) (rs : List Nat) : ι0.le (tInj ι0 σ rs) := fun i p e => by
  unfold tInj; rw [if_pos (h.dom i p e)]; exact e
theorem tInj_at (ι0 : Inj) (σ : AW) {rs : List Nat} {j r : Nat} (h : rs[j]? = some r) : tInj ι0 σ rs (σ.next + j) = some ⟨r, 0, 0, 0⟩ := by
  unfold tInj
  rw [if_neg (by omega), Nat.add_sub_cancel_left, h]; rfl

theorem TInv.rel (h0 : Rel P w0 σ ι0 wE) {its : Its} {rs : List Nat} {w : World} (h : TInv P σ ι0 wE its rs w) : Rel P w0 (tW σ its) (tInj ι0 σ rs) w where
  below := h0.below.trans (h.hb.mono h0.below.size)
  glob := fun g hg => by
    obtain ⟨p, hp, e⟩ := h0.glob g hg
    exact ⟨p, tInj_le h0 rs _ _ hp, e⟩
  blk := fun i b e => by
    obtain ⟨p, hp, r⟩ := h0.blk i b e
    exact ⟨p, tInj_le h0 rs _ _ hp, (r.mono (tInj_le h0 rs)).heap (h.hb.block _ r.lt)⟩
  inj := fun i j bi bj pi pj ei ri ej hi hj hbl => by
    have e1 : ι0 i = some pi := by
      have : i < σ.next := h0.lt ei
      unfold tInj at hi; rw [if_pos this] at hi; exact hi
    have e2 : ι0 j = some pj := by
      have : j < σ.next := h0.lt ej
      unfold tInj at hj; rw [if_pos this] at hj; exact hj
    exact h0.inj i j bi bj pi pj ei ri ej e1 e2 hbl
  dom := fun i p e => by
    show i < σ.next + its.length
    unfold tInj at e
    split at e
    · omega
    · cases hr : rs[i - σ.next]? with
      | none => rw [hr] at e; cases e
      | some r =>
        obtain ⟨hlt, _⟩ := List.getElem?_eq_some_iff.1 hr
        have := h.len
        omega

/-- What a way leaves. -/
def TPost (P : Program) (σ : AW) (ι0 : Inj) (wE : World) (x : Leaf) (e : Exit) (a : Act) (w' : World) : Prop :=
  e = exOf x.1 ∧ a.defers = [] ∧ ∃ rs, TInv P σ ι0 wE x.2.2 rs w' ∧ LRel (tInj ι0 σ rs) x.2.1 a.tmps.toList

def TSelfSound (P : Program) (w0 : World) (σ : AW) (ι0 : Inj) (wE : World) (self : TSelf) : Prop :=
  ∀ c fr its outs, self c fr its = some outs → ∀ rs w (a : Act), TInv P σ ι0 wE its rs w → LRel (tInj ι0 σ rs) fr a.tmps.toList → a.defers = [] →
    Code.wp P c (fun e a w => ∃ x ∈ outs, TPost P σ ι0 wE x e a w) a w

theorem noSelf_sound : SelfSound P w0 noSelf := fun c _ fr σ ex fr' σ' e => by cases e
theorem none_sound : SumsSound P w0 (fun _ => none) := fun f s h => by cases h

end Go.Ai

/- The run that goes every way is sound. -/
namespace Go.Ai
open Go.RowKit
open Go.ChangeMaps (setBlock)
variable {P : Program} {w0 wE w : World} {σ : AW} {ι0 : Inj} {its : Its} {rs : List Nat}

theorem ItOk.mono {w' : World} {m r : Nat} {seen : List Nat} (h : ItOk P σ ι0 wE w m seen r) (hs : w.heap.size ≤ w'.heap.size) (hr : w'.heap[r]? = w.heap[r]?) : ItOk P σ ι0 wE w' m seen r := by
  obtain ⟨h1, h2, p, es, es', ck, a1, a2, a3, a4, a5, a6, a7, a8⟩ := h
  exact ⟨h1, by omega, p, es, es', ck, a1, a2, a3, a4, a5, a6, a7, by rw [hr]; exact a8⟩

theorem TInv.grow {w' : World} (h : TInv P σ ι0 wE its rs w) (hw : Below w.heap.size w w') : TInv P σ ι0 wE its rs w' where
  hb := h.hb.trans (hw.mono h.hb.size)
  len := h.len
  nodup := h.nodup
  lim := h.lim
  ok := fun j m seen r e1 e2 => by
    have := h.ok j m seen r e1 e2
    exact this.mono hw.size (hw.block r this.2.1)

theorem TInv.start (h0 : Rel P w0 σ ι0 wE) (hl : σ.next ≤ INF) : TInv P σ ι0 wE [] [] wE :=
  ⟨Below.refl _ _, rfl, List.nodup_nil, by simpa using hl, fun j m seen r e => by simp at e⟩

theorem mapAt_some {m : Nat} {es : List (Value × Value)} (h : mapAt σ m = some es) : σ.get m = some (.map es) := by
  unfold mapAt at h
  split at h
  · rename_i e; cases h; exact e
  · cases h

theorem itOf_some {v : Value} {j m : Nat} {seen : List Nat} {es : List (Value × Value)} (h : itOf σ its v = some (j, m, seen, es)) : v = .pointer (some ⟨σ.next + j, 0, none⟩) ∧ its[j]? = some (m, seen) ∧ σ.get m = some (.map es) := by
  unfold itOf at h
  split at h <;> try contradiction
  split at h <;> try contradiction
  rename_i r hr
  split at h <;> try contradiction
  rename_i m' seen' hi
  split at h <;> try contradiction
  rename_i es' he
  cases h
  refine ⟨?_, hi, mapAt_some he⟩
  have := ble_le hr
  rw [Nat.add_sub_cancel' this]

/-- The iterator as the machine has it. -/
theorem it_at (hi : TInv P σ ι0 wE its rs w) {v v' : Value} {j m : Nat} {seen : List Nat} {es : List (Value × Value)} (e : itOf σ its v = some (j, m, seen, es)) (hv : VRel (tInj ι0 σ rs) v v') :
    ∃ r, rs[j]? = some r ∧ v' = .pointer (some ⟨r, 0, none⟩) ∧ its[j]? = some (m, seen) ∧ σ.get m = some (.map es) ∧ ItOk P σ ι0 wE w m seen r := by
  obtain ⟨rfl, h1, h2⟩ := itOf_some e
  obtain ⟨hlt, _⟩ := List.getElem?_eq_some_iff.1 h1
  have hr : rs[j]? = some (rs[j]'(by have := hi.len; omega)) := List.getElem?_eq_getElem _
  refine ⟨_, hr, ?_, h1, h2, hi.ok j m seen _ h1 hr⟩
  cases hv with
  | ptr a o p hp =>
    rw [tInj_at ι0 σ hr] at hp
    cases hp
    rfl

theorem TInv.range (hi : TInv P σ ι0 wE its rs w) {m : Nat} {p : Pl} {es : List (Value × Value)} {es' : Array MapEntry} {clock : Nat} (hl : σ.next + its.length + 1 ≤ INF) (h1 : σ.get m = some (.map es)) (h2 : ι0 m = some p) (h3 : wE.heap[p.block]? = some (.map es' clock)) (h4 : es.length = es'.size)
    (h5 : ∀ (i : Nat) (e : Value × Value) (e' : MapEntry), es[i]? = some e → es'[i]? = some e' → e'.key = e.1 ∧ VRel ι0 e.2 e'.val) (h6 : Born es'.toList clock) :
    TInv P σ ι0 wE (its ++ [(m, [])]) (rs ++ [w.heap.size]) (w.alloc (.mapIter (some p.block) clock #[] clock)) := by
  have hbl : Below w.heap.size w (w.alloc (.mapIter (some p.block) clock #[] clock)) := (Below.refl _ w).alloc (Nat.le_refl _) _
  refine ⟨hi.hb.trans (hbl.mono hi.hb.size), by simp [hi.len], ?_, by simp; omega, fun j m' seen r e1 e2 => ?_⟩
  · rw [List.nodup_append]
    refine ⟨hi.nodup, by simp, fun x hx y hy => ?_⟩
    simp only [List.mem_singleton] at hy
    subst hy
    obtain ⟨j, hj⟩ := List.mem_iff_getElem?.1 hx
    obtain ⟨hlt, _⟩ := List.getElem?_eq_some_iff.1 hj
    have hit : its[j]? = some (its[j]'(by have := hi.len; omega)) := List.getElem?_eq_getElem _
    have := (hi.ok j _ _ x hit hj).2.1
    omega
  · by_cases hj : j < its.length
    · rw [List.getElem?_append_left hj] at e1
      rw [List.getElem?_append_left (by have := hi.len; omega)] at e2
      have := hi.ok j m' seen r e1 e2
      exact this.mono hbl.size (hbl.block r this.2.1)
    · obtain ⟨hlt, _⟩ := List.getElem?_eq_some_iff.1 e1
      have hje : j = its.length := by simp at hlt; omega
      subst hje
      simp at e1
      obtain ⟨rfl, rfl⟩ := e1
      rw [← hi.len] at e2
      simp at e2
      subst e2
      refine ⟨hi.hb.size, by show w.heap.size < (w.heap.push _).size; simp, p, es, es', clock, h1, h2, h3, h4, h5, h6, by simp, ?_⟩
      exact heap_alloc_new w _

theorem heap_set_at {r : Nat} {o : Obj} (h : r < w.heap.size) : (setBlock w r o).heap[r]? = some o := by
  simp [setBlock, Array.getElem?_setIfInBounds, h]
theorem heap_set_ne {r k : Nat} {o : Obj} (h : k ≠ r) : (setBlock w r o).heap[k]? = w.heap[k]? := by
  simp only [setBlock]
  rw [Array.getElem?_setIfInBounds]
  rw [if_neg (fun e => h e.symm)]

theorem TInv.next (hi : TInv P σ ι0 wE its rs w) {j m i r : Nat} {seen : List Nat} (e1 : its[j]? = some (m, seen)) (e2 : rs[j]? = some r) {p : Pl} {es : List (Value × Value)} {es' : Array MapEntry} {clock : Nat} (h1 : σ.get m = some (.map es)) (h2 : ι0 m = some p) (h3 : wE.heap[p.block]? = some (.map es' clock)) (h4 : es.length = es'.size)
    (h5 : ∀ (i : Nat) (e : Value × Value) (e' : MapEntry), es[i]? = some e → es'[i]? = some e' → e'.key = e.1 ∧ VRel ι0 e.2 e'.val) (h6 : Born es'.toList clock) (h7 : ∀ i ∈ seen, i < es.length) (hlt : i < es.length) {w1 : World} (hw1 : w1 = w ∨ w1 = w.drew) :
    TInv P σ ι0 wE (its.set j (m, seen ++ [i])) rs (setBlock w1 r (.mapIter (some p.block) clock ((seen.map (bornAt es')).toArray.push (bornAt es' i)) clock)) := by
  have hr := (hi.ok j m seen r e1 e2)
  have hh : w1.heap = w.heap := by rcases hw1 with rfl | rfl <;> rfl
  have hsz : w1.heap.size = w.heap.size := by rw [hh]
  have hb1 : Below wE.heap.size wE w1 := by
    rcases hw1 with rfl | rfl
    · exact hi.hb
    · exact hi.hb.drew
  refine ⟨⟨hb1.os, hb1.tape, hb1.output, ?_, fun k hk => ?_⟩, by simp [hi.len], hi.nodup, by simpa using hi.lim, fun j' m' seen' r' d1 d2 => ?_⟩
  · simp only [setBlock, Array.size_setIfInBounds]; exact hb1.size
  · rw [heap_set_ne (by have := hr.1; omega)]; exact hb1.block k hk
  · by_cases hj : j' = j
    · subst hj
      obtain ⟨hjl, _⟩ := List.getElem?_eq_some_iff.1 e1
      rw [List.getElem?_set_self hjl] at d1
      cases d1
      rw [e2] at d2
      cases d2
      refine ⟨hr.1, by simp only [setBlock, Array.size_setIfInBounds]; rw [hsz]; exact hr.2.1, p, es, es', clock, h1, h2, h3, h4, h5, h6, ?_, ?_⟩
      · intro x hx
        rcases List.mem_append.1 hx with hx | hx
        · exact h7 x hx
        · simp at hx; subst hx; exact hlt
      · rw [heap_set_at (by rw [hsz]; exact hr.2.1)]
        simp
    · rw [List.getElem?_set_ne (fun e => hj e.symm)] at d1
      have := hi.ok j' m' seen' r' d1 d2
      refine this.mono (by simp only [setBlock, Array.size_setIfInBounds]; omega) ?_
      rw [heap_set_ne, hh]
      intro e
      subst e
      obtain ⟨hl1, he1⟩ := List.getElem?_eq_some_iff.1 d2
      obtain ⟨hl2, he2⟩ := List.getElem?_eq_some_iff.1 e2
      exact hj ((List.getElem_inj (h₀ := hl1) (h₁ := hl2) hi.nodup).1 (by rw [he1, he2]))

theorem mem_unseen {n i : Nat} {seen : List Nat} (h1 : i < n) (h2 : i ∉ seen) : i ∈ unseen n seen := by
  unfold unseen
  rw [List.mem_filter]
  exact ⟨List.mem_range.2 h1, by simpa using h2⟩

/-- What is left. -/
theorem left_of {es' : Array MapEntry} {seen : List Nat} {e : MapEntry} (h : e ∈ (leftOf es' (seen.map (bornAt es')).toArray).toList) : ∃ i, es'[i]? = some e ∧ i ∉ seen ∧ bornAt es' i = e.born := by
  simp only [leftOf, Array.toList_filter, List.mem_filter, Array.mem_toList_iff] at h
  obtain ⟨h1, h2⟩ := h
  obtain ⟨i, hi⟩ := Array.mem_iff_getElem?.1 h1
  have hb : bornAt es' i = e.born := by unfold bornAt; rw [hi]; rfl
  refine ⟨i, hi, fun hs => ?_, hb⟩
  simp only [Bool.not_eq_true', List.contains_toArray, List.contains_eq_mem, decide_eq_false_iff_not, List.mem_map, not_exists, not_and] at h2
  exact h2 i hs hb

theorem of_left {es' : Array MapEntry} {seen : List Nat} (hn : (es'.toList.map (·.born)).Nodup) (hs : ∀ i ∈ seen, i < es'.size) (h : (leftOf es' (seen.map (bornAt es')).toArray).size = 0) : unseen es'.size seen = [] := by
  rw [List.eq_nil_iff_forall_not_mem]
  intro i hi
  unfold unseen at hi
  rw [List.mem_filter] at hi
  have hlt := List.mem_range.1 hi.1
  have hne : i ∉ seen := by simpa using hi.2
  have hm : es'[i] ∈ (leftOf es' (seen.map (bornAt es')).toArray).toList := by
    simp only [leftOf, Array.toList_filter, List.mem_filter, Array.mem_toList_iff]
    refine ⟨Array.getElem_mem hlt, ?_⟩
    simp only [Bool.not_eq_true', List.contains_toArray, List.contains_eq_mem, decide_eq_false_iff_not, List.mem_map, not_exists, not_and]
    intro k hk hb
    have hkl := hs k hk
    have hbk : bornAt es' k = es'[k].born := by unfold bornAt; rw [Array.getElem?_eq_getElem hkl]; rfl
    rw [hbk] at hb
    have : k = i := (List.getElem_inj (xs := es'.toList.map (·.born)) (h₀ := by simpa using hkl) (h₁ := by simpa using hlt) hn).1 (by simpa using hb)
    exact hne (this ▸ hk)
  have : (leftOf es' (seen.map (bornAt es')).toArray).toList.length = 0 := by simpa using h
  rw [List.length_eq_zero_iff] at this
  rw [this] at hm
  cases hm

theorem outAt_some {j m i : Nat} {seen : List Nat} {es : List (Value × Value)} {s : List (Value × Its)} (h : outAt its j m seen es i = some s) : ∃ e, es[i]? = some e ∧ gr e.1 = true ∧ s = [(.tuple #[.bool true, e.1, e.2], its.set j (m, seen ++ [i]))] := by
  unfold outAt at h
  split at h <;> try contradiction
  rename_i e he
  split at h <;> try contradiction
  rename_i hg
  cases h
  exact ⟨e, he, hg, rfl⟩

theorem VRel.tup {ι : Inj} {l l' : List Value} (h : LRel ι l l') : VRel ι (.tuple l.toArray) (.tuple l'.toArray) :=
  .tuple _ _ (by simpa using h.1) (fun i a b p q => h.2 i a b (by simpa using p) (by simpa using q))

theorem tOper_wp (hN : ProgOk P) (h0 : Rel P w0 σ ι0 wE) (hi : TInv P σ ι0 wE its rs w) {fr : List Value} {a : Act} (hfr : LRel (tInj ι0 σ rs) fr a.tmps.toList) {o : Oper} {outs : List (Value × Its)} (e : tOper P o fr σ its = some outs)
    {K : Act → World → Prop} {Q : Exit → Act → World → Prop} (hK : ∀ x ∈ outs, ∀ v' w' rs', TInv P σ ι0 wE x.2 rs' w' → (tInj ι0 σ rs).le (tInj ι0 σ rs') → VRel (tInj ι0 σ rs') x.1 v' → K (a.put o.dst v') w') : o.wp P a w K Q := by
  have hrel := hi.rel h0
  obtain ⟨dst, op, type, pos, after, guard⟩ := o
  have other : (match aOper P (fun _ => none) noSelf ⟨dst, op, type, pos, after, guard⟩ fr (tW σ its) with | some (v, none) => some [(v, its)] | _ => none) = some outs → (⟨dst, op, type, pos, after, guard⟩ : Oper).wp P a w K Q := by
    intro e
    split at e <;> try contradiction
    rename_i v ho
    cases e
    refine aOper_wp hN noSelf_sound none_sound hrel (XRel.of hrel hfr (aOper_ok ho)) ho fun v' w' ι' hs hv => ?_
    have hcl : Below w.heap.size w w' := Step.clean hs hrel (by show σ.next + its.length ≤ INF; exact hi.lim)
    refine hK _ (List.mem_singleton.2 rfl) v' w' rs (hi.grow hcl) (Inj.le.refl _) (hv.mono fun i p hp => ?_)
    have hlt : i < (tW σ its).next := hs.rel.dom i p hp
    rw [← hs.same i hlt]; exact hp
  unfold tOper at e
  split at e
  · rename_i t x hop
    simp only at hop
    subst hop
    split at e <;> try contradiction
    rename_i kt et m hok hu hx
    split at e <;> try contradiction
    rename_i es hm hl
    cases e
    have hv := ev_rel hrel hfr hok
    rw [hx] at hv
    have hg := mapAt_some hm
    obtain ⟨p, hp, es', ck, b1, b2, b3, b4, b5⟩ := h0.blk m _ hg
    have hav : a.eval x = .map (some p.block) := by
      generalize a.eval x = xv at hv
      cases hv with
      | map a' p' hp' =>
        have : p' = p := Option.some.inj (hp'.symm.trans (tInj_le h0 rs _ _ hp))
        rw [this]
    have hbw : w.heap[p.block]? = some (.map es' ck) := by
      obtain ⟨hlt, _⟩ := Array.getElem?_eq_some_iff.1 b1
      rw [hi.hb.block _ hlt]; exact b1
    have hrun : (Instr.range t (.map (some p.block))).run P w = .ok (.pointer (some ⟨w.heap.size, 0, none⟩)) (w.alloc (.mapIter (some p.block) ck #[] ck)) := by
      simp only [Instr.range, Sem.run_bind, run_underlying hu, Result.andThen_ok, getObj, Sem.run, hbw, newObj]
      rfl
    unfold Oper.wp
    simp only [execOp, hav, Sem.run_bind, hrun, Result.andThen_ok, Sem.run_pure]
    refine hK _ (List.mem_singleton.2 rfl) _ _ (rs ++ [w.heap.size]) (hi.range (ble_le hl) hg hp b1 b2 b3 b5) ?_ ?_
    · intro i q hq
      unfold tInj at hq ⊢
      split
      · rename_i hlt; rw [if_pos hlt] at hq; exact hq
      · rename_i hlt
        rw [if_neg hlt] at hq
        cases hr : rs[i - σ.next]? with
        | none => rw [hr] at hq; cases hq
        | some r =>
          obtain ⟨hl', _⟩ := List.getElem?_eq_some_iff.1 hr
          rw [List.getElem?_append_left hl']; exact hq
    · have : (rs ++ [w.heap.size])[its.length]? = some w.heap.size := by rw [← hi.len]; simp
      have := VRel.ptr (ι := tInj ι0 σ (rs ++ [w.heap.size])) (σ.next + its.length) 0 _ (tInj_at ι0 σ this)
      simpa using this
  · rename_i x hop
    simp only at hop
    subst hop
    split at e <;> try contradiction
    rename_i j m seen es hok hit
    have hv := ev_rel hrel hfr hok
    obtain ⟨r, hrj, hav, hij, hg, hItOk⟩ := it_at hi hit hv
    obtain ⟨c1, c2, p, es1, es', ck, a1, a2, a3, a4, a5, a6, a7, a8⟩ := hItOk
    rw [hg] at a1
    cases a1
    have hbw : w.heap[p.block]? = some (.map es' ck) := by
      obtain ⟨hlt, _⟩ := Array.getElem?_eq_some_iff.1 a3
      rw [hi.hb.block _ hlt]; exact a3
    have key := run_next_at (P := P) w type r p.block ck ck _ es' ck a8 hbw (fun x hx => a6.1 x hx) (Nat.le_refl _)
    unfold Oper.wp
    simp only [execOp, hav, Sem.run_bind]
    rcases key with ⟨hz, hrun⟩ | ⟨en, hen, w1, hw1, hrun⟩
    · have hnil : unseen es.length seen = [] := by rw [a4]; exact of_left a6.2 (fun i hi => by have := a7 i hi; omega) hz
      rw [hnil] at e
      cases e
      rw [hrun]
      simp only [Result.andThen_ok, Sem.run_pure]
      exact hK _ (List.mem_singleton.2 rfl) _ _ rs hi (Inj.le.refl _) (gr_refl _ rfl)
    · obtain ⟨i, hie, hns, hbi⟩ := left_of hen
      have hilt : i < es.length := by
        obtain ⟨hlt, _⟩ := Array.getElem?_eq_some_iff.1 hie
        omega
      have hmem := mem_unseen hilt hns
      have e' : bindL (unseen es.length seen) (outAt its j m seen es) = some outs := by
        split at e
        · rename_i hnil; rw [hnil] at hmem; cases hmem
        · rename_i i0 l hl; rw [hl]; exact e
      obtain ⟨s, hs, hsm⟩ := bindL_mem e' i hmem
      obtain ⟨en0, hen0, hgk, rfl⟩ := outAt_some hs
      obtain ⟨hk, hvv⟩ := a5 i en0 en hen0 hie
      rw [hrun]
      simp only [Result.andThen_ok, Sem.run_pure]
      refine hK _ (hsm _ (List.mem_singleton.2 rfl)) _ _ rs ?_ (Inj.le.refl _) ?_
      · rw [← hbi]
        exact hi.next hij hrj hg a2 a3 a4 a5 a6 a7 hilt hw1
      · exact VRel.tup (LRel.cons (.bool true) (LRel.cons (by rw [hk]; exact gr_refl _ hgk) (LRel.cons (hvv.mono (tInj_le h0 rs)) (LRel.nil _))))
  · rename_i x hop
    simp only at hop
    subst hop
    split at e <;> try contradiction
    rename_i j m seen es hok hit
    split at e <;> try contradiction
    rename_i i hlast
    split at e <;> try contradiction
    rename_i en0 hen0
    split at e <;> try contradiction
    rename_i hgk
    cases e
    have hv := ev_rel hrel hfr hok
    obtain ⟨r, hrj, hav, hij, hg, hItOk⟩ := it_at hi hit hv
    obtain ⟨c1, c2, p, es1, es', ck, a1, a2, a3, a4, a5, a6, a7, a8⟩ := hItOk
    rw [hg] at a1
    cases a1
    have hbw : w.heap[p.block]? = some (.map es' ck) := by
      obtain ⟨hlt, _⟩ := Array.getElem?_eq_some_iff.1 a3
      rw [hi.hb.block _ hlt]; exact a3
    obtain ⟨ys, hys⟩ := List.getLast?_eq_some_iff.1 hlast
    have hilt : i < es'.size := by have := a7 i (by rw [hys]; simp); omega
    have hbi : bornAt es' i = es'[i].born := by unfold bornAt; rw [Array.getElem?_eq_getElem hilt]; rfl
    have hseen : (seen.map (bornAt es')).toArray = (ys.map (bornAt es')).toArray.push es'[i].born := by rw [hys, ← hbi]; simp
    rw [hseen] at a8
    have hrun := run_entry_at (P := P) w r p.block ck _ es' ck es'[i] a8 hbw (by simp) a6.2
    obtain ⟨hk, hvv⟩ := a5 i en0 es'[i] hen0 (Array.getElem?_eq_getElem hilt)
    unfold Oper.wp
    simp only [execOp, hav, Sem.run_bind, hrun, Result.andThen_ok, Sem.run_pure]
    exact hK _ (List.mem_singleton.2 rfl) _ _ rs hi (Inj.le.refl _) (VRel.tup (LRel.cons (by rw [hk]; exact gr_refl _ hgk) (LRel.cons (hvv.mono (tInj_le h0 rs)) (LRel.nil _))))
  · exact other e

end Go.Ai

/- The run that goes every way is sound: code, calls. -/
namespace Go.Ai
open Go.RowKit
variable {P : Program} {w0 wE w : World} {σ : AW} {ι0 : Inj} {its : Its} {rs : List Nat}

theorem tSeq_sound (hN : ProgOk P) (h0 : Rel P w0 σ ι0 wE) (ops : Array Oper) : ∀ (l : List Oper) (fr : List Value) (its : Its) (outs : List (List Value × Its)), tSeq P ops σ l fr its = some outs →
    ∀ rs w (a : Act) (Q : Exit → Act → World → Prop), (∀ x ∈ outs, ∀ e a1 w1, TPost P σ ι0 wE (.normal, x.1, x.2) e a1 w1 → Q e a1 w1) → TInv P σ ι0 wE its rs w → LRel (tInj ι0 σ rs) fr a.tmps.toList → a.defers = [] → wpList P ops Q l a w
  | [], fr, its, outs, e, rs, w, a, Q, hQ, hi, hfr, hd => by
    simp only [tSeq] at e; cases e
    exact hQ _ (List.mem_singleton.2 rfl) _ _ _ ⟨rfl, hd, rs, hi, hfr⟩
  | o :: rest, fr, its, outs, e, rs, w, a, Q, hQ, hi, hfr, hd => by
    simp only [tSeq] at e
    unfold wpList
    rw [yielded_eq hfr ops]
    split at e
    · rename_i hw
      rw [if_pos hw]
      split at e <;> try contradiction
      rename_i outs1 ho
      refine .inl (tOper_wp hN h0 hi hfr ho fun x hx v' w' rs' hi' hle hv => ?_)
      obtain ⟨s, hs, hm⟩ := bindL_mem e x hx
      exact tSeq_sound hN h0 ops rest _ _ _ hs rs' w' (a.put o.dst v') Q (fun y hy => hQ y (hm y hy)) hi' (putT_rel (hfr.mono hle) o.dst hv) (by rw [put_defers]; exact hd)
    · rename_i hw
      rw [if_neg (by rw [hw]; simp)]
      exact tSeq_sound hN h0 ops rest _ _ _ e rs w (a.put o.dst undef) Q hQ hi (putT_rel hfr o.dst (VRel.undef _)) (by rw [put_defers]; exact hd)

theorem tLoop_sound {self : TSelf} (hself : TSelfSound P w0 σ ι0 wE self) {c : Code} : ∀ (n : Nat) (fr : List Value) (its : Its) (outs : List Leaf), tLoop self c n fr its = some outs → (∀ x ∈ outs, x.1 ≠ .normal) ∧
    ∀ rs w (a : Act) (Q : Exit → Act → World → Prop), (∀ x ∈ outs, ∀ e a1 w1, TPost P σ ι0 wE x e a1 w1 → Q e a1 w1) → TInv P σ ι0 wE its rs w → LRel (tInj ι0 σ rs) fr a.tmps.toList → a.defers = [] → Code.rounds P c Q n a w
  | 0, _, _, _, e => by cases e
  | n + 1, fr, its, outs, e => by
    simp only [tLoop] at e
    split at e <;> try contradiction
    rename_i outs1 h1
    refine ⟨fun y hy => ?_, fun rs w a Q hQ hi hfr hd => ?_⟩
    · have : ∀ (l : List Leaf) (r : List Leaf), bindL l (fun x => match x.1 with | .normal => tLoop self c n x.2.1 x.2.2 | _ => some [x]) = some r → ∀ y ∈ r, y.1 ≠ .normal := by
        intro l
        induction l with
        | nil => intro r e y hy; simp only [bindL] at e; cases e; cases hy
        | cons x l ih =>
          intro r e y hy
          simp only [bindL] at e
          split at e <;> try contradiction
          rename_i s1 s2 e1 e2
          cases e
          rcases List.mem_append.1 hy with hy | hy
          · obtain ⟨ex, fr1, its1⟩ := x
            cases ex with
            | normal => exact (tLoop_sound hself n _ _ _ e1).1 y hy
            | exit id => cases e1; rw [List.mem_singleton.1 hy]; simp
            | ret => cases e1; rw [List.mem_singleton.1 hy]; simp
          · exact ih _ e2 y hy
      exact this _ _ e y hy
    · rw [rounds_succ]
      refine wp_mono (hself c fr its _ h1 rs w a hi hfr hd) fun e1 a1 w1 hp => ?_
      obtain ⟨x, hx, he, hd1, rs1, hi1, hfr1⟩ := hp
      obtain ⟨s, hs, hm⟩ := bindL_mem e x hx
      obtain ⟨ex, fr1, its1⟩ := x
      subst he
      cases ex with
      | normal => exact (tLoop_sound hself n _ _ _ hs).2 rs1 w1 a1 Q (fun y hy => hQ y (hm y hy)) hi1 hfr1 hd1
      | exit id => cases hs; exact hQ _ (hm _ (List.mem_singleton.2 rfl)) _ _ _ ⟨rfl, hd1, rs1, hi1, hfr1⟩
      | ret => cases hs; exact hQ _ (hm _ (List.mem_singleton.2 rfl)) _ _ _ ⟨rfl, hd1, rs1, hi1, hfr1⟩

theorem tStep_sound (hN : ProgOk P) (h0 : Rel P w0 σ ι0 wE) (n : Nat) {self : TSelf} (hself : TSelfSound P w0 σ ι0 wE self) : TSelfSound P w0 σ ι0 wE (tStep P σ n self) := by
  intro c fr its outs e rs w a hi hfr hd
  cases c with
  | skip => simp only [tStep] at e; cases e; exact wp_skip ⟨_, List.mem_singleton.2 rfl, rfl, hd, rs, hi, hfr⟩
  | label l => simp only [tStep] at e; cases e; exact wp_label ⟨_, List.mem_singleton.2 rfl, rfl, hd, rs, hi, hfr⟩
  | exit id => simp only [tStep] at e; cases e; exact wp_exit ⟨_, List.mem_singleton.2 rfl, rfl, hd, rs, hi, hfr⟩
  | ret => simp only [tStep] at e; cases e; exact wp_ret ⟨_, List.mem_singleton.2 rfl, rfl, hd, rs, hi, hfr⟩
  | region id ops draw =>
    cases draw with
    | true => simp only [tStep] at e; cases e
    | false =>
      simp only [tStep] at e
      split at e <;> try contradiction
      rename_i outs1 hs
      cases e
      exact wp_region_list (tSeq_sound hN h0 ops ops.toList fr its _ hs rs w a _ (fun x hx e a1 w1 hp => ⟨_, List.mem_map.2 ⟨x, hx, rfl⟩, hp⟩) hi hfr hd)
  | seq x y =>
    simp only [tStep] at e
    split at e <;> try contradiction
    rename_i outs1 h1
    refine wp_seq (wp_mono (hself x _ _ _ h1 rs w a hi hfr hd) fun e1 a1 w1 hp => ?_)
    obtain ⟨l, hl, he, hd1, rs1, hi1, hfr1⟩ := hp
    obtain ⟨s, hs, hm⟩ := bindL_mem e l hl
    obtain ⟨ex, fr1, its1⟩ := l
    subst he
    cases ex with
    | normal => exact wp_mono (hself y _ _ _ hs rs1 w1 a1 hi1 hfr1 hd1) fun e2 a2 w2 ⟨y, hy, hp2⟩ => ⟨y, hm y hy, hp2⟩
    | exit id => cases hs; exact ⟨_, hm _ (List.mem_singleton.2 rfl), rfl, hd1, rs1, hi1, hfr1⟩
    | ret => cases hs; exact ⟨_, hm _ (List.mem_singleton.2 rfl), rfl, hd1, rs1, hi1, hfr1⟩
  | cond c x y =>
    simp only [tStep] at e
    have h := hi.rel h0
    split at e <;> try contradiction
    · rename_i hok hb
      have hv := ev_rel h hfr hok
      rw [hb] at hv
      have hc : a.eval c = .bool true := by generalize a.eval c = cv at hv; cases hv; rfl
      exact wp_cond hc (hself x _ _ _ e rs w a hi hfr hd)
    · rename_i hok hb
      have hv := ev_rel h hfr hok
      rw [hb] at hv
      have hc : a.eval c = .bool false := by generalize a.eval c = cv at hv; cases hv; rfl
      exact wp_cond hc (hself y _ _ _ e rs w a hi hfr hd)
  | block id b =>
    simp only [tStep] at e
    split at e <;> try contradiction
    rename_i outs1 h1
    cases e
    refine wp_block (wp_mono (hself b _ _ _ h1 rs w a hi hfr hd) fun e1 a1 w1 hp => ?_)
    obtain ⟨l, hl, he, hd1, rs1, hi1, hfr1⟩ := hp
    obtain ⟨ex, fr1, its1⟩ := l
    subst he
    cases ex with
    | normal => exact ⟨_, List.mem_map.2 ⟨_, hl, rfl⟩, rfl, hd1, rs1, hi1, hfr1⟩
    | ret => exact ⟨_, List.mem_map.2 ⟨_, hl, rfl⟩, rfl, hd1, rs1, hi1, hfr1⟩
    | exit i =>
      simp only [exOf, Exit.inBlock]
      split
      · rename_i hii
        refine ⟨(.normal, fr1, its1), List.mem_map.2 ⟨_, hl, ?_⟩, rfl, hd1, rs1, hi1, hfr1⟩
        simp only [beq_yes hii]
      · rename_i hii
        refine ⟨(.exit i, fr1, its1), List.mem_map.2 ⟨_, hl, ?_⟩, rfl, hd1, rs1, hi1, hfr1⟩
        simp only [beq_no hii]
  | loop b =>
    simp only [tStep] at e
    exact wp_loop_rounds n ((tLoop_sound hself n fr its outs e).2 rs w a _ (fun x hx e a1 w1 hp => ⟨x, hx, hp⟩) hi hfr hd)
  | scope b => cases e
  | rangeFunc => cases e
  | goto => cases e
  | refuse => cases e

theorem tRun_sound (hN : ProgOk P) (h0 : Rel P w0 σ ι0 wE) (n : Nat) : ∀ d, TSelfSound P w0 σ ι0 wE (tRun P σ n d)
  | 0 => fun c fr its outs e => by cases e
  | d + 1 => tStep_sound hN h0 n (tRun_sound hN h0 n d)

theorem tCall_sound (hN : ProgOk P) {n d : Nat} {f : FuncId} {args args' : List Value} {r : Value × Option AW} (e : tCall P n d f args σ = some r) (h : Rel P w0 σ ι0 wE) (ha : LRel ι0 args args') :
    Calls P f args'.toArray wE (CPost P w0 σ ι0 wE r) := by
  unfold tCall at e
  split at e <;> try contradiction
  rename_i fn hf
  split at e <;> try contradiction
  rename_i c hc
  split at e <;> try contradiction
  rename_i x outs hck hrun
  split at e <;> try contradiction
  rename_i v hv
  split at e <;> try contradiction
  rename_i hall
  have e := ret_eq e; subst e
  simp only [Bool.and_eq_true] at hall
  have hstart := TInv.start h (ble_le hall.2)
  have hin : tInj ι0 σ [] = ι0 := by
    funext i
    unfold tInj
    split
    · rfl
    · cases hi : ι0 i with
      | none => rfl
      | some p => have := h.dom i p hi; omega
  have hfr0 : LRel ι0 (args ++ List.replicate (fn.ntmps - args.length) undef) (args'.toArray ++ Array.replicate (fn.ntmps - args'.toArray.size) undef).toList := by
    simp only [Array.toList_append, Array.toList_replicate, List.size_toArray, ← ha.1]
    refine ha.append ⟨rfl, fun i x x' p q => ?_⟩
    rw [p] at q; cases q
    have := List.mem_of_getElem? p
    rw [List.eq_of_mem_replicate this]; exact VRel.undef _
  have hwp := tRun_sound hN h n d c _ _ _ hrun [] wE { tmps := args'.toArray ++ Array.replicate (fn.ntmps - args'.toArray.size) undef, defers := [] } hstart (by rw [hin]; exact hfr0) rfl
  refine calls_of_wp hf hc (wp_mono hwp fun e1 a1 w1 hp => ?_)
  obtain ⟨l, hl, he, hd1, rs, hi, hfr⟩ := hp
  have hlv := List.all_eq_true.1 hall.1 l hl
  split at hlv <;> try contradiction
  rename_i u hu
  have huv := sameInt_eq hlv
  subst huv
  have hgr : gr v = true := by
    unfold sameInt at hlv
    split at hlv
    · rfl
    · cases hlv
  unfold leafVal at hu
  split at hu <;> try contradiction
  rename_i hne
  split at hu <;> try contradiction
  rename_i v1 hres
  cases hu
  obtain ⟨v', hv', hvr⟩ := results_spec (hi.rel h) hfr hres
  have hv2 : v' = v := gr_eq hvr hgr
  subst hv2
  have key : CPost P w0 σ ι0 wE (v', none) (.returned v') w1 := ⟨v', ι0, rfl, Step.grow h hi.hb, gr_refl _ hgr⟩
  obtain ⟨ex, fr1, its1⟩ := l
  subst he
  cases ex with
  | normal => exact ⟨hd1, v', hv', key⟩
  | ret => exact ⟨hd1, v', hv', key⟩
  | exit id => exact (hne id rfl).elim

end Go.Ai

/- slices.Sorted(maps.Keys(m)) at a map whose keys are strings: the contract of the library's function as a summary for the interpreter. -/
namespace Go.Ai
open Go.RowKit Go.Maps
open Go.Proofs (encStr)
open Go.WideElems (Fit rg rd rd_mk rg_of)
variable {P : Program} {w0 w : World} {σ : AW} {ι : Inj}

/-- The contract: function fS at what maps.Keys handed back (over its function g). -/
def SortsKeys (P : Program) (fS g : FuncId) (kT : TypeId) : Prop :=
  ∀ (w : World) (bx b nn : Nat) (D0 : DataW Unit), bx < w.heap.size → w.cell? ⟨bx, 0, none⟩ = some (.map (some b)) → w.ownsMap P kT (fun _ => some (.nil, [])) b nn D0 → Maps.size D0 ≤ maxLen → Maps.size D0 * 16 ≤ 140737488355328 →
    Calls P fS #[.func (.func g) #[] #[.pointer (some ⟨bx, 0, none⟩)]] w fun e w' => ∃ (v : Value) (ss : List (List UInt8)), e = .returned v ∧ ss.Perm (strKeys D0) ∧
      w'.ownsRow w.heap.size kT 1 v ss.length ((ss.mergeSort leB).map encStr) ∧ (v = .slice none 0 0 ↔ ss = []) ∧ Below w.heap.size w w'

def keyBs : List (Value × Value) → Option (List (List UInt8))
  | [] => some []
  | (.string s, _) :: r => match Nat.ble s.size (2 ^ 20), keyBs r with
    | true, some l => some (s.data.toList :: l)
    | _, _ => none
  | _ => none
def insB (x : List UInt8) : List (List UInt8) → List (List UInt8)
  | [] => [x]
  | y :: r => match leB x y with
    | true => x :: y :: r
    | false => y :: insB x r
def sortB : List (List UInt8) → List (List UInt8)
  | [] => []
  | x :: r => insB x (sortB r)
def allLe : List (List UInt8) → Bool
  | [] => true
  | x :: r => r.all (fun y => leB x y && !(x == y)) && allLe r
def isStr : Option TypeDesc → Bool
  | some .string => true
  | _ => false

/-- The summary. -/
def sortSum (P : Program) (g : FuncId) (kT : TypeId) (args : List Value) (σ : AW) : Out :=
  match args with
  | [.func (.func h) f c] => match Nat.beq h g, f.toList, c.toList with
    | true, [], [.pointer (some ⟨bx, 0, none⟩)] => match σ.get bx with
      | some (.cells [.map (some m)] _ false _) => match mapAt σ m with
        | some es => match keyBs es with
          | some ks => match allLe (sortB ks) && Nat.ble es.length (2 ^ 20) && isStr (P.underlying kT), sizeOfT P kT with
            | true, some 1 => match ks with
              | [] => ret (.slice none 0 0)
              | k :: r => some (.slice (some ⟨σ.next, 0, none⟩) (k :: r).length BIG, some (newCells σ kT ((sortB (k :: r)).map encStr) true))
            | _, _ => none
          | none => none
        | none => none
      | _ => none
    | _, _, _ => none
  | _ => none

theorem insB_perm (x : List UInt8) : ∀ l, (insB x l).Perm (x :: l)
  | [] => .refl _
  | y :: r => by
    unfold insB
    split
    · exact .refl _
    · exact ((insB_perm x r).cons y).trans (.swap x y r)
theorem sortB_perm : ∀ l, (sortB l).Perm l
  | [] => .refl _
  | x :: r => (insB_perm x _).trans ((sortB_perm r).cons x)
theorem allLe_spec : ∀ {l : List (List UInt8)}, allLe l = true → l.Pairwise (fun x y => leB x y = true) ∧ l.Nodup
  | [], _ => ⟨.nil, .nil⟩
  | x :: r, h => by
    simp only [allLe, Bool.and_eq_true, List.all_eq_true] at h
    obtain ⟨h1, h2⟩ := allLe_spec h.2
    refine ⟨List.pairwise_cons.2 ⟨fun y hy => (h.1 y hy).1, h1⟩, List.nodup_cons.2 ⟨fun hx => ?_, h2⟩⟩
    have := (h.1 x hx).2
    simp at this
theorem keyBs_spec : ∀ {es : List (Value × Value)} {ks : List (List UInt8)}, keyBs es = some ks → es.map (·.1) = ks.map encStr ∧ ∀ k ∈ ks, k.length ≤ 2 ^ 20
  | [], ks, h => by cases h; exact ⟨rfl, by simp⟩
  | (v, u) :: r, ks, h => by
    unfold keyBs at h
    split at h
    · rename_i e; cases e
    · rename_i s x r' e
      cases e
      split at h <;> try contradiction
      rename_i l hb hl
      cases h
      obtain ⟨h1, h2⟩ := keyBs_spec hl
      refine ⟨by simp [h1, encStr], fun k hk => ?_⟩
      rcases List.mem_cons.1 hk with rfl | hk
      · rw [Array.length_toList]; exact ble_le hb
      · exact h2 k hk
    · cases h

theorem entries_keys {es : List (Value × Value)} {es' : Array MapEntry} (hl : es.length = es'.size) (hr : ∀ (i : Nat) (e : Value × Value) (e' : MapEntry), es[i]? = some e → es'[i]? = some e' → e'.key = e.1 ∧ VRel ι e.2 e'.val) :
    es'.toList.map (·.key) = es.map (·.1) := by
  apply List.ext_getElem?
  intro i
  rw [List.getElem?_map, List.getElem?_map, Array.getElem?_toList]
  by_cases hi : i < es.length
  · have h1 : es[i]? = some es[i] := List.getElem?_eq_getElem hi
    have h2 : es'[i]? = some (es'[i]'(by omega)) := Array.getElem?_eq_getElem (by omega)
    rw [h1, h2]
    simp only [Option.map_some]
    rw [(hr i _ _ h1 h2).1]
  · rw [List.getElem?_eq_none (by omega), Array.getElem?_eq_none (by omega)]
    rfl

theorem encs_inj : ∀ {a b : List (List UInt8)}, a.map encStr = b.map encStr → a = b
  | [], [], _ => rfl
  | [], _ :: _, h => by cases h
  | _ :: _, [], h => by cases h
  | x :: a, y :: b, h => by
    simp only [List.map_cons, List.cons.injEq] at h
    rw [encStr_inj h.1, encs_inj h.2]

theorem sortSum_sound {fS g : FuncId} {kT : TypeId} (hS : SortsKeys P fS g kT) {args args' : List Value} {r : Value × Option AW} (e : sortSum P g kT args σ = some r) (h : Rel P w0 σ ι w) (ha : LRel ι args args') :
    Calls P fS args'.toArray w (CPost P w0 σ ι w r) := by
  unfold sortSum at e
  split at e <;> try contradiction
  rename_i hh f c
  split at e <;> try contradiction
  rename_i bx hg hf hc
  split at e <;> try contradiction
  rename_i m t ro hbx
  split at e <;> try contradiction
  rename_i es hm
  split at e <;> try contradiction
  rename_i ks hks
  split at e <;> try contradiction
  rename_i hok hsz
  simp only [Bool.and_eq_true] at hok
  obtain ⟨⟨hsorted, hlen⟩, hstr⟩ := hok
  have hk : P.underlying kT = some .string := by
    unfold isStr at hstr
    split at hstr
    · assumption
    · cases hstr
  -- the arguments
  obtain ⟨v', t', rfl, hv, ht⟩ := ha.cons_inv
  have := ht.nil_inv
  subst this
  have hg := beq_eq hg
  subst hg
  obtain ⟨p, hp, _⟩ := h.blk bx _ hbx
  have hd := h.flat hbx hp rfl
  obtain ⟨cc, lo, hi, hcc, hcs, hcr, _, _⟩ := h.cells hbx hp
  have hgm := mapAt_some hm
  obtain ⟨q, hq, es', ck, b1, b2, b3, b4, b5⟩ := h.blk m _ hgm
  have hcell : w.cell? ⟨p.block, 0, none⟩ = some (.map (some q.block)) := by
    obtain ⟨x', hx', hxr⟩ := hcr 0 _ rfl
    rw [hd] at hx'
    rw [cell_of hcc]
    simp only [Nat.add_zero] at hx'
    rw [hx']
    cases hxr with
    | map a p' hp' =>
      have : p' = q := Option.some.inj (hp'.symm.trans hq)
      rw [this]
  have hv' : v' = .func (.func hh) #[] #[.pointer (some ⟨p.block, 0, none⟩)] := by
    cases hv with
    | func _ _ f' _ c' hy hs1 hs2 r1 r2 =>
    have hf' : f' = #[] := by
      apply Array.eq_empty_of_size_eq_zero
      rw [← hs1, ← Array.length_toList, hf]; rfl
    have hc1 : c.size = 1 := by rw [← Array.length_toList, hc]; rfl
    have h0 : c[0]? = some (.pointer (some ⟨bx, 0, none⟩)) := by rw [← Array.getElem?_toList, hc]; rfl
    have hlt : 0 < c'.size := by omega
    have h0' : c'[0]? = some c'[0] := Array.getElem?_eq_getElem hlt
    have hr := r2 0 _ _ h0 h0'
    have hce : c' = #[c'[0]] := by
      apply Array.ext
      · simp; omega
      · intro i h1 h2
        have : i = 0 := by simp at h2; omega
        subst this; simp
    subst hf'
    rw [hce]
    have : c'[0] = .pointer (some ⟨p.block, 0, none⟩) := by
      generalize c'[0] = x at hr
      cases hr with
      | ptr a o p' hp' =>
        have : p' = p := Option.some.inj (hp'.symm.trans hp)
        rw [this, hd]
    rw [this]
  subst hv'
  -- the map's reading
  obtain ⟨hkeys, hkl⟩ := keyBs_spec hks
  have hkeys' := (entries_keys b2 b3).trans hkeys
  obtain ⟨hpair, hnd⟩ := allLe_spec hsorted
  have hnd' : ks.Nodup := ((sortB_perm ks).nodup_iff).1 hnd
  have hreads : ∀ x ∈ es'.toList, ∃ k ∈ ks, x.key = encStr k ∧ rd (H := Unit) P kT (fun _ => some (.nil, [])) x = some (.string k, .nil) := by
    intro x hx
    have hxk : x.key ∈ ks.map encStr := by rw [← hkeys']; exact List.mem_map.2 ⟨x, hx, rfl⟩
    obtain ⟨k, hkm, hke⟩ := List.mem_map.1 hxk
    refine ⟨k, hkm, hke.symm, ?_⟩
    have : keyOf P kT x.key = some (.string k) := by
      rw [← hke]
      have hkl1 := hkl k hkm
      have hkl2 : (⟨k.toArray⟩ : ByteArray).size ≤ maxLen := by
        show k.toArray.size ≤ maxLen
        rw [List.size_toArray]; unfold maxLen; omega
      simp only [keyOf, hk, mapKey, encStr, hkl2, if_true]
    unfold rd
    rw [this]
    rfl
  have hF : Fit (H := Unit) P kT (fun _ => some (.nil, [])) es' ck := by
    refine ⟨?_, ⟨b5.1, b5.2, ?_⟩, fun x hx => ?_⟩
    · have := ble_le hlen
      rw [← b2]; unfold maxLen; omega
    · rw [hkeys']
      exact List.pairwise_map.2 (hnd'.imp fun hne e => hne (encStr_inj e))
    · obtain ⟨k, _, _, hr⟩ := hreads x hx
      exact ⟨_, hr⟩
  have hrg : (es'.toList.map (rg (H := Unit) P kT (fun _ => some (.nil, [])))).map (fun p => strOf p.1) = ks := by
    apply encs_inj
    rw [← hkeys', List.map_map, List.map_map]
    apply List.map_congr_left
    intro x hx
    obtain ⟨k, _, hke, hr⟩ := hreads x hx
    simp only [Function.comp_apply, rg_of hr, strOf, hke]
  have hperm : (strKeys (.map ((es'.toList.map (rg (H := Unit) P kT (fun _ => some (.nil, [])))).foldr DataW.insert []))).Perm ks := by
    show (((es'.toList.map (rg (H := Unit) P kT (fun _ => some (.nil, [])))).foldr DataW.insert []).map fun p => strOf p.1).Perm ks
    have := (Go.WideShapes.sorted_perm (es'.toList.map (rg (H := Unit) P kT (fun _ => some (.nil, []))))).map (fun p => strOf p.1)
    rw [hrg] at this
    exact this
  have hlk : ks.length = es.length := by have := congrArg List.length hkeys; simpa using this.symm
  have hsize : Maps.size (.map ((es'.toList.map (rg (H := Unit) P kT (fun _ => some (.nil, [])))).foldr DataW.insert [])) = ks.length := by
    rw [← hperm.length_eq]
    simp [strKeys, size_eq]
  have hbl := ble_le hlen
  have hpl : p.block < w.heap.size := by
    obtain ⟨hi, _⟩ := Array.getElem?_eq_some_iff.1 hcc; exact hi
  refine (hS w p.block q.block es'.size _ hpl hcell ⟨es', ck, b1, hF, Nat.le_refl _, rfl⟩ (by rw [hsize]; unfold maxLen; omega) (by rw [hsize]; omega)).mono fun en w' hpost => ?_
  obtain ⟨v, ss, rfl, hss, hrow, hnil, hb⟩ := hpost
  have hss' : ss.Perm ks := hss.trans hperm
  have hms : ss.mergeSort leB = sortB ks := by
    rw [mergeSort_of_perm (hss'.trans (sortB_perm ks).symm)]
    exact List.mergeSort_of_pairwise hpair
  rw [hms] at hrow
  have hrel := h.grow hb
  cases ks with
  | nil =>
    have e := ret_eq e
    subst e
    have : ss = [] := List.Perm.eq_nil hss'
    rw [hnil.2 this]
    exact ⟨_, ι, rfl, Step.grow h hb, .snil _ _⟩
  | cons k r' =>
    cases e
    obtain ⟨hl1, hcase⟩ := hrow
    rcases hcase with ⟨hv0, hn0⟩ | ⟨gb, cap, cur, rfl, hgb, hcur, hcl, hcm, hcsz, htake⟩
    · have : ss = [] := hnil.1 hv0
      rw [this] at hss'
      exact absurd hss'.symm (by simp)
    have hlen2 : ss.length = (k :: r').length := hss'.length_eq
    have hls : (sortB (k :: r')).length = (k :: r').length := (sortB_perm _).length_eq
    have hst := Step.new h (.cells ((sortB (k :: r')).map encStr) kT true false) ⟨gb, 0, cap, 1⟩ hb hgb (by
      refine ⟨cur, 0, 0, hcur, ?_, ?_, ?_, ?_, (fun hx => by cases hx)⟩
      · simp only [List.length_map, hls]
        rw [hcsz]; omega
      · intro o x hx
        have hx2 : (cur.toList.take (ss.length * 1))[o]? = some x := by rw [htake]; exact hx
        rw [List.getElem?_take] at hx2
        split at hx2
        · refine ⟨x, by simpa using hx2, ?_⟩
          rw [List.getElem?_map] at hx
          cases hso : (sortB (k :: r'))[o]? with
          | none => rw [hso] at hx; cases hx
          | some y => rw [hso] at hx; cases hx; exact .string _
        · cases hx2
      · intro _
        exact ⟨by simp [hcsz], by simp, hsz⟩
      · intro _
        exact ⟨Nat.le_trans h.below.size hgb, .inl rfl⟩)
    refine ⟨_, _, rfl, hst, ?_⟩
    have := VRel.loose (ι := ι.ext σ.next ⟨gb, 0, cap, 1⟩) (b := σ.next) (len := (k :: r').length) (q := ⟨gb, 0, cap, 1⟩) (Inj.ext_at _ _ _) (by rw [← hlen2]; exact hcl) (by simp only []; unfold maxLen at hcm; omega)
    rw [hlen2]
    exact this

end Go.Ai

/- Summaries, put together. -/
namespace Go.Ai
variable {P : Program}

def SumOk (P : Program) (w0 : World) (f : FuncId) (s : List Value → AW → Out) : Prop :=
  ∀ args σ r, s args σ = some r → ∀ ι w (args' : List Value), Rel P w0 σ ι w → LRel ι args args' → Calls P f args'.toArray w (CPost P w0 σ ι w r)

def oneOf : List (FuncId × (List Value → AW → Out)) → Sums
  | [], _ => none
  | x :: l, f => match Nat.beq f x.1 with
    | true => some x.2
    | false => oneOf l f

theorem oneOf_sound {w0 : World} : ∀ {l : List (FuncId × (List Value → AW → Out))}, (∀ x ∈ l, SumOk P w0 x.1 x.2) → SumsSound P w0 (oneOf l)
  | [], _, f, s, e => by cases e
  | x :: l, h, f, s, e => by
    unfold oneOf at e
    split at e
    · rename_i hb
      cases e
      rw [beq_eq hb]
      exact h x (by simp)
    · exact oneOf_sound (fun y hy => h y (by simp [hy])) f s e

/-- How many bytes a disk has, and its files in order. -/
noncomputable def diskSums (P : Program) (used sorted g kT : Nat) : Sums := oneOf [(used, tCall P 100 60 used), (sorted, sortSum P g kT)]
theorem diskSums_sound {used sorted g kT : Nat} (hN : progOk P = true) (hS : SortsKeys P sorted g kT) (w0 : World) : SumsSound P w0 (diskSums P used sorted g kT) := by
  refine oneOf_sound fun x hx => ?_
  simp only [List.mem_cons, List.not_mem_nil, or_false] at hx
  rcases hx with rfl | rfl
  · exact fun args σ r e ι w args' h ha => tCall_sound (progOk_spec hN) e h ha
  · exact fun args σ r e ι w args' h ha => sortSum_sound hS e h ha

end Go.Ai
