/- Proved: an executable interpreter of the model's Code over an abstract heap is sound: what it answers for a call, the call comes to, in whatever memory. Conditions: none but what each theorem names. -/
import Derived.Test.YteleocgomdhcfaaAb
import Derived.FnData
import Derived.LaidMore
import Derived.OpenShut
set_option linter.unusedVariables false
set_option linter.unusedSimpArgs false

/- Calls over package-level variables whose cells are known. -/
namespace Go.Ai
open Go.RowKit
variable {P : Program}

def tabMem (ts : Nat → TypeId) : List (Nat × List Value) → Trie
  | [] => .leaf
  | (g, vs) :: r => (tabMem ts r).set g (some (.cells vs (ts g) false true))
def tabW (P : Program) (ts : Nat → TypeId) (l : List (Nat × List Value)) (k : Nat) : AW := ⟨tabMem ts l, P.globals.size + k, INF⟩

/-- The cells of the variables, as the true world has them. -/
def Tabled (P : Program) (w : World) (l : List (Nat × List Value)) : Prop :=
  ∀ g vs, (g, vs) ∈ l → g < P.globals.size ∧ 0 < vs.length ∧ ∀ (i : Nat) (v : Value), vs[i]? = some v → gr v = true ∧ w.cell? ⟨g, i, none⟩ = some v

def typeIn (w : World) (g : Nat) : TypeId := match w.heap[g]? with
  | some (.cells _ t _) => t
  | _ => 0

theorem tabMem_get {ts : Nat → TypeId} : ∀ (l : List (Nat × List Value)) (i : Nat) (b : Blk), (tabMem ts l).get i = some b → ∃ vs, (i, vs) ∈ l ∧ b = .cells vs (ts i) false true
  | [], i, b, e => by cases e
  | (g, vs) :: r, i, b, e => by
    simp only [tabMem, Trie.get_set] at e
    split at e
    · rename_i hi; subst hi; cases e; exact ⟨vs, by simp, rfl⟩
    · obtain ⟨vs', h1, h2⟩ := tabMem_get r i b e
      exact ⟨vs', by simp [h1], h2⟩

theorem tab_rel (w : World) (l : List (Nat × List Value)) (h : Tabled P w l) : Rel P w (tabW P (typeIn w) l 0) (blankInj P) w where
  below := Below.refl _ w
  glob := fun g hg => ⟨⟨g, 0, 0, 0⟩, by unfold blankInj; rw [if_pos hg], rfl, rfl⟩
  blk := fun i b e => by
    obtain ⟨vs, hm, rfl⟩ := tabMem_get l i b e
    obtain ⟨hg, hpos, hc⟩ := h i vs hm
    refine ⟨⟨i, 0, 0, 0⟩, by unfold blankInj; rw [if_pos hg], ?_⟩
    have h0 := (hc 0 vs[0] (by simp [hpos])).2
    unfold World.cell? at h0
    split at h0
    · rename_i c t fr hheap
      obtain ⟨lo, hi⟩ := fr
      have hcell : ∀ o, w.cell? ⟨i, o, none⟩ = c[o]? := cell_of hheap
      have ht : typeIn w i = t := by unfold typeIn; rw [hheap]
      rw [ht]
      refine ⟨c, lo, hi, hheap, ?_, ?_, (fun h => by cases h), (fun h => by cases h), (fun _ => rfl)⟩
      · simp only [Nat.zero_add]
        have := (hc (vs.length - 1) vs[vs.length - 1] (by simp)).2
        rw [hcell] at this
        obtain ⟨hlt, _⟩ := Array.getElem?_eq_some_iff.1 this
        omega
      · intro o x hx
        obtain ⟨hgx, hcx⟩ := hc o x hx
        rw [hcell] at hcx
        exact ⟨x, by simpa using hcx, gr_refl _ hgx⟩
    · cases h0
  inj := fun i j bi bj pi pj ei ri => by
    obtain ⟨vs, hm, rfl⟩ := tabMem_get l i bi ei
    cases ri
  dom := fun i p e => by
    show i < P.globals.size + 0
    unfold blankInj at e; split at e
    · assumption
    · cases e

/-- A closed call over such variables. -/
theorem ai_tab (hN : progOk P = true) (hM : P.follows .mixedOrders = true) (n d : Nat) (f : FuncId) (args : List Value) (v : Value) (hg : args.all gr = true) (l : List (Nat × List Value))
    (e : ∀ ts, aCall P noSums (run P noSums n d) f args (tabW P ts l 0) = some (v, none)) (hv : gr v = true) (w : World) (h : Tabled P w l) :
    Calls P f args.toArray w fun e w' => e = .returned v ∧ Below w.heap.size w w' := by
  have ha : LRel (blankInj P) args args := ⟨rfl, fun i x x' p q => by
    rw [p] at q; cases q
    exact gr_refl _ (List.all_eq_true.1 hg x (List.mem_of_getElem? p))⟩
  refine (ai_calls (progOk_spec hN) hM noSums_sound n d (e _) (tab_rel w l h) ha).mono fun en w' hp => ?_
  obtain ⟨v', ι', rfl, hs, hr⟩ := hp
  rw [gr_eq hr hv]
  exact ⟨rfl, hs.rel.below⟩

end Go.Ai

/- The interpreter again, with frames as tries and each value brought to its form at once: what it answers, the first one answers; made for the kernel. -/
namespace Go.Ai

def forceN {β : Sort _} (n : Nat) (k : Nat → β) : β := match n with
  | 0 => k 0
  | m + 1 => k (Nat.succ m)
theorem forceN_eq {β : Sort _} (n : Nat) (k : Nat → β) : forceN n k = k n := by cases n <;> rfl
def forceI {β : Sort _} (i : Int) (k : Int → β) : β := match i with
  | .ofNat n => forceN n fun n => k (.ofNat n)
  | .negSucc n => forceN n fun n => k (.negSucc n)
theorem forceI_eq {β : Sort _} (i : Int) (k : Int → β) : forceI i k = k i := by cases i <;> simp [forceI, forceN_eq]
def forceB {β : Sort _} (b : Bool) (k : Bool → β) : β := match b with
  | true => k true
  | false => k false
theorem forceB_eq {β : Sort _} (b : Bool) (k : Bool → β) : forceB b k = k b := by cases b <;> rfl
def forceK {β : Sort _} (b : IntKind) (k : IntKind → β) : β := match b with
  | .i8 => k .i8 | .i16 => k .i16 | .i32 => k .i32 | .i64 => k .i64 | .u8 => k .u8 | .u16 => k .u16 | .u32 => k .u32 | .u64 => k .u64
theorem forceK_eq {β : Sort _} (b : IntKind) (k : IntKind → β) : forceK b k = k b := by cases b <;> rfl
/-- The spine of a list, and its elements by a way of their own. -/
def forceL {α : Type} {β : Type} (f : α → (α → β) → β) : List α → (List α → β) → β
  | [], k => k []
  | x :: l, k => f x fun y => forceL f l fun l => k (y :: l)
theorem forceL_eq {α β : Type} {f : α → (α → β) → β} (hf : ∀ x k, f x k = k x) : ∀ (l : List α) (k : List α → β), forceL f l k = k l
  | [], _ => rfl
  | x :: l, k => by simp [forceL, hf, forceL_eq hf l]

def force8 {β : Type} (b : UInt8) (k : UInt8 → β) : β := forceN b.toNat fun n => k (UInt8.ofNat n)
theorem force8_eq {β : Type} (b : UInt8) (k : UInt8 → β) : force8 b k = k b := by simp [force8, forceN_eq]
def forceS {β : Type} (s : ByteArray) (k : ByteArray → β) : β := forceL force8 s.data.toList fun l => k ⟨⟨l⟩⟩
theorem forceS_eq {β : Type} (s : ByteArray) (k : ByteArray → β) : forceS s k = k s := by
  unfold forceS
  rw [forceL_eq (fun x k => force8_eq x k)]
def forceO {α β : Type} (f : α → (α → β) → β) (x : Option α) (k : Option α → β) : β := match x with
  | none => k none
  | some a => f a fun a => k (some a)
theorem forceO_eq {α β : Type} {f : α → (α → β) → β} (hf : ∀ x k, f x k = k x) (x : Option α) (k : Option α → β) : forceO f x k = k x := by cases x <;> simp [forceO, hf]
def fON {β : Type} (x : Option Nat) (k : Option Nat → β) : β := match x with
  | none => k none
  | some a => forceN a fun a => k (some a)
theorem fON_eq {β : Type} (x : Option Nat) (k : Option Nat → β) : fON x k = k x := by cases x <;> simp [fON, forceN_eq]
def forceA {β : Type} (a : Addr) (k : Addr → β) : β := match a with
  | ⟨b, o, s⟩ => forceN b fun b => forceN o fun o => fON s fun s => k ⟨b, o, s⟩
theorem forceA_eq {β : Type} (a : Addr) (k : Addr → β) : forceA a k = k a := by
  cases a; simp [forceA, forceN_eq, fON_eq]

def forceV {β : Type} : Nat → Value → (Value → β) → β
  | 0, v, k => k v
  | n + 1, v, k => match v with
    | .bool b => forceB b fun b => k (.bool b)
    | .int c i => forceK c fun c => forceI i fun i => k (.int c i)
    | .string s => forceS s fun s => k (.string s)
    | .pointer a => forceO forceA a fun a => k (.pointer a)
    | .slice a l c => forceO forceA a fun a => forceN l fun l => forceN c fun c => k (.slice a l c)
    | .map a => fON a fun a => k (.map a)
    | .agg cs => forceL (forceV n) cs.toList fun l => k (.agg ⟨l⟩)
    | .tuple cs => forceL (forceV n) cs.toList fun l => k (.tuple ⟨l⟩)
    | .iface t v => forceN t fun t => forceV n v fun v => k (.iface t v)
    | .func fn f c => forceL (forceV n) f.toList fun f => forceL (forceV n) c.toList fun c => k (.func fn ⟨f⟩ ⟨c⟩)
    | v => k v
theorem forceV_eq {β : Type} : ∀ (n : Nat) (v : Value) (k : Value → β), forceV n v k = k v
  | 0, _, _ => rfl
  | n + 1, v, k => by
    have hV : ∀ (x : Value) (k : Value → β), forceV n x k = k x := forceV_eq n
    cases v <;> simp only [forceV, forceB_eq, forceK_eq, forceI_eq, forceS_eq, forceN_eq, forceO_eq (fun x k => forceA_eq x k), fON_eq, forceL_eq hV, hV]
def fV {β : Type} (v : Value) (k : Value → β) : β := forceV 6 v k
theorem fV_eq {β : Type} (v : Value) (k : Value → β) : fV v k = k v := forceV_eq 6 v k
def fVs {β : Type} (l : List Value) (k : List Value → β) : β := forceL fV l k
theorem fVs_eq {β : Type} (l : List Value) (k : List Value → β) : fVs l k = k l := forceL_eq (fun x k => fV_eq x k) l k


/- frames as tries -/
inductive FT where
  | leaf
  | node (v : Option Value) (l r : FT)
def FT.get : FT → Nat → Option Value
  | .leaf, _ => none
  | .node v l r, k =>
    match k with
    | 0 => v
    | k + 1 => match Nat.beq (k % 2) 0 with
      | true => l.get (k / 2)
      | false => r.get (k / 2)
def FT.top : FT → Option Value
  | .leaf => none
  | .node v _ _ => v
def FT.left : FT → FT
  | .leaf => .leaf
  | .node _ l _ => l
def FT.right : FT → FT
  | .leaf => .leaf
  | .node _ _ r => r
def FT.setF (x : Value) : Nat → FT → Nat → FT
  | 0, t, _ => t
  | f + 1, t, k =>
    match k with
    | 0 => .node (some x) t.left t.right
    | k + 1 => match Nat.beq (k % 2) 0 with
      | true => .node t.top (FT.setF x f t.left (k / 2)) t.right
      | false => .node t.top t.left (FT.setF x f t.right (k / 2))
def FT.set (t : FT) (k : Nat) (x : Value) : FT := FT.setF x (k + 1) t k

theorem FT.get_eq (t : FT) (j : Nat) : t.get j = match j with
    | 0 => t.top
    | k + 1 => if k % 2 = 0 then t.left.get (k / 2) else t.right.get (k / 2) := by
  cases t with
  | leaf => cases j with
    | zero => rfl
    | succ k => simp [FT.get, FT.left, FT.right]
  | node v l r =>
    cases j with
    | zero => rfl
    | succ k =>
      simp only [FT.get, FT.left, FT.right]
      by_cases h : k % 2 = 0
      · rw [if_pos h, h]
      · rw [if_neg h, beq_no h]

theorem FT.get_setF (x : Value) : ∀ (f : Nat) (t : FT) (k j : Nat), k < f → (FT.setF x f t k).get j = if j = k then some x else t.get j := by
  intro f
  induction f with
  | zero => intro t k j h; omega
  | succ f ih =>
    intro t k j h
    rw [FT.get_eq, FT.get_eq t]
    cases k with
    | zero => cases j with
      | zero => simp [FT.setF, FT.top]
      | succ j => simp [FT.setF, FT.left, FT.right]
    | succ k =>
      by_cases h2 : k % 2 = 0
      · have hb : Nat.beq (k % 2) 0 = true := beq_yes h2
        have e : FT.setF x (f + 1) t (k + 1) = .node t.top (FT.setF x f t.left (k / 2)) t.right := by simp only [FT.setF, hb]
        rw [e]
        cases j with
        | zero => simp [FT.top]
        | succ j =>
          simp only [FT.left, FT.right, Nat.add_right_cancel_iff]
          by_cases h3 : j % 2 = 0
          · simp only [h3, if_true]; rw [ih _ _ _ (by omega)]
            by_cases h4 : j = k
            · subst h4; simp
            · rw [if_neg h4, if_neg (by omega)]
          · simp only [h3, if_false]; rw [if_neg (by omega)]
      · have hb : Nat.beq (k % 2) 0 = false := beq_no h2
        have e : FT.setF x (f + 1) t (k + 1) = .node t.top t.left (FT.setF x f t.right (k / 2)) := by simp only [FT.setF, hb]
        rw [e]
        cases j with
        | zero => simp [FT.top]
        | succ j =>
          simp only [FT.left, FT.right, Nat.add_right_cancel_iff]
          by_cases h3 : j % 2 = 0
          · simp only [h3, if_true]; rw [if_neg (by omega)]
          · simp only [h3, if_false]; rw [ih _ _ _ (by omega)]
            by_cases h4 : j = k
            · subst h4; simp
            · rw [if_neg h4, if_neg (by omega)]
theorem FT.get_set (t : FT) (k : Nat) (x : Value) (j : Nat) : (t.set k x).get j = if j = k then some x else t.get j := FT.get_setF x (k + 1) t k j (by omega)

structure FrT where
  n : Nat
  t : FT
def Rep (f : FrT) (fr : List Value) : Prop := fr.length = f.n ∧ ∀ i, (f.t.get i).getD undef = fr.getD i undef

def evT (f : FrT) : Operand → Value
  | .tmp t => (f.t.get t).getD undef
  | .const v => v
  | .global g => .pointer (some ⟨g, 0, none⟩)
  | .func f => .func (.func f) #[] #[]
theorem evT_eq {f : FrT} {fr : List Value} (h : Rep f fr) : evT f = ev fr := by
  funext x
  cases x with
  | tmp t => exact h.2 t
  | _ => rfl
def putTT (f : FrT) (d : Option Tmp) (v : Value) : FrT :=
  match d with
  | some t => match Nat.ble (t + 1) f.n with
    | true => ⟨f.n, f.t.set t v⟩
    | false => f
  | none => f
theorem putTT_rep {f : FrT} {fr : List Value} (h : Rep f fr) (d : Option Tmp) (v : Value) : Rep (putTT f d v) (putT fr d v) := by
  cases d with
  | none => exact h
  | some t =>
    simp only [putTT, putT]
    split
    · rename_i hb
      have hb := ble_le hb
      refine ⟨by simpa using h.1, fun i => ?_⟩
      simp only [FT.get_set]
      rw [List.getD_eq_getElem?_getD]
      by_cases e : i = t
      · subst e
        rw [if_pos rfl, List.getElem?_set_self (by rw [h.1]; omega)]
      · rw [if_neg e, List.getElem?_set_ne (Ne.symm e), ← List.getD_eq_getElem?_getD]
        exact h.2 i
    · rename_i hb
      have hb := ble_gt hb
      rw [List.set_eq_of_length_le (by rw [h.1]; omega)]
      exact h
/-- The same, its path brought to its form at once. -/
def FT.setK {β : Type} (x : Value) : Nat → FT → Nat → (FT → β) → β
  | 0, t, _, c => c t
  | f + 1, t, k, c => match t with
    | .leaf => match k with
      | 0 => c (.node (some x) .leaf .leaf)
      | k + 1 => match Nat.beq (k % 2) 0 with
        | true => FT.setK x f .leaf (k / 2) fun l => c (.node none l .leaf)
        | false => FT.setK x f .leaf (k / 2) fun r => c (.node none .leaf r)
    | .node v l r => match k with
      | 0 => c (.node (some x) l r)
      | k + 1 => match Nat.beq (k % 2) 0 with
        | true => FT.setK x f l (k / 2) fun l => c (.node v l r)
        | false => FT.setK x f r (k / 2) fun r => c (.node v l r)
theorem FT.setK_eq {β : Type} (x : Value) : ∀ (f : Nat) (t : FT) (k : Nat) (c : FT → β), FT.setK x f t k c = c (FT.setF x f t k)
  | 0, _, _, _ => rfl
  | f + 1, t, k, c => by
    cases t with
    | leaf => cases k with
      | zero => rfl
      | succ k =>
        simp only [FT.setK, FT.setF, FT.top, FT.left, FT.right]
        split <;> simp [FT.setK_eq x f]
    | node v l r => cases k with
      | zero => rfl
      | succ k =>
        simp only [FT.setK, FT.setF, FT.top, FT.left, FT.right]
        split <;> simp [FT.setK_eq x f]
def putK {β : Type} (f : FrT) (d : Option Tmp) (v : Value) (k : FrT → β) : β :=
  match d with
  | some t => match f with
    | ⟨n, ft⟩ => match Nat.ble (t + 1) n with
      | true => FT.setK v (t + 1) ft t fun ft => k ⟨n, ft⟩
      | false => k ⟨n, ft⟩
  | none => k f
theorem putK_eq {β : Type} (f : FrT) (d : Option Tmp) (v : Value) (k : FrT → β) : putK f d v k = k (putTT f d v) := by
  cases d with
  | none => rfl
  | some t =>
    obtain ⟨n, ft⟩ := f
    simp only [putK, putTT, FT.setK_eq, FT.set]
    split <;> rfl
def yieldedT (ops : Array Oper) (f : FrT) (j : Nat) : Option Bool :=
  match ((ops[j]?).bind (·.dst)).bind (f.t.get ·) with
  | some (.bool b) => some b
  | _ => none
theorem yieldedT_eq {f : FrT} {fr : List Value} (h : Rep f fr) (ops : Array Oper) : yieldedT ops f = yieldedL ops fr := by
  funext j
  unfold yieldedT yieldedL
  cases hd : (ops[j]?).bind (·.dst) with
  | none => rfl
  | some t =>
    simp only [Option.bind_some]
    have := h.2 t
    rw [List.getD_eq_getElem?_getD] at this
    cases h1 : f.t.get t with
    | none =>
      rw [h1] at this
      cases h2 : fr[t]? with
      | none => rfl
      | some x =>
        rw [h2] at this
        simp only [Option.getD_none, Option.getD_some] at this
        rw [← this]; rfl
    | some y =>
      rw [h1] at this
      cases h2 : fr[t]? with
      | none =>
        rw [h2] at this
        simp only [Option.getD_none, Option.getD_some] at this
        rw [this]; rfl
      | some x =>
        rw [h2] at this
        simp only [Option.getD_some] at this
        rw [this]
        rfl
def aResT (P : Program) (f : FrT) (σ : AW) : List ResultVar → Option (List Value)
  | [] => some []
  | .tmp t :: r => match aResT P f σ r with
    | some l => some ((f.t.get t).getD undef :: l)
    | none => none
  | .cell a t :: r => match aLoad P σ t ((f.t.get a).getD undef), aResT P f σ r with
    | some (v, none), some l => some (v :: l)
    | _, _ => none
theorem aResT_eq {P : Program} {f : FrT} {fr : List Value} (h : Rep f fr) (σ : AW) : ∀ rs, aResT P f σ rs = aRes P fr σ rs
  | [] => rfl
  | .tmp t :: r => by simp only [aResT, aRes, aResT_eq h σ r, h.2]; rfl
  | .cell a t :: r => by simp only [aResT, aRes, aResT_eq h σ r, h.2]; rfl
def ofArgs : List Value → Nat → FT → FT
  | [], _, t => t
  | v :: l, i, t => ofArgs l (i + 1) (t.set i v)
theorem ofArgs_get : ∀ (l : List Value) (i : Nat) (t : FT) (j : Nat), (ofArgs l i t).get j = if i ≤ j ∧ j < i + l.length then l[j - i]? else t.get j
  | [], i, t, j => by
    have : ¬ (i ≤ j ∧ j < i + ([] : List Value).length) := by simp only [List.length_nil]; omega
    rw [if_neg this]; rfl
  | v :: l, i, t, j => by
    rw [ofArgs, ofArgs_get l (i + 1) _ j, FT.get_set]
    simp only [List.length_cons]
    by_cases e : j = i
    · subst e
      rw [if_neg (by omega), if_pos rfl, if_pos (by omega)]; simp
    · by_cases h : i + 1 ≤ j ∧ j < i + 1 + l.length
      · rw [if_pos h, if_pos (by omega)]
        obtain ⟨k, rfl⟩ : ∃ k, j = i + 1 + k := ⟨j - (i + 1), by omega⟩
        rw [show i + 1 + k - (i + 1) = k by omega, show i + 1 + k - i = k + 1 by omega]; rfl
      · rw [if_neg h, if_neg e, if_neg (by omega)]
def frameT (args : List Value) (n : Nat) : FrT := ⟨args.length + (n - args.length), ofArgs args 0 .leaf⟩
def frameK {β : Type} (args : List Value) (n : Nat) (k : FrT → β) : β := forceN (args.length + (n - args.length)) fun n => k ⟨n, ofArgs args 0 .leaf⟩
theorem frameK_eq {β : Type} (args : List Value) (n : Nat) (k : FrT → β) : frameK args n k = k (frameT args n) := by simp [frameK, frameT, forceN_eq]
theorem frameT_rep (args : List Value) (n : Nat) : Rep (frameT args n) (args ++ List.replicate (n - args.length) undef) := by
  refine ⟨by simp [frameT], fun i => ?_⟩
  simp only [frameT, ofArgs_get, Nat.zero_le, true_and, Nat.zero_add, Nat.sub_zero]
  rw [List.getD_eq_getElem?_getD]
  split
  · rename_i h; rw [List.getElem?_append_left h]
  · rename_i h
    rw [List.getElem?_append_right (by omega), List.getElem?_replicate]
    split <;> rfl

abbrev SelfT := Code → FrT → AW → Option (AEx × FrT × AW)
/-- What the one answers, the other answers. -/
def Sim (st : SelfT) (self : Self) : Prop := ∀ c f fr σ ex f' σ', Rep f fr → st c f σ = some (ex, f', σ') → ∃ fr', self c fr σ = some (ex, fr', σ') ∧ Rep f' fr'

def aCallT (P : Program) (sums : Sums) (st : SelfT) (f : FuncId) (args : List Value) (σ : AW) : Out :=
  match P.funcs[f]? with
  | some fn => match fn.body with
    | some c => match sums f with
      | some s => s args σ
      | none => match frameK args fn.ntmps fun f => st c f { σ with mw := INF } with
        | some (.exit _, _, _) => none
        | some (_, fr, σ') => match aResT P fr σ' fn.results.toList with
          | some l => fV (joinRes l) fun v => match gr v && Nat.ble σ.next σ'.mw with
            | true => ret v
            | false => some (v, some { σ' with mw := min σ.mw σ'.mw })
          | none => none
        | none => none
    | none => none
  | none => none
theorem aCallT_imp {P : Program} {sums : Sums} {st : SelfT} {self : Self} (hs : Sim st self) {f : FuncId} {args : List Value} {σ : AW} {r : Value × Option AW} (e : aCallT P sums st f args σ = some r) : aCall P sums self f args σ = some r := by
  unfold aCallT at e
  simp only [frameK_eq] at e
  unfold aCall
  split at e <;> try contradiction
  rename_i fn hf
  rw [hf]
  simp only
  split at e <;> try contradiction
  rename_i c hc
  rw [hc]
  simp only
  split at e
  · rename_i s hsum; rw [hsum]; exact e
  · rename_i hsum
    rw [hsum]
    simp only
    split at e <;> try contradiction
    rename_i ex f' σ' hne hrun
    obtain ⟨fr', h1, h2⟩ := hs _ _ _ _ _ _ _ (frameT_rep args fn.ntmps) hrun
    rw [h1]
    rw [aResT_eq h2] at e
    simp only [fV_eq] at e
    cases ex with
    | exit id => exact (hne id rfl).elim
    | normal => exact e
    | ret => exact e

def aOperT (P : Program) (sums : Sums) (st : SelfT) (o : Oper) (f : FrT) (σ : AW) : Out :=
  match o.op.operands.toList.all (evOk P) with
  | true =>
    match aOp P o (evT f) σ with
    | some r => some r
    | none => match gOp P o (evT f) with
      | some r => some r
      | none => match aTarget P o (evT f) σ with
        | some (g, args) => fVs args fun args => aCallT P sums st g args σ
        | none => none
  | false => none
theorem aOperT_imp {P : Program} {sums : Sums} {st : SelfT} {self : Self} (hs : Sim st self) {o : Oper} {f : FrT} {fr : List Value} (h : Rep f fr) {σ : AW} {r : Value × Option AW} (e : aOperT P sums st o f σ = some r) : aOper P sums self o fr σ = some r := by
  unfold aOperT at e
  unfold aOper
  rw [evT_eq h] at e
  split at e <;> try contradiction
  rename_i hall
  rw [hall]
  simp only
  split at e
  · rename_i r' h1; rw [h1]; exact e
  · rename_i h1
    rw [h1]
    simp only
    split at e
    · rename_i r' h2; rw [h2]; exact e
    · rename_i h2
      rw [h2]
      simp only
      split at e <;> try contradiction
      rename_i g args h3
      rw [h3]
      simp only [fVs_eq] at e
      exact aCallT_imp hs e

def aSeqT (P : Program) (sums : Sums) (st : SelfT) (ops : Array Oper) : List Oper → FrT → AW → Option (FrT × AW)
  | [], f, σ => some (f, σ)
  | o :: rest, f, σ => match Region.wanted o (yieldedT ops f) with
    | true => match aOperT P sums st o f σ with
      | some (v, u) => fV v fun v => match u with
        | some σ' => putK f o.dst v fun f => aSeqT P sums st ops rest f σ'
        | none => putK f o.dst v fun f => aSeqT P sums st ops rest f σ
      | none => none
    | false => putK f o.dst undef fun f => aSeqT P sums st ops rest f σ
theorem aSeqT_imp {P : Program} {sums : Sums} {st : SelfT} {self : Self} (hs : Sim st self) (ops : Array Oper) : ∀ (l : List Oper) (f : FrT) (fr : List Value) (σ : AW) (f' : FrT) (σ' : AW), Rep f fr → aSeqT P sums st ops l f σ = some (f', σ') →
    ∃ fr', aSeq P sums self ops l fr σ = some (fr', σ') ∧ Rep f' fr'
  | [], f, fr, σ, f', σ', h, e => by simp only [aSeqT] at e; cases e; exact ⟨fr, rfl, h⟩
  | o :: rest, f, fr, σ, f', σ', h, e => by
    simp only [aSeqT, yieldedT_eq h, putK_eq] at e
    simp only [aSeq]
    split at e
    · rename_i hw
      rw [hw]
      split at e <;> try contradiction
      rename_i v u ho
      simp only [fV_eq] at e
      rw [aOperT_imp hs h ho]
      cases u with
      | none => exact aSeqT_imp hs ops rest _ _ _ _ _ (putTT_rep h o.dst v) e
      | some σ1 => exact aSeqT_imp hs ops rest _ _ _ _ _ (putTT_rep h o.dst v) e
    · rename_i hw
      rw [hw]
      exact aSeqT_imp hs ops rest _ _ _ _ _ (putTT_rep h o.dst undef) e

def DX.fz {β : Type} (s : DX) (k : DX → β) : β := forceN s.j fun j => forceN s.b0 fun b0 => k { s with j := j, b0 := b0 }
theorem DX.fz_eq {β : Type} (s : DX) (k : DX → β) : s.fz k = k s := by simp [DX.fz, forceN_eq]

def dstepT (P : Program) (sums : Sums) (st : SelfT) (ops : Array Oper) (ms : List Nat) (o : Oper) (f : FrT) (s : DX) : Option (FrT × DX) :=
  match Region.wanted o (yieldedT ops f) with
  | false => putK f o.dst undef fun f => (s.quiet undef).fz fun s => some (f, s)
  | true => match pureOp o.op with
    | true => match aOperT P sums st o f bot with
      | some (v, none) => fV v fun v => putK f o.dst v fun f => (s.quiet v).fz fun s => some (f, s)
      | _ => none
    | false => match loadStill P ops ms o (evT f) s with
      | some (v, b) => fV v fun v => putK f o.dst v fun f => (s.still v b).fz fun s => some (f, s)
      | none => match s.view ms with
        | some view => match aOperT P sums st o f view with
          | some (v, u) => fV v fun v => match s.after ms v u with
            | some s' => match s'.mark o (evT f) with
              | some s' => putK f o.dst v fun f => s'.fz fun s' => some (f, s')
              | none => none
            | none => none
          | none => none
        | none => none
theorem dstepT_imp {P : Program} {sums : Sums} {st : SelfT} {self : Self} (hs : Sim st self) {ops : Array Oper} {ms : List Nat} {o : Oper} {f : FrT} {fr : List Value} (h : Rep f fr) {s : DX} {f' : FrT} {s' : DX} (e : dstepT P sums st ops ms o f s = some (f', s')) :
    ∃ fr', dstep P sums self ops ms o (fr, s) = some (fr', s') ∧ Rep f' fr' := by
  unfold dstepT at e
  unfold dstep
  simp only [yieldedT_eq h, putK_eq, DX.fz_eq, fV_eq] at e
  simp only
  split at e
  · rename_i hw
    rw [hw]
    cases e
    exact ⟨_, rfl, putTT_rep h o.dst undef⟩
  · rename_i hw
    rw [hw]
    simp only
    split at e
    · rename_i hp
      rw [hp]
      simp only
      split at e <;> try contradiction
      rename_i v hv
      rw [aOperT_imp hs h hv]
      cases e
      exact ⟨_, rfl, putTT_rep h o.dst v⟩
    · rename_i hp
      rw [hp]
      simp only
      have hev : evT f = ev fr := evT_eq h
      rw [hev] at e
      split at e
      · rename_i v b hl
        rw [hl]
        cases e
        exact ⟨_, rfl, putTT_rep h o.dst v⟩
      · rename_i hl
        rw [hl]
        simp only
        split at e <;> try contradiction
        rename_i view hview
        rw [hview]
        simp only
        split at e <;> try contradiction
        rename_i v u hv
        rw [aOperT_imp hs h hv]
        simp only
        split at e <;> try contradiction
        rename_i s1 h1
        rw [h1]
        simp only
        split at e <;> try contradiction
        rename_i s2 h2
        rw [h2]
        cases e
        exact ⟨_, rfl, putTT_rep h o.dst v⟩

def aDrawGoT (P : Program) (sums : Sums) (st : SelfT) (ops : Array Oper) (ms : List Nat) : List Oper → FrT → DX → Option (FrT × DX)
  | [], f, s => some (f, s)
  | o :: rest, f, s => match dstepT P sums st ops ms o f s with
    | some (f, s) => aDrawGoT P sums st ops ms rest f s
    | none => none
theorem aDrawGoT_imp {P : Program} {sums : Sums} {st : SelfT} {self : Self} (hs : Sim st self) (ops : Array Oper) (ms : List Nat) : ∀ (l : List Oper) (f : FrT) (fr : List Value) (s : DX) (f' : FrT) (s' : DX), Rep f fr → aDrawGoT P sums st ops ms l f s = some (f', s') →
    ∃ fr', aDrawGo P sums self ops ms l (fr, s) = some (fr', s') ∧ Rep f' fr'
  | [], f, fr, s, f', s', h, e => by simp only [aDrawGoT] at e; cases e; exact ⟨fr, rfl, h⟩
  | o :: rest, f, fr, s, f', s', h, e => by
    simp only [aDrawGoT] at e
    simp only [aDrawGo]
    split at e <;> try contradiction
    rename_i f1 s1 h1
    obtain ⟨fr1, h2, h3⟩ := dstepT_imp hs h h1
    rw [h2]
    exact aDrawGoT_imp hs ops ms rest _ _ _ _ _ h3 e

def aDrawT (P : Program) (sums : Sums) (st : SelfT) (ops : Array Oper) (f : FrT) (σ : AW) : Option (FrT × AW) :=
  forceL forceN (masks ops.toList []) fun ms => match aDrawGoT P sums st ops ms ops.toList f (.init σ) with
  | some (f', s) => some (f', { s.cur with mw := s.mw })
  | none => none
theorem aDrawT_imp {P : Program} {sums : Sums} {st : SelfT} {self : Self} (hs : Sim st self) (ops : Array Oper) {f f' : FrT} {fr : List Value} {σ σ' : AW} (h : Rep f fr) (e : aDrawT P sums st ops f σ = some (f', σ')) :
    ∃ fr', aDraw P sums self ops fr σ = some (fr', σ') ∧ Rep f' fr' := by
  unfold aDrawT at e
  rw [forceL_eq (fun x k => forceN_eq x k)] at e
  split at e <;> try contradiction
  rename_i f1 s h1
  cases e
  obtain ⟨fr', h3, h4⟩ := aDrawGoT_imp hs ops _ _ _ fr _ _ _ h h1
  refine ⟨fr', ?_, h4⟩
  unfold aDraw
  rw [h3]

def aLoopT (st : SelfT) (c : Code) : Nat → FrT → AW → Option (AEx × FrT × AW)
  | 0, _, _ => none
  | n + 1, f, σ => match st c f σ with
    | some (.normal, f, σ) => aLoopT st c n f σ
    | r => r
theorem aLoopT_imp {st : SelfT} {self : Self} (hs : Sim st self) (c : Code) : ∀ (n : Nat) (f : FrT) (fr : List Value) (σ : AW) (ex : AEx) (f' : FrT) (σ' : AW), Rep f fr → aLoopT st c n f σ = some (ex, f', σ') → ∃ fr', aLoop self c n fr σ = some (ex, fr', σ') ∧ Rep f' fr'
  | 0, _, _, _, _, _, _, _, e => by cases e
  | n + 1, f, fr, σ, ex, f', σ', h, e => by
    simp only [aLoopT] at e
    simp only [aLoop]
    split at e
    · rename_i f1 σ1 h1
      obtain ⟨fr1, h2, h3⟩ := hs _ _ _ _ _ _ _ h h1
      rw [h2]
      exact aLoopT_imp hs c n _ _ _ _ _ _ h3 e
    · rename_i r hne
      obtain ⟨fr1, h2, h3⟩ := hs _ _ _ _ _ _ _ h e
      refine ⟨fr1, ?_, h3⟩
      rw [h2]
      cases ex with
      | normal => exact (hne f' σ' e).elim
      | exit id => rfl
      | ret => rfl

def stepCT (P : Program) (sums : Sums) (n : Nat) (st : SelfT) : SelfT := fun c f σ =>
  match c with
  | .skip | .label _ => some (.normal, f, σ)
  | .region _ ops false => match aSeqT P sums st ops ops.toList f σ with
    | some (f, σ) => some (.normal, f, σ)
    | none => none
  | .region _ ops true => match aDrawT P sums st ops f σ with
    | some (f, σ) => some (.normal, f, σ)
    | none => none
  | .seq a b => match st a f σ with
    | some (.normal, f, σ) => st b f σ
    | r => r
  | .cond c a b => match evOk P c, evT f c with
    | true, .bool true => st a f σ
    | true, .bool false => st b f σ
    | _, _ => none
  | .block id b => match st b f σ with
    | some (.exit i, f, σ) => match Nat.beq i id with
      | true => some (.normal, f, σ)
      | false => some (.exit i, f, σ)
    | r => r
  | .loop b => aLoopT st b n f σ
  | .scope b => st b f σ
  | .exit id => some (.exit id, f, σ)
  | .ret => some (.ret, f, σ)
  | _ => none
theorem stepCT_imp {P : Program} {sums : Sums} (n : Nat) {st : SelfT} {self : Self} (hs : Sim st self) : Sim (stepCT P sums n st) (stepC P sums n self) := by
  intro c f fr σ ex f' σ' h e
  cases c with
  | skip => simp only [stepCT] at e; cases e; exact ⟨fr, rfl, h⟩
  | label l => simp only [stepCT] at e; cases e; exact ⟨fr, rfl, h⟩
  | exit id => simp only [stepCT] at e; cases e; exact ⟨fr, rfl, h⟩
  | ret => simp only [stepCT] at e; cases e; exact ⟨fr, rfl, h⟩
  | region id ops draw =>
    cases draw with
    | false =>
      simp only [stepCT] at e
      split at e <;> try contradiction
      rename_i f1 σ1 h1
      cases e
      obtain ⟨fr1, h2, h3⟩ := aSeqT_imp hs ops _ _ _ _ _ _ h h1
      exact ⟨fr1, by simp only [stepC, h2], h3⟩
    | true =>
      simp only [stepCT] at e
      split at e <;> try contradiction
      rename_i f1 σ1 h1
      cases e
      obtain ⟨fr1, h2, h3⟩ := aDrawT_imp hs ops h h1
      exact ⟨fr1, by simp only [stepC, h2], h3⟩
  | seq x y =>
    simp only [stepCT] at e
    split at e
    · rename_i f1 σ1 h1
      obtain ⟨fr1, h2, h3⟩ := hs _ _ _ _ _ _ _ h h1
      obtain ⟨fr2, h4, h5⟩ := hs _ _ _ _ _ _ _ h3 e
      exact ⟨fr2, by simp only [stepC, h2, h4], h5⟩
    · rename_i r hne
      obtain ⟨fr1, h2, h3⟩ := hs _ _ _ _ _ _ _ h e
      refine ⟨fr1, ?_, h3⟩
      simp only [stepC, h2]
      cases ex with
      | normal => exact (hne f' σ' e).elim
      | exit id => rfl
      | ret => rfl
  | cond c x y =>
    simp only [stepCT, evT_eq h] at e
    split at e <;> try contradiction
    · rename_i h1 h2
      obtain ⟨fr1, h3, h4⟩ := hs _ _ _ _ _ _ _ h e
      exact ⟨fr1, by simp only [stepC, h1, h2, h3], h4⟩
    · rename_i h1 h2
      obtain ⟨fr1, h3, h4⟩ := hs _ _ _ _ _ _ _ h e
      exact ⟨fr1, by simp only [stepC, h1, h2, h3], h4⟩
  | block id b =>
    simp only [stepCT] at e
    split at e
    · rename_i i f1 σ1 h1
      obtain ⟨fr1, h2, h3⟩ := hs _ _ _ _ _ _ _ h h1
      split at e
      · rename_i hi
        cases e
        exact ⟨fr1, by simp only [stepC, h2, hi], h3⟩
      · rename_i hi
        cases e
        exact ⟨fr1, by simp only [stepC, h2, hi], h3⟩
    · rename_i r hne
      obtain ⟨fr1, h2, h3⟩ := hs _ _ _ _ _ _ _ h e
      refine ⟨fr1, ?_, h3⟩
      simp only [stepC, h2]
      cases ex with
      | normal => rfl
      | exit id => exact (hne id f' σ' e).elim
      | ret => rfl
  | loop b =>
    simp only [stepCT] at e
    obtain ⟨fr1, h2, h3⟩ := aLoopT_imp hs b n _ _ _ _ _ _ h e
    exact ⟨fr1, by simp only [stepC, h2], h3⟩
  | scope b =>
    simp only [stepCT] at e
    obtain ⟨fr1, h2, h3⟩ := hs _ _ _ _ _ _ _ h e
    exact ⟨fr1, by simp only [stepC, h2], h3⟩
  | rangeFunc => cases e
  | goto => cases e
  | refuse => cases e

noncomputable def runT (P : Program) (sums : Sums) (n d : Nat) : SelfT := Nat.rec (fun _ _ _ => none) (fun _ ih => stepCT P sums n ih) d
theorem runT_sim (P : Program) (sums : Sums) (n : Nat) : ∀ d, Sim (runT P sums n d) (run P sums n d)
  | 0 => fun c f fr σ ex f' σ' _ e => by cases e
  | d + 1 => stepCT_imp n (runT_sim P sums n d)

/-- The answer, as a test. -/
def answers (x : Out) (v : Value → Bool) : Bool := match x with
  | some (w, none) => v w
  | _ => false
def isTrue : Value → Bool
  | .bool true => true
  | _ => false
theorem answers_true {x : Out} (h : answers x isTrue = true) : x = some (.bool true, none) := by
  unfold answers at h
  split at h
  · rename_i w
    unfold isTrue at h
    split at h
    · rfl
    · cases h
  · cases h
theorem fast_true {P : Program} {sums : Sums} {n d : Nat} {f : FuncId} {args : List Value} {σ : AW} (h : answers (aCallT P sums (runT P sums n d) f args σ) isTrue = true) : aCall P sums (run P sums n d) f args σ = some (.bool true, none) :=
  aCallT_imp (runT_sim P sums n d) (answers_true h)

end Go.Ai

/- What the listed package variables read as (a row's premise), as cells. -/
namespace Go.Ai
open Go.RowKit Go.ChangeShapes

def chainD (look : TypeId → DataW Unit → Option (List Value)) : List (Nat × Nat × TypeId) → List (DataW Unit) → Nat → Option (List Value)
  | [], [], _ => some []
  | (o, w, t) :: r, d :: ds, c => match Nat.beq o c, look t d, chainD look r ds (c + w) with
    | true, some l, some l' => some (l ++ l')
    | _, _, _ => none
  | _, _, _ => none

/-- The cells of a datum of plain data. -/
def cellsD (P : Program) : Nat → TypeId → DataW Unit → Option (List Value)
  | 0, _, _ => none
  | f + 1, t, d => match P.underlying t, d with
    | some (.int _), .lit (.int k' n) => some [.int k' n]
    | some .bool, .lit (.bool b) => some [.bool b]
    | some (.array n e), .agg ds => match chainD (cellsD P f) ((List.range n).map fun i => (i * P.cellsOf e, P.cellsOf e, e)) ds 0 with
      | some l => match Nat.beq l.length (P.cellsOf t) with
        | true => some l
        | false => none
      | none => none
    | some (.struct fs), .agg ds => match chainD (cellsD P f) (fs.toList.map fun x => (x.offset, P.cellsOf x.type, x.type)) ds 0 with
      | some l => match Nat.beq l.length (P.cellsOf t) with
        | true => some l
        | false => none
      | none => none
    | _, _ => none

section
variable {P : Program} {w : World} {base : Nat} {spare : Nat → Bool} {held : Bool} {enc : TypeId × Value → Unit}

theorem chainD_spec {look : TypeId → DataW Unit → Option (List Value)} {cs : List Value} {m : Nat}
    (hl : ∀ t d l cs' ps, look t d = some l → DataW.trod enc P w base spare held m t cs' = some (d, ps) → cs' = l) :
    ∀ (pc : List (Nat × Nat × TypeId)) (ds : List (DataW Unit)) (c : Nat) (l : List Value), chainD look pc ds c = some l →
    (∀ (i : Nat) (o wd : Nat) (t : TypeId) (d : DataW Unit), pc[i]? = some (o, wd, t) → ds[i]? = some d → ∃ ps, DataW.trod enc P w base spare held m t ((cs.drop o).take wd) = some (d, ps)) →
    ∃ e, cs.drop c = l ++ cs.drop e
  | [], [], c, l, e, _ => by cases e; exact ⟨c, rfl⟩
  | [], _ :: _, c, l, e, _ => by cases e
  | _ :: _, [], c, l, e, _ => by cases e
  | (o, wd, t) :: r, d :: ds, c, l, e, h => by
    simp only [chainD] at e
    split at e <;> try contradiction
    rename_i l1 l2 hb h1 h2
    cases e
    have hb : o = c := Nat.eq_of_beq_eq_true hb
    subst hb
    obtain ⟨ps, hp⟩ := h 0 o wd t d rfl rfl
    have e1 := hl _ _ _ _ _ h1 hp
    obtain ⟨e2, he⟩ := chainD_spec hl r ds (o + wd) l2 h2 fun i o' w' t' d' a b => h (i + 1) o' w' t' d' (by simpa using a) (by simpa using b)
    refine ⟨e2, ?_⟩
    have := List.take_append_drop wd (cs.drop o)
    rw [e1, List.drop_drop, he] at this
    rw [← this, List.append_assoc]

theorem cellsD_spec : ∀ (f : Nat) (t : TypeId) (d : DataW Unit) (l cs : List Value) (m : Nat) (ps : List MemPlace), cellsD P f t d = some l → DataW.trod enc P w base spare held m t cs = some (d, ps) → cs = l
  | 0, _, _, _, _, _, _, e, _ => by cases e
  | f + 1, t, d, l, cs, m, ps, e, h => by
    cases m with
    | zero => simp [DataW.trod] at h
    | succ m =>
    simp only [cellsD] at e
    split at e
    · rename_i k k' n hu
      cases e
      obtain ⟨r, e1, e2, e3⟩ := DataW.trod_int hu h
      simp only [Prod.mk.injEq, DataW.lit.injEq, Lit.int.injEq] at e2
      obtain ⟨⟨rfl, rfl⟩, _⟩ := e2
      exact e1
    · rename_i b hu
      cases e
      unfold DataW.trod at h
      rw [hu] at h
      split at h <;> simp_all
    · rename_i n el ds hu
      obtain ⟨xs, m', hm, e1, e2, e3, e4⟩ := DataW.trod_array hu h
      cases hm
      simp only [Prod.mk.injEq, DataW.agg.injEq] at e1
      split at e <;> try contradiction
      rename_i l1 h1
      split at e <;> try contradiction
      rename_i h2
      cases e
      have h2 := Nat.eq_of_beq_eq_true h2
      obtain ⟨z, hz⟩ := chainD_spec (cs := cs) (m := m) (fun t d l cs' ps a b => cellsD_spec f t d l cs' m ps a b) _ _ _ _ h1 (fun i o wd t' d' a b => by
        rw [List.getElem?_map] at a
        cases hr : (List.range n)[i]? with
        | none => rw [hr] at a; cases a
        | some j =>
          rw [hr] at a
          obtain ⟨hlt, rfl⟩ := List.getElem?_eq_some_iff.1 hr
          simp only [List.length_range] at hlt
          simp only [List.getElem_range, Option.map_some, Option.some.injEq, Prod.mk.injEq] at a
          obtain ⟨rfl, rfl, rfl⟩ := a
          have := e4 i hlt
          rw [this]
          rw [e1.1, List.getElem?_map] at b
          cases hx : xs[i]? with
          | none => rw [hx] at b; cases b
          | some y => rw [hx] at b; simp only [Option.map_some, Option.some.injEq] at b; subst b; exact ⟨y.2, rfl⟩)
      simp only [List.drop_zero] at hz
      have hn : cs.drop z = [] := by
        have := congrArg List.length hz
        simp only [List.length_append] at this
        exact List.length_eq_zero_iff.1 (by omega)
      rw [hz, hn, List.append_nil]
    · rename_i fs ds hu
      obtain ⟨xs, m', hm, e1, e2, e3, e4⟩ := DataW.trod_struct hu h
      cases hm
      simp only [Prod.mk.injEq, DataW.agg.injEq] at e1
      split at e <;> try contradiction
      rename_i l1 h1
      split at e <;> try contradiction
      rename_i h2
      cases e
      have h2 := Nat.eq_of_beq_eq_true h2
      obtain ⟨z, hz⟩ := chainD_spec (cs := cs) (m := m) (fun t d l cs' ps a b => cellsD_spec f t d l cs' m ps a b) _ _ _ _ h1 (fun i o wd t' d' a b => by
        rw [List.getElem?_map] at a
        cases hr : fs.toList[i]? with
        | none => rw [hr] at a; cases a
        | some j =>
          rw [hr] at a
          simp only [Option.map_some, Option.some.injEq, Prod.mk.injEq] at a
          obtain ⟨rfl, rfl, rfl⟩ := a
          have := e4 i j (by simpa using hr)
          rw [this]
          rw [e1.1, List.getElem?_map] at b
          cases hx : xs[i]? with
          | none => rw [hx] at b; cases b
          | some y => rw [hx] at b; simp only [Option.map_some, Option.some.injEq] at b; subst b; exact ⟨y.2, rfl⟩)
      simp only [List.drop_zero] at hz
      have hn : cs.drop z = [] := by
        have := congrArg List.length hz
        simp only [List.length_append] at this
        exact List.length_eq_zero_iff.1 (by omega)
      rw [hz, hn, List.append_nil]
    · contradiction
end

/-- The listed variables' numbers and cells. -/
def tabOf (P : Program) : List (String × DataW Unit) → Option (List (Nat × List Value))
  | [] => some []
  | (n, d) :: r => match P.globalNamed n with
    | some g => match (P.globals[g]?).map (·.type) with
      | some t => match cellsD P 8 t d, tabOf P r with
        | some l, some rest => match Nat.ble (g + 1) P.globals.size && Nat.ble 1 l.length && l.all gr with
          | true => some ((g, l) :: rest)
          | false => none
        | _, _ => none
      | none => none
    | none => none

theorem tabled_of_vars {P : Program} {w : World} : ∀ (laid : List (String × DataW Unit)) (ps : List MemPlace) (kk : List (Nat × List Value)), tabOf P laid = some kk → DataW.LaidVars P w laid ps → Tabled P w kk
  | [], _, _, e, _ => by cases e; intro g vs h; cases h
  | (n, d) :: r, ps, kk, e, h => by
    obtain ⟨g, t, cs, fuel, p, q, hg, ht, hv, hd, hr, _⟩ := h
    simp only [tabOf, hg, ht] at e
    split at e <;> try contradiction
    rename_i l rest h1 h2
    split at e <;> try contradiction
    rename_i h3
    cases e
    simp only [Bool.and_eq_true] at h3
    obtain ⟨⟨h3, h4⟩, h5⟩ := h3
    have h3 := Nat.le_of_ble_eq_true h3
    have h4 := Nat.le_of_ble_eq_true h4
    have hc := cellsD_spec _ _ _ _ _ _ _ h1 hd
    intro g' vs hm
    rcases List.mem_cons.1 hm with e | hm
    · cases e
      refine ⟨by omega, by omega, fun i v hi => ⟨List.all_eq_true.1 h5 v (List.mem_of_getElem? hi), ?_⟩⟩
      rw [World.var?_cell hg hv i]
      rw [← hc] at hi
      simpa using hi
    · exact tabled_of_vars r q rest h2 hr g' vs hm

theorem tabled_of {P : Program} {w : World} {laid : List (String × DataW Unit)} {kk : List (Nat × List Value)} (e : tabOf P laid = some kk) (hp : (laid.all fun x => x.2.handleName?.isNone) = true) (h : laidMetH P laid w) : Tabled P w kk := by
  rw [MakeChecks.laidMetH_plain _ _ _ hp] at h
  obtain ⟨ps, h1, _⟩ := h
  exact tabled_of_vars _ _ _ e h1

/-- The test of a closed call over such variables. -/
theorem ai_test {P : Program} (hN : progOk P = true) (hM : P.follows .mixedOrders = true) (n d : Nat) (f : FuncId) (args : List Value) (hg : args.all gr = true) (l : List (Nat × List Value))
    (e : ∀ ts, aCall P noSums (run P noSums n d) f args (tabW P ts l 0) = some (.bool true, none)) (w : World) (h : Tabled P w l) :
    Calls P f args.toArray w fun e w' => e = .returned (.bool true) ∧ Below w.heap.size w w' :=
  ai_tab hN hM n d f args (.bool true) hg l e rfl w h

end Go.Ai
