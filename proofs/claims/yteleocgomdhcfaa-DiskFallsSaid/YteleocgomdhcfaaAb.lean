/- Proved: an executable interpreter of the model's Code over an abstract heap is sound: what it answers for a call, the call comes to, in whatever memory. Conditions: none but what each theorem names. -/
import Derived.Test.YteleocgomdhcfaaAa
import Derived.IntWalk
import Derived.Tactics
import Derived.Orders
import Derived.Eval
import Derived.ChangeSame
import Derived.OpenShut
set_option linter.unusedVariables false
set_option linter.unusedSimpArgs false

/- copy, clear, len, maps, conversions, the rest. -/
namespace Go.Ai
open Go.RowKit
variable {P : Program} {w0 : World} {σ : AW} {ι : Inj} {w : World}

theorem op_copy (h : Rel P w0 σ ι w) {t t' ty : TypeId} {s s' x x' : Value} {r : Value × Option AW} (e : aCopy P σ t s x = some r) (hs : VRel ι s s') (hx : VRel ι x x') :
    Val P w0 σ ι w (Builtin.copy_ #[t, t'] ty #[s', x']) r := by
  unfold aCopy at e
  split at e <;> try contradiction
  rename_i el base len cap hu
  split at e <;> try contradiction
  rename_i m z hm hz
  simp only at e
  split at e <;> try contradiction
  rename_i xs hxs
  have hlen := fun w => srcLen_spec (P := P) hm hx w
  obtain ⟨xs', hxr, hxrun⟩ := srcCells_spec h hxs hx hm (Nat.min_le_left _ _)
  have hxrun := hxrun w rfl
  split at e
  · have e := ret_eq e; subst e
    cases hs with
    | snil =>
    refine Val.same h (v' := goInt ((Nat.min m len : Nat) : Int)) ?_ (.int _ _)
    simp [Builtin.copy_, run_underlying hu, hlen, run_sizeOf' hz, hxrun]
  · rename_i b o
    cases hs with
    | slice _ _ o' _ _ cap' p hp hc hl ho =>
    split at e
    · rename_i h0
      have e := ret_eq e; subst e
      refine Val.same h (v' := goInt 0) ?_ (.int _ _)
      have hx0 : xs' = [] := by
        have : xs = [] := by
          have h1 : srcCells σ z 0 x = some xs := by rw [← hxs, h0]
          unfold srcCells at h1
          split at h1 <;> simp_all
        rw [this] at hxr
        exact hxr.nil_inv
      subst hx0
      rw [h0] at hxrun
      simp [Builtin.copy_, run_underlying hu, hlen, run_sizeOf' hz, hxrun, storeCells, h0]
    · rename_i n hn
      split at e <;> try contradiction
      rename_i σ' hput
      cases e
      obtain ⟨w', hst, hstep⟩ := putCells_spec (P := P) h hput hp hxr
      have hpos : n + 1 ≤ len := by
        have := Nat.min_le_right m len
        have hn' : Nat.min m len = n + 1 := hn
        rw [← hn']; exact this
      rw [hn] at hxrun
      have ho' := ho (by omega)
      subst ho'
      refine ⟨goInt ((n + 1 : Nat) : Int), w', ι, ?_, hstep, .int _ _⟩
      simp [Builtin.copy_, run_underlying hu, hlen, run_sizeOf' hz, hxrun, hst, hn]
  · cases e

theorem op_clear (h : Rel P w0 σ ι w) {t ty : TypeId} {s s' : Value} {r : Value × Option AW} (e : aClear P σ t s = some r) (hs : VRel ι s s') :
    Val P w0 σ ι w (Builtin.clear_ #[t] ty #[s']) r := by
  unfold aClear at e
  split at e <;> try contradiction
  · rename_i el l c hu
    have e := ret_eq e; subst e
    cases hs
    refine Val.same h (v' := .tuple #[]) ?_ (VRel.undef ι)
    simp [Builtin.clear_, run_underlying hu]
  · rename_i el a c hu
    have e := ret_eq e; subst e
    cases hs with
    | snil =>
      refine Val.same h (v' := .tuple #[]) ?_ (VRel.undef ι)
      simp [Builtin.clear_, run_underlying hu]
    | slice =>
      refine Val.same h (v' := .tuple #[]) ?_ (VRel.undef ι)
      simp [Builtin.clear_, run_underlying hu]
  · rename_i el b o n cap hn hu
    split at e <;> try contradiction
    rename_i z hz
    split at e <;> try contradiction
    rename_i hg
    split at e <;> try contradiction
    rename_i σ' hput
    cases e
    cases hs with
    | slice _ _ o' _ _ cap' p hp hc hl ho =>
    by_cases hz0 : 0 < z.cells.size
    · have hrow : LRel ι (Builtin.zeroCells z.cells n).toList (Builtin.zeroCells z.cells n).toList := ground_row (by
        intro v hv
        exact zero_row hg (n * z.cells.size) (.inr hz0) v (by simpa [Builtin.zeroCells] using hv))
      obtain ⟨w', hst, hstep⟩ := putCells_spec (P := P) h hput hp hrow
      refine ⟨.tuple #[], w', ι, ?_, hstep, VRel.undef ι⟩
      cases n with
      | zero => simp at hn
      | succ n =>
        have ho' := ho (by omega)
        subst ho'
        simp [Builtin.clear_, run_underlying hu, run_zero' hz, hst]
    · have he : (Builtin.zeroCells z.cells n).toList = [] := by
        apply List.length_eq_zero_iff.1
        have hz1 : z.cells.size = 0 := by omega
        simp [zeroCells_size, hz1]
      rw [he] at hput
      obtain ⟨w', hst, hstep⟩ := putCells_spec (P := P) h hput hp (LRel.nil ι)
      refine ⟨.tuple #[], w', ι, ?_, hstep, VRel.undef ι⟩
      have hw' : w' = w := by simp [storeCells] at hst; exact hst.symm
      subst hw'
      cases n with
      | zero => simp at hn
      | succ n => simp [Builtin.clear_, run_underlying hu, run_zero' hz, he, storeCells]

theorem Born.modify {es : List MapEntry} {c : Nat} (h : Born es c) (i : Nat) (f : MapEntry → MapEntry) (hf : ∀ e, (f e).born = e.born) : Born (es.modify i f) c := by
  have hm : (es.modify i f).map (·.born) = es.map (·.born) := by
    apply List.ext_getElem?
    intro j
    simp only [List.getElem?_map, List.getElem?_modify]
    cases es[j]? with
    | none => rfl
    | some y =>
      simp only [Option.map_eq_map, Option.map_some]
      split <;> simp [hf]
  refine ⟨fun e he => ?_, by rw [hm]; exact h.2⟩
  have : e.born ∈ (es.modify i f).map (·.born) := List.mem_map_of_mem he
  rw [hm] at this
  obtain ⟨y, hy, e1⟩ := List.mem_map.1 this
  rw [← e1]; exact h.1 y hy
theorem Born.push {es : List MapEntry} {c : Nat} (h : Born es c) {e : MapEntry} (he : e.born = c) : Born (es ++ [e]) (c + 1) := by
  refine ⟨fun x hx => ?_, ?_⟩
  · rcases List.mem_append.1 hx with hx | hx
    · have := h.1 x hx; omega
    · simp at hx; subst hx; omega
  · rw [List.map_append, List.nodup_append]
    refine ⟨h.2, by simp, fun a ha b hb => ?_⟩
    obtain ⟨x, hx, rfl⟩ := List.mem_map.1 ha
    simp at hb
    have := h.1 x hx
    omega
theorem Born.erase {es : List MapEntry} {c : Nat} (h : Born es c) (i : Nat) : Born (es.eraseIdx i) c :=
  ⟨fun e he => h.1 e (List.mem_of_mem_eraseIdx he), by
    have : (es.eraseIdx i).map (·.born) = (es.map (·.born)).eraseIdx i := by
      apply List.ext_getElem?
      intro j
      simp only [List.getElem?_map, List.getElem?_eraseIdx]
      split <;> simp
    rw [this]
    exact h.2.sublist (List.eraseIdx_sublist _ _)⟩

/-- What an abstract map is in the true world. -/
theorem Rel.map (h : Rel P w0 σ ι w) {b : Nat} {es : List (Value × Value)} (e : σ.get b = some (.map es)) {p : Pl} (hp : ι b = some p) :
    ∃ es' clock, w.heap[p.block]? = some (.map es' clock) ∧ es.length = es'.size ∧
      (∀ (i : Nat) (e : Value × Value) (e' : MapEntry), es[i]? = some e → es'[i]? = some e' → e'.key = e.1 ∧ VRel ι e.2 e'.val) ∧ w0.heap.size ≤ p.block ∧ Born es'.toList clock := by
  obtain ⟨q, hq, r⟩ := h.blk b _ e
  have : q = p := Option.some.inj (hq.symm.trans hp)
  subst this
  exact r

theorem run_getObj_map {r : Nat} {es : Array MapEntry} {c : Nat} (h : w.heap[r]? = some (.map es c)) : (getObj r).run P w = .ok (.map es c) w := by
  simp [getObj, Sem.run, h]

theorem op_len (h : Rel P w0 σ ι w) {t ty : TypeId} {s s' : Value} {r : Value × Option AW} (e : aLen P σ t s = some r) (hs : VRel ι s s') :
    Val P w0 σ ι w (Builtin.len_ #[t] ty #[s']) r := by
  unfold aLen at e
  split at e <;> try contradiction
  · rename_i el a n c hu
    have e := ret_eq e; subst e
    cases hs
    refine Val.same h (v' := goInt n) ?_ (.int _ _)
    simp [Builtin.len_, run_underlying hu]
  · rename_i k v m hu
    split at e <;> try contradiction
    rename_i es hg
    have e := ret_eq e; subst e
    cases hs with
    | map _ p hp =>
    obtain ⟨es', ck, hm, hl, _, _⟩ := h.map hg hp
    refine Val.same h (v' := goInt es.length) ?_ (.int _ _)
    simp [Builtin.len_, run_underlying hu, run_getObj_map hm, hl]

/-- entries -/
def ERel (ι : Inj) (es : List (Value × Value)) (es' : List MapEntry) : Prop :=
  es.length = es'.length ∧ ∀ (i : Nat) (e : Value × Value) (e' : MapEntry), es[i]? = some e → es'[i]? = some e' → e'.key = e.1 ∧ VRel ι e.2 e'.val

theorem ERel.cons_inv {e : Value × Value} {es : List (Value × Value)} {l : List MapEntry} (h : ERel ι (e :: es) l) : ∃ e' t, l = e' :: t ∧ e'.key = e.1 ∧ VRel ι e.2 e'.val ∧ ERel ι es t := by
  cases l with
  | nil => have := h.1; simp at this
  | cons e' t =>
    refine ⟨e', t, rfl, (h.2 0 e e' rfl rfl).1, (h.2 0 e e' rfl rfl).2, by simpa using h.1, fun i x x' a b => h.2 (i + 1) x x' (by simpa using a) (by simpa using b)⟩

theorem findE_spec {kd : TypeDesc} {k : Value} : ∀ (es : List (Value × Value)) (l : List MapEntry) (i : Nat) (r : Option (Nat × Value)), ERel ι es l → findE kd k es i = some r →
    match r with
    | none => Instr.findNow kd k l i = some none
    | some (j, v) => ∃ v', Instr.findNow kd k l i = some (some (j, v')) ∧ VRel ι v v' ∧ i ≤ j ∧ es[j - i]? = some (((es[j - i]?).map (·.1)).getD k, v) ∧ ∃ e', l[j - i]? = some e' ∧ e'.val = v' ∧ Instr.sameNow kd k e'.key = some true
  | [], l, i, r, h, e => by
    have : l = [] := List.length_eq_zero_iff.1 (by simpa using h.1.symm)
    subst this
    simp only [findE] at e
    cases e
    rfl
  | x :: es, l, i, r, h, e => by
    obtain ⟨e', t, rfl, hk, hv, ht⟩ := h.cons_inv
    simp only [findE] at e
    split at e
    · rename_i hsn
      cases e
      refine ⟨e'.val, ?_, hv, Nat.le_refl _, by simp, e', by simp, rfl, by rw [hk]; exact hsn⟩
      simp [Instr.findNow, hk, hsn]
    · rename_i hsn
      have ih := findE_spec es t (i + 1) r ht e
      cases r with
      | none => simp only [Instr.findNow, hk, hsn]; exact ih
      | some jv =>
        obtain ⟨j, v⟩ := jv
        obtain ⟨v', h1, h2, h3, h4, e2, h5, h6, h7⟩ := ih
        have hj : j - i = (j - (i + 1)) + 1 := by omega
        refine ⟨v', by simp only [Instr.findNow, hk, hsn]; exact h1, h2, by omega, ?_, e2, ?_, h6, h7⟩
        · rw [hj]; simpa using h4
        · rw [hj]; simpa using h5
    · cases e

theorem run_checkKey {kd : TypeDesc} {kt : TypeId} {b : Bool} {k : Value} (n : Nat) (hu : P.underlying kt = some kd) (hp : plainKey kd = true) (w : World) : (Instr.checkKey b (n + 1) kt k).run P w = .ok () w := by
  unfold Instr.checkKey
  simp only [Sem.run_bind, run_underlying hu, Result.andThen_ok]
  cases kd <;> first | (simp [plainKey] at hp; done) | rfl

theorem run_findKey {kd : TypeDesc} {kt : TypeId} {k : Value} {l : List MapEntry} {r : Option (Nat × Value)} (hu : P.underlying kt = some kd) (hf : Instr.findNow kd k l 0 = some r) (w : World) : (Instr.findKey kt k l).run P w = .ok r w := by
  simp [Instr.findKey, run_underlying hu, hf]

theorem entriesOf_spec (h : Rel P w0 σ ι w) {m m' : Value} {es : List (Value × Value)} (e : entriesOf σ m = some es) (hm : VRel ι m m') :
    (m' = .map none ∧ es = []) ∨ ∃ r es' ck, m' = .map (some r) ∧ w.heap[r]? = some (.map es' ck) ∧ ERel ι es es'.toList := by
  unfold entriesOf at e
  split at e <;> try contradiction
  · cases e; cases hm; exact .inl ⟨rfl, rfl⟩
  · split at e <;> try contradiction
    rename_i hg
    cases e
    cases hm with
    | map _ p hp =>
    obtain ⟨es', ck, h1, h2, h3, _⟩ := h.map hg hp
    exact .inr ⟨p.block, es', ck, rfl, h1, by simpa using h2, fun i e e' a b => h3 i e e' a (by simpa using b)⟩

theorem okRel {v v' : Value} {ok : Bool} (b : Bool) (h : VRel ι v v') : VRel ι (match ok with | true => .tuple #[v, .bool b] | false => v) (if ok then .tuple #[v', .bool b] else v') := by
  cases ok with
  | false => exact h
  | true => exact .tuple _ _ rfl (fun i x x' a c => by
      match i with
      | 0 => simp at a c; subst a; subst c; exact h
      | 1 => simp at a c; subst a; subst c; exact .bool b
      | i + 2 => simp at a)

theorem bytes_eq {a b : ByteArray} (h : (a == b) = true) : a = b := by
  cases a with | mk x => cases b with | mk y =>
  have : (x == y) = true := h
  rw [eq_of_beq this]
theorem bytes_refl (a : ByteArray) : (a == a) = true := by
  cases a with | mk x =>
  have : (x == x) = true := beq_self_eq_true x
  exact this

theorem op_lookup (h : Rel P w0 σ ι w) {t : TypeId} {m m' k k' : Value} {ok : Bool} {r : Value × Option AW} (e : aLookup P σ t m k ok = some r) (hm : VRel ι m m') (hk : VRel ι k k') :
    Val P w0 σ ι w (Instr.lookup t m' k' ok) r := by
  unfold aLookup at e
  split at e <;> try contradiction
  rename_i kt el hu
  split at e <;> try contradiction
  rename_i kd z es hkd hz hes
  have hmm := entriesOf_spec h hes hm
  have key : ∀ (l : List MapEntry) (v0 v' : Value), ERel ι es l → plainKey kd = true → k' = k → (∀ w, (Instr.lookup t m' k' ok).run P w = .ok v' w) → VRel ι v0 v' → Val P w0 σ ι w (Instr.lookup t m' k' ok) (v0, none) :=
    fun l v0 v' _ _ _ hrun hv => Val.same h (hrun w) hv
  split at e <;> try contradiction
  · rename_i i v hb hf
    simp only [Bool.and_eq_true] at hb
    obtain ⟨⟨hpk, hgz⟩, hgk⟩ := hb
    have e := ret_eq e; subst e
    have hkk := gr_eq hk hgk
    subst hkk
    rcases hmm with ⟨rfl, rfl⟩ | ⟨r, es', ck, rfl, hheap, her⟩
    · simp [findE] at hf
    · obtain ⟨v', h1, h2, _⟩ := findE_spec es es'.toList 0 _ her hf
      have hrun : (Instr.lookup t (.map (some r)) k' ok).run P w = .ok (if ok then .tuple #[v', .bool true] else v') w := by
        simp only [Instr.lookup, Sem.run_bind, run_underlying hu, Result.andThen_ok, run_getObj_map hheap, Sem.run_pure, run_checkKey 9999 hkd hpk, run_findKey hkd h1]
      exact Val.same h hrun (okRel true h2)
  · rename_i hb hf
    simp only [Bool.and_eq_true] at hb
    obtain ⟨⟨hpk, hgz⟩, hgk⟩ := hb
    have e := ret_eq e; subst e
    have hkk := gr_eq hk hgk
    subst hkk
    have hzr := gr_refl ι hgz
    have hres := okRel (ok := ok) false hzr
    rcases hmm with ⟨rfl, rfl⟩ | ⟨r, es', ck, rfl, hheap, her⟩
    · have hrun : (Instr.lookup t (.map none) k' ok).run P w = .ok (if ok then .tuple #[z, .bool false] else z) w := by
        simp only [Instr.lookup, Sem.run_bind, run_underlying hu, Result.andThen_ok, Sem.run_pure, run_checkKey 9999 hkd hpk, run_findKey (l := []) (r := none) hkd rfl, run_zero' hz]
      exact Val.same h hrun hres
    · have h1 := findE_spec es es'.toList 0 _ her hf
      have hrun : (Instr.lookup t (.map (some r)) k' ok).run P w = .ok (if ok then .tuple #[z, .bool false] else z) w := by
        simp only [Instr.lookup, Sem.run_bind, run_underlying hu, Result.andThen_ok, run_getObj_map hheap, Sem.run_pure, run_checkKey 9999 hkd hpk, run_findKey hkd h1, run_zero' hz]
      exact Val.same h hrun hres

theorem run_setObj_map {r : Nat} {es es' : Array MapEntry} {c c' : Nat} (h : w.heap[r]? = some (.map es c)) : (setObj r (.map es' c')).run P w = .ok () { w with heap := w.heap.setIfInBounds r (.map es' c') } := by
  simp [setObj, Sem.run, h]

theorem put_map (h : Rel P w0 σ ι w) {r : Nat} {p : Pl} {es es1 : List (Value × Value)} (hg : σ.get r = some (.map es)) (hp : ι r = some p) {l1 : Array MapEntry} {ck : Nat} (her : ERel ι es1 l1.toList) (hbn : Born l1.toList ck) :
    Step P w0 σ ι w (σ.put r (some (.map es1))) ι { w with heap := w.heap.setIfInBounds p.block (.map l1 ck) } := by
  obtain ⟨es', ck', h1, h2, h3, h4, _⟩ := h.map hg hp
  have hlt : p.block < w.heap.size := by
    obtain ⟨hi, _⟩ := Array.getElem?_eq_some_iff.1 h1; exact hi
  refine Step.put h r _ _ p hg rfl rfl hp rfl rfl rfl (by simp) (fun k _ hk => ?_) ?_
  · show (w.heap.setIfInBounds p.block _)[k]? = _
    rw [Array.getElem?_setIfInBounds, if_neg (by omega)]
  · refine ⟨l1, ck, ?_, by simpa using her.1, fun i e e' a b => her.2 i e e' a (by simpa using b), h4, hbn⟩
    show (w.heap.setIfInBounds p.block _)[p.block]? = _
    rw [Array.getElem?_setIfInBounds, if_pos rfl, if_pos hlt]

theorem sameNow_bits {kd : TypeDesc} {k k' : Value} (h : Instr.sameNow kd k k' = some true) : Instr.sameBits 10000 k' k = true ∧ k' = k := by
  unfold Instr.sameNow at h
  split at h <;> try contradiction
  · rename_i a b c d
    split at h
    · rename_i he; subst he
      have : b = d := by simpa using h
      subst this
      simp [Instr.sameBits]
    · cases h
  · rename_i a b
    have : a = b := bytes_eq (Option.some.inj h)
    subst this; simp [Instr.sameBits, bytes_refl]
  · rename_i a b
    have : a = b := by simpa using h
    subst this; simp [Instr.sameBits]

theorem op_mapUpdate (h : Rel P w0 σ ι w) {t : TypeId} {m m' k k' v v' : Value} {r : Value × Option AW} (e : aMapUpdate P σ t m k v = some r) (hm : VRel ι m m') (hk : VRel ι k k') (hv : VRel ι v v') :
    Unt P w0 σ ι w (Instr.mapUpdate t m' k' v') r := by
  unfold aMapUpdate at e
  split at e <;> try contradiction
  rename_i kt el b hu
  split at e <;> try contradiction
  rename_i kd es hkd hg
  cases hm with
  | map _ p hp =>
  obtain ⟨es', ck, h1, h2, h3, h4, h5⟩ := h.map hg hp
  have her : ERel ι es es'.toList := ⟨by simpa using h2, fun i e e' a b => h3 i e e' a (by simpa using b)⟩
  split at e <;> try contradiction
  · rename_i i v0 hb hf
    simp only [Bool.and_eq_true] at hb
    obtain ⟨hpk, hgk⟩ := hb
    cases e
    have hkk := gr_eq hk hgk
    subst hkk
    obtain ⟨v1, hfn, _, _, he1, e2, he2, _, hsn⟩ := findE_spec es es'.toList 0 _ her hf
    simp only [Nat.sub_zero] at he1 he2
    obtain ⟨hbits, hkey⟩ := sameNow_bits hsn
    have he2' : es'[i]? = some e2 := by simpa using he2
    refine ⟨_, ι, ?_, put_map h hg hp (l1 := es'.modify i fun e => { e with key := k', val := v' }) (ck := ck) ?_ (by rw [Array.toList_modify]; exact h5.modify i _ fun _ => rfl), rfl⟩
    · simp only [Instr.mapUpdate, Sem.run_bind, run_underlying hu, Result.andThen_ok, run_getObj_map h1, run_checkKey 9999 hkd hpk, run_findKey hkd hfn, Instr.keyThatStays, he2', Option.map_some, Option.getD_some, hbits, if_true, Sem.run_pure, run_setObj_map h1]
    · refine ⟨by simp [setAt, h2], fun j x x' a b => ?_⟩
      unfold setAt at a
      rw [List.getElem?_modify] at a
      rw [Array.toList_modify, List.getElem?_modify] at b
      cases hes : es[j]? with
      | none => rw [hes] at a; simp at a
      | some y =>
        cases hes' : es'.toList[j]? with
        | none => rw [hes'] at b; simp at b
        | some y' =>
          rw [hes] at a; rw [hes'] at b
          simp only [Option.map_eq_map, Option.map_some, Option.some.injEq] at a b
          by_cases hij : i = j
          · subst hij
            rw [if_pos rfl] at a b
            subst a; subst b
            have he : y' = e2 := Option.some.inj (hes'.symm.trans he2)
            have h9 := (her.2 i y y' hes hes').1
            rw [he, hkey] at h9
            exact ⟨h9, hv⟩
          · rw [if_neg hij] at a b; subst a; subst b
            exact her.2 j y y' hes hes'
  · rename_i hb hf
    simp only [Bool.and_eq_true] at hb
    obtain ⟨hpk, hgk⟩ := hb
    cases e
    have hkk := gr_eq hk hgk
    subst hkk
    have hfn := findE_spec es es'.toList 0 _ her hf
    simp only at hfn
    refine ⟨_, ι, ?_, put_map h hg hp (l1 := es'.push { key := k', val := v', born := ck }) (ck := ck + 1) ?_ (by rw [Array.toList_push]; exact h5.push rfl), rfl⟩
    · simp only [Instr.mapUpdate, Sem.run_bind, run_underlying hu, Result.andThen_ok, run_getObj_map h1, run_checkKey 9999 hkd hpk, run_findKey hkd hfn, run_setObj_map h1]
    · refine ⟨by simp [h2], fun j x x' a b => ?_⟩
      rw [Array.toList_push] at b
      by_cases hj : j < es.length
      · rw [List.getElem?_append_left hj] at a
        rw [List.getElem?_append_left (by simp; omega)] at b
        exact her.2 j x x' a b
      · rw [List.getElem?_append_right (by omega)] at a
        rw [List.getElem?_append_right (by simp; omega)] at b
        have hlen : es'.toList.length = es.length := by simp [h2]
        rw [hlen] at b
        match hd : j - es.length with
        | 0 => rw [hd] at a b; simp at a b; subst a; subst b; exact ⟨rfl, hv⟩
        | n + 1 => rw [hd] at a; simp at a

theorem op_delete (h : Rel P w0 σ ι w) {t t' ty : TypeId} {m m' k k' : Value} {r : Value × Option AW} (e : aDelete P σ t m k = some r) (hm : VRel ι m m') (hk : VRel ι k k') :
    Val P w0 σ ι w (Builtin.delete_ #[t, t'] ty #[m', k']) r := by
  unfold aDelete at e
  split at e <;> try contradiction
  rename_i kt el b hu
  split at e <;> try contradiction
  rename_i kd es hkd hg
  cases hm with
  | map _ p hp =>
  obtain ⟨es', ck, h1, h2, h3, h4, h5⟩ := h.map hg hp
  have her : ERel ι es es'.toList := ⟨by simpa using h2, fun i e e' a b => h3 i e e' a (by simpa using b)⟩
  split at e <;> try contradiction
  · rename_i i v0 hb hf
    simp only [Bool.and_eq_true] at hb
    obtain ⟨hpk, hgk⟩ := hb
    cases e
    have hkk := gr_eq hk hgk
    subst hkk
    obtain ⟨v1, hfn, _, _, he1, e2, he2, _, hsn⟩ := findE_spec es es'.toList 0 _ her hf
    simp only [Nat.sub_zero] at he1 he2
    refine ⟨.tuple #[], _, ι, ?_, put_map h hg hp (l1 := es'.eraseIdxIfInBounds i) (ck := ck) ?_ (by rw [show (es'.eraseIdxIfInBounds i).toList = es'.toList.eraseIdx i by simp]; exact h5.erase i), VRel.undef ι⟩
    · simp [Builtin.delete_, run_underlying hu, run_getObj_map h1, run_checkKey 9999 hkd hpk, run_findKey hkd hfn, run_setObj_map h1]
    · have hl : (es'.eraseIdxIfInBounds i).toList = es'.toList.eraseIdx i := by simp
      rw [hl]
      refine ⟨by rw [List.length_eraseIdx, List.length_eraseIdx, her.1], fun j x x' a c => ?_⟩
      rw [List.getElem?_eraseIdx] at a c
      split at a
      · rename_i hji
        rw [if_pos hji] at c
        exact her.2 _ x x' a c
      · rename_i hji
        rw [if_neg hji] at c
        exact her.2 _ x x' a c
  · rename_i hb hf
    simp only [Bool.and_eq_true] at hb
    obtain ⟨hpk, hgk⟩ := hb
    have e := ret_eq e; subst e
    have hkk := gr_eq hk hgk
    subst hkk
    have hfn := findE_spec es es'.toList 0 _ her hf
    simp only at hfn
    have hset : { w with heap := w.heap.setIfInBounds p.block (.map es' ck) } = w := by
      have : w.heap.setIfInBounds p.block (.map es' ck) = w.heap := by
        apply Array.ext_getElem?
        intro j
        rw [Array.getElem?_setIfInBounds]
        split
        · rename_i hj; subst hj
          split
          · exact h1.symm
          · rename_i hn; rw [Array.getElem?_eq_none (by omega)] at h1; cases h1
        · rfl
      rw [this]
    refine Val.same h (v' := .tuple #[]) ?_ (VRel.undef ι)
    have := run_setObj_map (P := P) (es' := es') (c' := ck) h1
    rw [hset] at this
    simp [Builtin.delete_, run_underlying hu, run_getObj_map h1, run_checkKey 9999 hkd hpk, run_findKey hkd hfn, this]

end Go.Ai

/- The rest of the operations that do not call. -/
namespace Go.Ai
open Go.RowKit
variable {P : Program} {w0 : World} {σ : AW} {ι : Inj} {w : World}

theorem op_makeSlice (h : Rel P w0 σ ι w) {t : TypeId} {l l' c c' : Value} {r : Value × Option AW} (e : aMakeSlice P σ t l c = some r) (hl : VRel ι l l') (hc : VRel ι c c') :
    Val P w0 σ ι w (Instr.makeSlice t l' c') r := by
  unfold aMakeSlice at e
  split at e <;> try contradiction
  rename_i el l c hu
  split at e <;> try contradiction
  rename_i i hi
  split at e <;> try contradiction
  rename_i z hz
  split at e <;> try contradiction
  rename_i hb
  simp only [Bool.and_eq_true] at hb
  obtain ⟨⟨⟨⟨⟨hg, hsz⟩, h1⟩, hlc⟩, hc20⟩, hbytes⟩ := hb
  have hsz := beq_eq hsz; have h1 := ble_le h1; have hlc := ble_le hlc; have hc20 := ble_le hc20; have hbytes := ble_le hbytes
  cases e
  cases hl
  cases hc
  have hsize : sizeOfT P el = some i.size := by simp [sizeOfT, hi]
  have hzero : (P.info? el).bind (·.zero) = some z := by simp [hi, hz]
  have hrow : LRel ι ((Array.range (c * i.size)).map (z.cells[· % z.cells.size]!)).toList ((Array.range (c * i.size)).map (z.cells[· % z.cells.size]!)).toList := ground_row (zero_row hg _ (.inr (by omega)))
  have hs := newCells_spec (t := el) (loose := false) (k := 0) (z := 0) (rest := []) h (Below.refl _ w) hrow (by simp)
  have hwrap : ∀ n : Nat, n ≤ 2 ^ 20 → IntKind.i64.wrap (Int.ofNat n) = (n : Int) := fun n hn => by
    have := IntWalk.i64_in (n : Int) (by constructor <;> omega)
    exact this
  refine ⟨_, _, _, ?_, hs, .slice _ _ _ _ _ _ _ (Inj.ext_at _ _ _) (.inl ⟨low_small (by omega), rfl⟩) hlc (fun _ => rfl)⟩
  have hmul : (i.bytes : Int) * (c : Int) ≤ 2 ^ 40 := by
    have : i.bytes * c ≤ 2 ^ 20 * 2 ^ 20 := Nat.mul_le_mul hbytes hc20
    have h2 : (2 : Nat) ^ 20 * 2 ^ 20 = 2 ^ 40 := by decide
    rw [h2] at this
    exact_mod_cast this
  have hw1 := hwrap l (by omega)
  have hw2 := hwrap c hc20
  have c1 : ¬ ((c : Int) < 0) := by omega
  have c2 : ¬ ((i.bytes : Int) * (c : Int) > 2 ^ 48) := by omega
  have c3 : ¬ ((l : Int) < 0) := by omega
  have c4 : ¬ ((l : Int) > (c : Int)) := by omega
  have hi' : i.zero = some z := hz
  unfold Instr.makeSlice
  by_cases h0 : c * i.size = 0
  · simp only [Sem.run_bind, run_underlying hu, Result.andThen_ok, asInt, asIntOf, Sem.run_pure, run_info' hi, hw1, hw2, c1, c2, c3, c4, decide_false, Bool.or_self, Bool.false_eq_true, if_false, Int.toNat_natCast, run_askRoom, run_sizeOf' hsize, h0, if_true, newRow, run_newObj]
    simp
    congr 2
    apply Array.ext'
    simp
  · simp only [Sem.run_bind, run_underlying hu, Result.andThen_ok, asInt, asIntOf, Sem.run_pure, run_info' hi, hw1, hw2, c1, c2, c3, c4, decide_false, Bool.or_self, Bool.false_eq_true, if_false, Int.toNat_natCast, run_askRoom, run_sizeOf' hsize, h0, run_zero' hzero, newRow, run_newObj]
    simp
    congr 2
    apply Array.ext'
    simp

theorem byteCells_run : ∀ (l l' : List Value) (bs : List UInt8) (acc : ByteArray), LRel ι l l' → byteCells l = some bs → ∀ w : World,
    (forIn (m := Sem) l' acc fun c s => (match c with
      | .int .u8 n => pure (ForInStep.yield (s.push (UInt8.ofNat n.toNat)))
      | _ => do
        stuck (α := PUnit) "bytesToString: byte expected"
        pure (ForInStep.yield s) : Sem (ForInStep ByteArray))).run P w = .ok ⟨(acc.data.toList ++ bs).toArray⟩ w
  | [], l', bs, acc, h, e, w => by
    rw [h.nil_inv]
    simp only [byteCells] at e; cases e
    simp
  | x :: l, l', bs, acc, h, e, w => by
    obtain ⟨x', t', rfl, hx, ht⟩ := h.cons_inv
    cases x with
    | int k n =>
      cases k with
      | u8 =>
        simp only [byteCells] at e
        split at e <;> try contradiction
        rename_i bl hbl
        cases e
        cases hx
        have ih := byteCells_run l t' bl (acc.push (UInt8.ofNat n.toNat)) ht hbl w
        simp only [List.forIn_cons, Sem.run_bind, Sem.run_pure, Result.andThen_ok]
        rw [ih]
        congr 2
        simp
      | _ => simp [byteCells] at e
    | _ => simp [byteCells] at e

theorem run_stringToBytes (w : World) (el : TypeId) (s : ByteArray) (hs : s.size ≤ 2 ^ 30) : ∃ cap w', s.size ≤ cap ∧ cap ≤ 2 ^ 64 ∧ (Conv.stringToBytes el s).run P w = .ok (.slice (some ⟨w.heap.size, 0, none⟩) s.size cap) w' ∧ Below w.heap.size w w' ∧
    ∃ c, w'.heap[w.heap.size]? = some (.cells c el (c.size, c.size + 1)) ∧ c.size = cap ∧ ∀ (o : Nat) (x : Value), (bytesOf s)[o]? = some x → c[o]? = some x := by
  generalize hcap : (Question.appendCap s.size 0 el).cut (w.tape w.drawn (.appendCap s.size 0 el)) = cap
  have hle : s.size ≤ cap := by rw [← hcap]; simp only [Question.cut]; omega
  have hub : cap ≤ 2 ^ 64 := by
    rw [← hcap]; simp only [Question.cut]
    have : w.tape w.drawn (.appendCap s.size 0 el) % (2 ^ 63 - s.size) < 2 ^ 63 - s.size := Nat.mod_lt _ (by omega)
    omega
  generalize hrow : (s.data.map fun b => Value.int .u8 b.toNat) ++ Array.replicate (cap - s.size) (.int .u8 0) = row
  have hsz : row.size = cap := by
    rw [← hrow]; simp
    have : s.data.size = s.size := rfl
    omega
  let w1 : World := { w with drawn := w.drawn + 1, heap := w.heap.push (.cells row el) }
  refine ⟨cap, w1.freeze ⟨w.heap.size, row.size, none⟩ 1, hle, hub, ?_, ?_, row, ?_, hsz, ?_⟩
  · have hshape : w1.shape? w.heap.size = some (el, row.size) := by simp [w1, World.shape?]
    simp only [Conv.stringToBytes, Sem.run_bind, run_choose, Question.forced, Bool.false_eq_true, if_false, hcap, Result.andThen_ok, newRow, run_newObj, Sem.run_pure, hrow, markStringish, run_shape]
    show ((match w1.shape? w.heap.size with | some (_, n) => freeze { block := w.heap.size, off := n } 1 | _ => pure ()).run P w1).andThen _ = _
    rw [hshape]
    rfl
  · refine ⟨rfl, rfl, rfl, ?_, fun k hk => ?_⟩
    · simp [World.freeze, w1]
    · simp only [World.freeze, w1]
      rw [if_neg (by omega)]
      simp only [Array.getElem?_modify]
      rw [if_neg (by omega), Array.getElem?_push, if_neg (by omega)]
  · simp only [World.freeze, w1]
    rw [if_neg (by omega)]
    simp only []
    rw [Array.getElem?_modify, if_pos rfl, Array.getElem?_push, if_pos rfl]
    simp
  · intro o x hx
    have hss : s.data.size = s.size := rfl
    have ho : o < s.data.size := by
      rcases Nat.lt_or_ge o s.data.size with h | h
      · exact h
      · rw [List.getElem?_eq_none (by simp [bytesOf]; omega)] at hx; cases hx
    rw [← hrow, Array.getElem?_append_left (by simpa using ho)]
    simpa [bytesOf] using hx

theorem op_convert (h : Rel P w0 σ ι w) {s d : TypeId} {x x' : Value} {r : Value × Option AW} (e : aConvert P σ s d x = some r) (hx : VRel ι x x') : Val P w0 σ ι w (convert s d x') r := by
  unfold aConvert at e
  split at e <;> try contradiction
  · rename_i el b hs' hd
    split at e <;> try contradiction
    cases e
    cases hx
    rename_i hu8 hz1 hble
    have hble := ble_le hble
    obtain ⟨cap, w', hle, hub, hrun, hbelow, c, hc, hcs, hrow⟩ := run_stringToBytes (P := P) w el b hble
    have hs := Step.new h (.cells (bytesOf b) el true false) ⟨w.heap.size, 0, cap, 1⟩ hbelow (Nat.le_refl _) (by
      refine ⟨c, c.size, c.size + 1, hc, ?_, ?_, ?_, ?_, fun _ => rfl⟩
      · rw [hcs]; simp [bytesOf]; exact hle
      · intro o x hx
        have := hrow o x hx
        simp only [Nat.zero_add]
        exact ⟨x, this, groundN_refl _ 8 x (bytesOf_plain b x (List.mem_of_getElem? hx))⟩
      · intro _; exact ⟨by simp [hcs], by simp, hz1⟩
      · intro _; exact ⟨h.below.size, .inr (Nat.le_refl _)⟩)
    refine ⟨_, w', _, ?_, hs, VRel.loose (Inj.ext_at _ _ _) hle hub⟩
    simp only [convert, Sem.run_bind, run_underlying hs', run_underlying hd, Result.andThen_ok, run_underlying hu8]
    exact hrun
  · rename_i el0 el b o n cap hs hd
    split at e <;> try contradiction
    rename_i vs t loose hsd hu8 hg
    cases e
    cases hx with
    | slice _ _ o' _ _ cap' p hp hc hl ho =>
    obtain ⟨c, lo, hi, hcc, hsize, hrel, h4, h5⟩ := h.cells hg hp
    obtain ⟨hB, hfr⟩ := h5 rfl
    have hsd := beq_eq hsd
    subst hsd
    rw [hs] at hd
    cases hd
    have hlt : p.block < w.heap.size := by
      obtain ⟨hi, _⟩ := Array.getElem?_eq_some_iff.1 hcc; exact hi
    have hshape : w.shape? p.block = some (t, c.size) := by simp [World.shape?, hcc]
    have hheap : (w.freeze ⟨p.block, c.size, none⟩ 1).heap[p.block]? = some (.cells c t (if lo == hi then (c.size, c.size + 1) else (min lo c.size, max hi (c.size + 1)))) := by
      simp only [World.freeze]
      rw [if_neg (by omega)]
      simp only []
      rw [Array.getElem?_modify, if_pos rfl, hcc]
      simp
    have hstep := Step.put (w' := w.freeze ⟨p.block, c.size, none⟩ 1) h b _ (.cells vs t loose false) p hg rfl rfl hp (by simp [World.freeze]) (by simp [World.freeze]) (by simp [World.freeze]) (by simp [World.freeze])
      (fun k _ hk => by
        simp only [World.freeze]
        rw [if_neg (by omega)]
        simp only []
        rw [Array.getElem?_modify, if_neg (by omega)])
      (by
        by_cases hlh : lo = hi
        · subst hlh
          simp only [beq_self_eq_true, if_true] at hheap
          exact ⟨c, _, _, hheap, hsize, hrel, h4, (fun _ => ⟨hB, .inr (Nat.le_refl _)⟩), h.flat hg hp⟩
        · have hb : (lo == hi) = false := by simpa using hlh
          rw [hb] at hheap
          simp only [Bool.false_eq_true, if_false] at hheap
          refine ⟨c, _, _, hheap, hsize, hrel, h4, (fun _ => ⟨hB, .inr ?_⟩), h.flat hg hp⟩
          rcases hfr with h | h
          · exact (hlh h).elim
          · omega)
    refine ⟨.slice (some ⟨p.block, o', none⟩) n cap', _, ι, ?_, hstep, .slice _ _ _ _ _ _ p hp hc hl ho⟩
    simp only [convert, Sem.run_bind, run_underlying hs, Result.andThen_ok, beq_self_eq_true, run_underlying hu8, markStringish, run_shape, hshape]
    rfl
  · rename_i el b o n cap hs hd
    split at e <;> try contradiction
    rename_i hu8
    cases hx with
    | slice _ _ o' _ _ cap' p hp hc hl ho =>
    split at e
    · have e := ret_eq e; subst e
      refine Val.same h (v' := .string .empty) ?_ (.string _)
      simp only [convert, Sem.run_bind, run_underlying hs, run_underlying hd, Result.andThen_ok, run_underlying hu8]
      simp [Conv.bytesToString, loadCells, loadCellsFrom]
    · rename_i n
      split at e <;> try contradiction
      rename_i l hl2
      split at e <;> try contradiction
      rename_i bs hbs
      have e := ret_eq e; subst e
      obtain ⟨hlen, l', hr, hcell⟩ := cellsAt_spec h hl2 hp
      have ho' := ho (by omega)
      subst ho'
      have hlen' : l'.length = n + 1 := by rw [← hr.1]; exact hlen
      have hld := run_loadCells_list (P := P) w ⟨p.block, p.d + o, none⟩ l' (fun j v hj => by rw [addr_add]; exact hcell j v hj)
      rw [hlen'] at hld
      have hfor := byteCells_run (P := P) l l' bs ByteArray.empty hr hbs w
      refine Val.same h (v' := .string ⟨bs.toArray⟩) ?_ (.string _)
      simp only [convert, Sem.run_bind, run_underlying hs, run_underlying hd, Result.andThen_ok, run_underlying hu8, Conv.bytesToString, hld]
      rw [List.forIn_toArray]
      exact (congrArg (fun r => Result.andThen r (fun a w' => Sem.run P (pure (Value.string a)) w')) hfor).trans (by simp)

theorem op_makeInterface (h : Rel P w0 σ ι w) {t : TypeId} {x x' v : Value} (e : aMakeInterface P t x = some v) (hx : VRel ι x x') : Val P w0 σ ι w (Instr.makeInterface t x') (v, none) := by
  unfold aMakeInterface at e
  split at e <;> try contradiction
  rename_i d hn hu
  cases e
  refine Val.same h (v' := .iface t x') ?_ (.iface t _ _ hx)
  simp only [Instr.makeInterface, Sem.run_bind, run_underlying hu, Result.andThen_ok]
  cases d <;> first | rfl | exact (hn _ rfl).elim

theorem op_typeAssert (h : Rel P w0 σ ι w) {xt t : TypeId} {ok : Bool} {x x' v : Value} (e : aTypeAssert P x t ok = some v) (hx : VRel ι x x') : Val P w0 σ ι w (Instr.typeAssert x' xt t ok) (v, none) := by
  unfold aTypeAssert at e
  split at e <;> try contradiction
  rename_i d u y hn hu
  split at e <;> try contradiction
  rename_i hut
  have hut := beq_eq hut
  subst hut
  cases e
  cases hx with
  | iface _ _ y' hy =>
  refine Val.same h (v' := if ok then .tuple #[y', .bool true] else y') ?_ (okRel true hy)
  simp only [Instr.typeAssert, Sem.run_bind, run_underlying hu, Result.andThen_ok]
  cases d <;> first | (exact (hn _ rfl).elim) | (simp)

theorem op_extract (h : Rel P w0 σ ι w) {i : Nat} {x x' v : Value} (e : aExtract i x = some v) (hx : VRel ι x x') : Val P w0 σ ι w (Instr.extract x' i) (v, none) := by
  unfold aExtract at e
  split at e <;> try contradiction
  rename_i vs
  cases hx with
  | tuple _ c' hc hr =>
  obtain ⟨hi, rfl⟩ := Array.getElem?_eq_some_iff.1 e
  have h' : c'[i]? = some (c'[i]'(by omega)) := by simp
  refine Val.same h (v' := c'[i]'(by omega)) ?_ (hr i _ _ e h')
  simp [Instr.extract, h']

theorem op_range (h : Rel P w0 σ ι w) {t : TypeId} {x x' : Value} {r : Value × Option AW} (e : aRange P σ t x = some r) (hx : VRel ι x x') : Val P w0 σ ι w (Instr.range t x') r := by
  unfold aRange at e
  split at e <;> try contradiction
  rename_i s hu
  cases e
  cases hx
  have hs := Step.new h (.iter s 0) ⟨w.heap.size, 0, 0, 0⟩ (below_push w (.stringIter s 0)) (Nat.le_refl _) ⟨by simp, h.below.size, rfl⟩
  refine ⟨_, _, _, ?_, hs, .ptr _ _ _ (Inj.ext_at _ _ _)⟩
  simp [Instr.range, run_underlying hu]

theorem op_next (h : Rel P w0 σ ι w) {ty : TypeId} {x x' : Value} {r : Value × Option AW} (e : aNext σ x = some r) (hx : VRel ι x x') : Val P w0 σ ι w (Instr.next x' true ty) r := by
  unfold aNext at e
  split at e <;> try contradiction
  rename_i b
  split at e <;> try contradiction
  rename_i s pos hg
  cases hx with
  | ptr _ _ p hp =>
  obtain ⟨q, hq, hb⟩ := h.blk b _ hg
  have : q = p := Option.some.inj (hq.symm.trans hp)
  subst this
  obtain ⟨hb, hB, hd0⟩ := hb
  have hlt : q.block < w.heap.size := by
    obtain ⟨hi, _⟩ := Array.getElem?_eq_some_iff.1 hb; exact hi
  have hget : (getObj q.block).run P w = .ok (.stringIter s pos) w := by simp [getObj, Sem.run, hb]
  have hset : ∀ n, (setObj q.block (.stringIter s n)).run P w = .ok () { w with heap := w.heap.setIfInBounds q.block (.stringIter s n) } := fun n => by simp [setObj, Sem.run, hb]
  split at e
  · rename_i hpos
    have hpos := ble_le hpos
    cases e
    have hstep := Step.put (w' := { w with heap := w.heap.setIfInBounds q.block (.stringIter s (pos + (Utf8.decode s pos).2)) }) h b _ (.iter s (pos + (Utf8.decode s pos).2)) q hg rfl rfl hp rfl rfl rfl (by simp)
      (fun k _ hk => by show (w.heap.setIfInBounds q.block _)[k]? = _; rw [Array.getElem?_setIfInBounds, if_neg (by omega)])
      ⟨by show (w.heap.setIfInBounds q.block _)[q.block]? = _; rw [Array.getElem?_setIfInBounds, if_pos rfl, if_pos hlt], hB, hd0⟩
    refine ⟨_, _, ι, ?_, hstep, gr_refl ι rfl⟩
    rw [hd0]
    simp only [Instr.next, Sem.run_bind, hget, Result.andThen_ok]
    rw [if_pos (by omega)]
    simp only [Sem.run_bind, hset, Result.andThen_ok]
    rfl
  · rename_i hpos
    have hpos := ble_gt hpos
    have e := ret_eq e; subst e
    refine Val.same h (v' := .tuple #[.bool false]) ?_ (gr_refl ι rfl)
    rw [hd0]
    simp only [Instr.next, Sem.run_bind, hget, Result.andThen_ok]
    rw [if_neg (by omega)]
    rfl

theorem op_makeMap (h : Rel P w0 σ ι w) {t : TypeId} : Val P w0 σ ι w (Instr.makeMap t none) (.map (some σ.next), some (σ.new (.map []))) := by
  have hs := Step.new h (.map []) ⟨w.heap.size, 0, 0, 0⟩ (below_push w (.map #[] 0)) (Nat.le_refl _) ⟨#[], 0, by simp, rfl, by simp, h.below.size, by simp [Born]⟩
  refine ⟨_, _, _, ?_, hs, .map _ _ (Inj.ext_at _ _ _)⟩
  simp [Instr.makeMap]

end Go.Ai

/- Operations, calls and code: the interpreter is sound. -/
namespace Go.Ai
open Go.RowKit
variable {P : Program} {w0 : World} {σ : AW} {ι : Inj} {w : World}

/-- What an operation's run comes to, as the machine goes on from it. -/
def NVal (P : Program) (w0 : World) (σ : AW) (ι : Inj) (w : World) (s : Sem Next) (r : Value × Option AW) : Prop :=
  ∃ n v' w' ι', s.run P w = .ok n w' ∧ (n = .value v' ∨ (n = .skip ∧ v' = undef)) ∧ Step P w0 σ ι w (r.2.getD σ) ι' w' ∧ VRel ι' r.1 v'

theorem NVal.ofVal {s : Sem Value} {r : Value × Option AW} (h : Val P w0 σ ι w s r) : NVal P w0 σ ι w (do pure (.value (← s))) r := by
  obtain ⟨v', w', ι', h1, h2, h3⟩ := h
  exact ⟨.value v', v', w', ι', by simp [h1], .inl rfl, h2, h3⟩
theorem NVal.ofUnt {s : Sem Unit} {r : Value × Option AW} (h : Unt P w0 σ ι w s r) : NVal P w0 σ ι w (do s; pure .skip) r := by
  obtain ⟨w', ι', h1, h2, h3⟩ := h
  exact ⟨.skip, undef, w', ι', by simp [h1], .inr ⟨rfl, rfl⟩, h2, by rw [h3]; exact VRel.undef ι'⟩
theorem NVal.same (h : Rel P w0 σ ι w) {v v' : Value} (hv : VRel ι v v') : NVal P w0 σ ι w (pure (.value v')) (v, none) :=
  ⟨.value v', v', w, ι, rfl, .inl rfl, Step.refl h, hv⟩

theorem eval_getD (a : Act) (t : Nat) : a.eval (.tmp t) = a.tmps.toList.getD t undef := by
  simp only [Act.eval, Array.getD_eq_getD_getElem?, List.getD_eq_getElem?_getD, Array.getElem?_toList]

theorem ev_rel (h : Rel P w0 σ ι w) {fr : List Value} {a : Act} (hfr : LRel ι fr a.tmps.toList) {x : Operand} (hx : evOk P x = true) : VRel ι (ev fr x) (a.eval x) := by
  cases x with
  | tmp t => rw [eval_getD]; exact hfr.getD t
  | const v => exact gr_refl ι hx
  | global g =>
    obtain ⟨p, hp, hb, hd⟩ := h.glob g (ble_le hx)
    have := VRel.ptr (ι := ι) g 0 p hp
    rw [hb, hd] at this
    exact this
  | func f => exact .func _ _ _ _ _ rfl rfl rfl (by simp) (by simp)

/-- The operands of an operation. -/
def XRel (ι : Inj) (fr : List Value) (a : Act) (o : Oper) : Prop := ∀ x ∈ o.op.operands.toList, VRel ι (ev fr x) (a.eval x)

theorem XRel.of (h : Rel P w0 σ ι w) {fr : List Value} {a : Act} (hfr : LRel ι fr a.tmps.toList) {o : Oper} (hok : ∀ x ∈ o.op.operands.toList, evOk P x = true) : XRel ι fr a o :=
  fun x hx => ev_rel h hfr (hok x hx)

theorem LRel.map_ev {fr : List Value} {a : Act} : ∀ (l : List Operand), (∀ x ∈ l, VRel ι (ev fr x) (a.eval x)) → LRel ι (l.map (ev fr)) (l.map a.eval)
  | [], _ => LRel.nil ι
  | x :: l, hl => LRel.cons (hl x (by simp)) (LRel.map_ev l fun y hy => hl y (by simp [hy]))
theorem PRel.map_ev {fr : List Value} {a : Act} : ∀ (l : List (Nat × Operand)), (∀ x ∈ l, VRel ι (ev fr x.2) (a.eval x.2)) →
    PRel ι (l.map fun p => (p.1, ev fr p.2)) (l.map fun p => (p.1, a.eval p.2))
  | [], _ => trivial
  | x :: l, hl => ⟨rfl, hl x (by simp), PRel.map_ev l fun y hy => hl y (by simp [hy])⟩
theorem ORel.map_ev {fr : List Value} {a : Act} (x : Option Operand) (hx : ∀ y, x = some y → VRel ι (ev fr y) (a.eval y)) : ORel ι (x.map (ev fr)) (x.map a.eval) := by
  cases x with
  | none => trivial
  | some y => exact hx y rfl

theorem some'_eq {v : Option Value} {r : Value × Option AW} (e : (match v with | some v => ret v | none => none : Out) = some r) : ∃ u, v = some u ∧ r = (u, none) := by
  cases v with
  | none => cases e
  | some u => exact ⟨u, rfl, ret_eq e⟩

theorem aOp_sound (h : Rel P w0 σ ι w) {o : Oper} {fr : List Value} {a : Act} {r : Value × Option AW} (hx : XRel ι fr a o) (e : aOp P o (ev fr) σ = some r) :
    NVal P w0 σ ι w (execOp a.eval o) r := by
  obtain ⟨dst, op, type, pos, after, guard⟩ := o
  have R : ∀ x, x ∈ op.operands.toList → VRel ι (ev fr x) (a.eval x) := hx
  cases op with
  | move x => have e := ret_eq e; subst e; exact NVal.same h (R x (by simp [Op.operands]))
  | assign x => have e := ret_eq e; subst e; exact NVal.same h (R x (by simp [Op.operands]))
  | pick c x y =>
    have hc := R c (by simp [Op.operands])
    have hx := R x (by simp [Op.operands])
    have hy := R y (by simp [Op.operands])
    simp only [aOp] at e
    split at e <;> try contradiction
    · rename_i hb
      have e := ret_eq e; subst e
      rw [hb] at hc
      generalize hcv : a.eval c = cv at hc
      cases hc
      refine ⟨.value (a.eval x), _, w, ι, ?_, .inl rfl, Step.refl h, hx⟩
      simp [execOp, hcv, asBool]
    · rename_i hb
      have e := ret_eq e; subst e
      rw [hb] at hc
      generalize hcv : a.eval c = cv at hc
      cases hc
      refine ⟨.value (a.eval y), _, w, ι, ?_, .inl rfl, Step.refl h, hy⟩
      simp [execOp, hcv, asBool]
  | alloc t => exact NVal.ofVal (op_alloc h e)
  | box t x => exact NVal.ofVal (op_box h e (R x (by simp [Op.operands])))
  | build t ps =>
    obtain ⟨u, hu, rfl⟩ := some'_eq e
    have hp := PRel.map_ev ps.toList (fun x hx => R x.2 (by simp [Op.operands]; exact ⟨x.1, by simpa using hx⟩))
    have := NVal.ofVal (op_build h hu hp)
    have hm : (ps.toList.map fun p => (p.1, a.eval p.2)).toArray = ps.map fun (i, x) => (i, a.eval x) := by
      apply Array.ext'; simp
    rw [hm] at this
    exact this
  | buildSlice t n ps =>
    have hp := PRel.map_ev ps.toList (fun x hx => R x.2 (by simp [Op.operands]; exact ⟨x.1, by simpa using hx⟩))
    have := NVal.ofVal (op_buildSlice h e hp)
    have hm : (ps.toList.map fun p => (p.1, a.eval p.2)).toArray = ps.map fun (i, x) => (i, a.eval x) := by
      apply Array.ext'; simp
    rw [hm] at this
    exact this
  | insert t m k x => exact NVal.ofUnt (op_mapUpdate h e (R m (by simp [Op.operands])) (R k (by simp [Op.operands])) (R x (by simp [Op.operands])))
  | load t x => exact NVal.ofVal (op_load h e (R x (by simp [Op.operands])))
  | store t x y => exact NVal.ofUnt (op_store h e (R x (by simp [Op.operands])) (R y (by simp [Op.operands])))
  | nilCheck x =>
    obtain ⟨u, hu, rfl⟩ := some'_eq e
    have hx := R x (by simp [Op.operands])
    unfold aNilCheck at hu
    split at hu <;> try contradiction
    · rename_i b hb
      cases hu
      rw [hb] at hx
      generalize hxv : a.eval x = xv at hx
      cases hx with
      | ptr a' o' p hp =>
      refine ⟨.value (.pointer (some ⟨p.block, p.d + o', none⟩)), _, w, ι, ?_, .inl rfl, Step.refl h, .ptr _ _ p hp⟩
      simp [execOp, hxv]
    · rename_i f l c hb
      cases hu
      rw [hb] at hx
      generalize hxv : a.eval x = xv at hx
      cases hx with
      | func _ _ f' _ c' hy hf hc rf rc =>
      refine ⟨.value (.func (.func f) f' c'), _, w, ι, ?_, .inl rfl, Step.refl h, .func _ _ _ _ _ hy hf hc rf rc⟩
      simp [execOp, hxv]
    · rename_i t v hb
      cases hu
      rw [hb] at hx
      generalize hxv : a.eval x = xv at hx
      cases hx with
      | iface _ _ v' hv =>
      refine ⟨.value (.iface t v'), _, w, ι, ?_, .inl rfl, Step.refl h, .iface _ _ _ hv⟩
      simp [execOp, hxv]
  | binOp op t x y yt =>
    obtain ⟨u, hu, rfl⟩ := some'_eq e
    exact NVal.ofVal (op_binOp h x y hu (R x (by simp [Op.operands])) (R y (by simp [Op.operands])))
  | convert s d x => exact NVal.ofVal (op_convert h e (R x (by simp [Op.operands])))
  | makeInterface t x =>
    obtain ⟨u, hu, rfl⟩ := some'_eq e
    exact NVal.ofVal (op_makeInterface h hu (R x (by simp [Op.operands])))
  | makeFunc fn f c =>
    simp only [aOp] at e
    split at e <;> try contradiction
    rename_i hy
    have e := ret_eq e; subst e
    refine ⟨.value (.func fn (f.map a.eval) (c.map a.eval)), _, w, ι, rfl, .inl rfl, Step.refl h, .func _ _ _ _ _ hy (by simp) (by simp) ?_ ?_⟩
    · have := LRel.map_ev f.toList (fun x hx => R x (by simp [Op.operands]; exact .inl (by simpa using hx)))
      intro i x x' p q
      exact this.2 i x x' (by simpa using p) (by simpa using q)
    · have := LRel.map_ev c.toList (fun x hx => R x (by simp [Op.operands]; exact .inr (by simpa using hx)))
      intro i x x' p q
      exact this.2 i x x' (by simpa using p) (by simpa using q)
  | makeMap t r' =>
    cases r' with
    | none => cases e; exact NVal.ofVal (op_makeMap h)
    | some r' => cases e
  | makeSlice t l c => exact NVal.ofVal (op_makeSlice h e (R l (by simp [Op.operands])) (R c (by simp [Op.operands])))
  | slice t x lo hi mx =>
    obtain ⟨u, hu, rfl⟩ := some'_eq e
    exact NVal.ofVal (op_slice h hu (R x (by simp [Op.operands])) (ORel.map_ev lo fun y hy => R y (by simp [Op.operands, hy])) (ORel.map_ev hi fun y hy => R y (by simp [Op.operands, hy]))
      (ORel.map_ev mx fun y hy => R y (by simp [Op.operands, hy])))
  | fieldAddr s x f =>
    obtain ⟨u, hu, rfl⟩ := some'_eq e
    exact NVal.ofVal (op_fieldAddr h hu (R x (by simp [Op.operands])))
  | field t x f =>
    obtain ⟨u, hu, rfl⟩ := some'_eq e
    exact NVal.ofVal (op_field h hu (R x (by simp [Op.operands])))
  | indexAddr t x i =>
    obtain ⟨u, hu, rfl⟩ := some'_eq e
    exact NVal.ofVal (op_indexAddr h hu (R x (by simp [Op.operands])) (R i (by simp [Op.operands])))
  | index t x i =>
    obtain ⟨u, hu, rfl⟩ := some'_eq e
    exact NVal.ofVal (op_index h hu (R x (by simp [Op.operands])) (R i (by simp [Op.operands])))
  | lookup t m k ok => exact NVal.ofVal (op_lookup h e (R m (by simp [Op.operands])) (R k (by simp [Op.operands])))
  | mapUpdate t m k x => exact NVal.ofUnt (op_mapUpdate h e (R m (by simp [Op.operands])) (R k (by simp [Op.operands])) (R x (by simp [Op.operands])))
  | range t x => exact NVal.ofVal (op_range h e (R x (by simp [Op.operands])))
  | next it b =>
    cases b with
    | true => exact NVal.ofVal (op_next h e (R it (by simp [Op.operands])))
    | false => cases e
  | typeAssert x xt t ok =>
    obtain ⟨u, hu, rfl⟩ := some'_eq e
    exact NVal.ofVal (op_typeAssert h hu (R x (by simp [Op.operands])))
  | extract x i =>
    obtain ⟨u, hu, rfl⟩ := some'_eq e
    exact NVal.ofVal (op_extract h hu (R x (by simp [Op.operands])))
  | call c =>
    obtain ⟨callee, args, argTypes⟩ := c
    cases callee with
    | value f => cases e
    | invoke f n => cases e
    | builtin b =>
      have RA : ∀ x, x ∈ args.toList → VRel ι (ev fr x) (a.eval x) := fun x hx => R x (by simpa [Op.operands, Call.operands] using hx)
      cases b <;> try (cases e; done)
      case append =>
        simp only [aOp] at e
        split at e <;> try contradiction
        rename_i s x t t' ha ht
        have hA : args = #[s, x] := by apply Array.ext'; simpa using ha
        have hT : argTypes = #[t, t'] := by apply Array.ext'; simpa using ht
        subst hA; subst hT
        have key := NVal.ofVal (op_append (t' := t') (ty := type) h e (RA s (by simp)) (RA x (by simp)))
        have hm : (#[s, x] : Array Operand).map a.eval = #[a.eval s, a.eval x] := by simp
        rw [← hm] at key
        exact key
      case copy =>
        simp only [aOp] at e
        split at e <;> try contradiction
        rename_i s x t t' ha ht
        have hA : args = #[s, x] := by apply Array.ext'; simpa using ha
        have hT : argTypes = #[t, t'] := by apply Array.ext'; simpa using ht
        subst hA; subst hT
        have key := NVal.ofVal (op_copy (t' := t') (ty := type) h e (RA s (by simp)) (RA x (by simp)))
        have hm : (#[s, x] : Array Operand).map a.eval = #[a.eval s, a.eval x] := by simp
        rw [← hm] at key
        exact key
      case clear =>
        simp only [aOp] at e
        split at e <;> try contradiction
        rename_i s t ha ht
        have hA : args = #[s] := by apply Array.ext'; simpa using ha
        have hT : argTypes = #[t] := by apply Array.ext'; simpa using ht
        subst hA; subst hT
        have key := NVal.ofVal (op_clear (ty := type) h e (RA s (by simp)))
        have hm : (#[s] : Array Operand).map a.eval = #[a.eval s] := by simp
        rw [← hm] at key
        exact key
      case len =>
        simp only [aOp] at e
        split at e <;> try contradiction
        rename_i s t ha ht
        have hA : args = #[s] := by apply Array.ext'; simpa using ha
        have hT : argTypes = #[t] := by apply Array.ext'; simpa using ht
        subst hA; subst hT
        have key := NVal.ofVal (op_len (ty := type) h e (RA s (by simp)))
        have hm : (#[s] : Array Operand).map a.eval = #[a.eval s] := by simp
        rw [← hm] at key
        exact key
      case delete =>
        simp only [aOp] at e
        split at e <;> try contradiction
        rename_i s x t t' ha ht
        have hA : args = #[s, x] := by apply Array.ext'; simpa using ha
        have hT : argTypes = #[t, t'] := by apply Array.ext'; simpa using ht
        subst hA; subst hT
        have key := NVal.ofVal (op_delete (t' := t') (ty := type) h e (RA s (by simp)) (RA x (by simp)))
        have hm : (#[s, x] : Array Operand).map a.eval = #[a.eval s, a.eval x] := by simp
        rw [← hm] at key
        exact key
  | _ => cases e

end Go.Ai

/- Operations by the model's own text; what a call enters. -/
namespace Go.Ai
open Go.RowKit
variable {P : Program} {w0 : World} {σ : AW} {ι : Inj} {w : World}

theorem pureRun_spec {α : Type} : ∀ (s : Sem α) (x : α), pureRun P s = some x → ∀ w, s.run P w = .ok x w := by
  intro s
  induction s with
  | pure a => intro x e w; simp only [pureRun] at e; cases e; rfl
  | program k ih => intro x e w; simp only [pureRun] at e; simp only [Sem.run]; exact ih P x e w
  | mark m k ih => intro x e w; simp only [pureRun] at e; simp only [Sem.run]; exact ih x e w
  | _ => intro x e; simp [pureRun] at e

theorem exec_congr {ρ ρ' : Operand → Value} {o : Oper} (hk : gKind o.op = true) (h : ∀ x ∈ o.op.operands.toList, ρ x = ρ' x) : execOp ρ o = execOp ρ' o := by
  obtain ⟨dst, op, type, pos, after, guard⟩ := o
  have R : ∀ x, x ∈ op.operands.toList → ρ x = ρ' x := h
  have O : ∀ (x : Option Operand), (∀ y, x = some y → ρ y = ρ' y) → x.map ρ = x.map ρ' := fun x hx => by cases x with
    | none => rfl
    | some y => simp [hx y rfl]
  have A : ∀ (l : Array Operand), (∀ x ∈ l.toList, ρ x = ρ' x) → l.map ρ = l.map ρ' := fun l hl => by
    apply Array.ext'; simp only [Array.toList_map]; exact List.map_congr_left hl
  cases op <;> try (simp [gKind] at hk; done)
  case binOp op t x y yt => simp only [execOp]; rw [R x (by simp [Op.operands]), R y (by simp [Op.operands])]
  case unOp op t x => simp only [execOp]; rw [R x (by simp [Op.operands])]
  case convert s d x => simp only [execOp]; rw [R x (by simp [Op.operands])]
  case index t x i => simp only [execOp]; rw [R x (by simp [Op.operands]), R i (by simp [Op.operands])]
  case field t x i => simp only [execOp]; rw [R x (by simp [Op.operands])]
  case extract x i => simp only [execOp]; rw [R x (by simp [Op.operands])]
  case typeAssert x t u ok => simp only [execOp]; rw [R x (by simp [Op.operands])]
  case makeInterface t x => simp only [execOp]; rw [R x (by simp [Op.operands])]
  case nilCheck x => simp only [execOp]; rw [R x (by simp [Op.operands])]
  case slice t x lo hi mx =>
    simp only [execOp]
    rw [R x (by simp [Op.operands]), O lo (fun y hy => R y (by simp [Op.operands, hy])), O hi (fun y hy => R y (by simp [Op.operands, hy])), O mx (fun y hy => R y (by simp [Op.operands, hy]))]
  case call c =>
    obtain ⟨callee, args, argTypes⟩ := c
    cases callee with
    | value f =>
      simp only [execOp, resolve]
      rw [R f (by simp [Op.operands, Call.operands]), A args (fun x hx => R x (by simp [Op.operands, Call.operands]; exact .inr (by simpa using hx)))]
    | invoke f n => simp [gKind] at hk
    | builtin b =>
      simp only [execOp, resolve]
      rw [A args (fun x hx => R x (by simp [Op.operands, Call.operands]; exact (by simpa using hx)))]

theorem gOp_sound (h : Rel P w0 σ ι w) {o : Oper} {fr : List Value} {a : Act} {r : Value × Option AW} (hx : XRel ι fr a o) (e : gOp P o (ev fr) = some r) : NVal P w0 σ ι w (execOp a.eval o) r := by
  unfold gOp at e
  split at e <;> try contradiction
  rename_i hb
  simp only [Bool.and_eq_true] at hb
  split at e <;> try contradiction
  rename_i v hv
  split at e <;> try contradiction
  rename_i hg
  have e := ret_eq e; subst e
  have hcong : execOp (ev fr) o = execOp a.eval o := by
    refine exec_congr hb.1 fun x hxm => ?_
    have hgx := List.all_eq_true.1 hb.2 x hxm
    exact (gr_eq (hx x hxm) hgx).symm
  refine ⟨.value v, v, w, ι, ?_, .inl rfl, Step.refl h, gr_refl ι hg⟩
  rw [← hcong]
  exact pureRun_spec _ _ hv w

theorem method_spec (h : Rel P w0 σ ι w) {t : TypeId} {v v' x : Value} {name : String} {f : FuncId} (e : aMethod P σ t v name = some (f, x)) (hv : VRel ι v v') (n : Nat) :
    ∃ x', (method (n + 1) t v' name).run P w = .ok (f, x') w ∧ VRel ι x x' := by
  unfold aMethod at e
  split at e <;> try contradiction
  rename_i i hi
  split at e <;> try contradiction
  rename_i m hm
  split at e <;> try contradiction
  · rename_i f' el hpath hfunc hu
    cases e
    refine ⟨v', ?_, hv⟩
    simp only [method, Sem.run_bind, run_info' hi, Result.andThen_ok, hm, hpath, follow, Sem.run_pure, hfunc, receiverAt, run_underlying hu, Place.get]
  · rename_i f' el hpath hfunc hu
    split at e <;> try contradiction
    rename_i y hld
    cases e
    obtain ⟨y', b, rfl, _, hrun, hy⟩ := aLoad_spec h hld hv
    refine ⟨y', ?_, hy⟩
    have hpe : m.path.isEmpty = true := by
      have : m.path = #[] := by apply Array.ext'; simpa using hpath
      rw [this]; rfl
    simp only [method, Sem.run_bind, run_info' hi, Result.andThen_ok, hm, hpath, follow, Sem.run_pure, hfunc, receiverAt, run_underlying hu, Place.get, hpe, if_true]
    have hssa : ∀ (s s' : String), Builtin.ssaWrapNilChk_ #[t] t #[.pointer (some b), strVal s, strVal s'] = pure (.pointer (some b)) := fun _ _ => rfl
    simp only [hssa, Sem.run_pure, Result.andThen_ok, asAddr, hrun]
  · rename_i f' d hp hpath hfunc hu
    cases e
    refine ⟨v', ?_, hv⟩
    simp only [method, Sem.run_bind, run_info' hi, Result.andThen_ok, hm, hpath, follow, Sem.run_pure, hfunc, receiverAt, run_underlying hu]
    cases d <;> first | rfl | exact (hp _ rfl).elim

end Go.Ai

/- Calls and code: the interpreter is sound. -/
namespace Go.Ai
open Go.RowKit
variable {P : Program} {w0 : World} {σ : AW} {ι : Inj} {w : World} {self : Self} {sums : Sums}

theorem callMethod_spec (h : Rel P w0 σ ι w) {t : TypeId} {v v' x : Value} {name : String} {f : FuncId} (e : aMethod P σ t v name = some (f, x)) (hv : VRel ι v v') (args args' : List Value) (ha : LRel ι args args') :
    ∃ l', (callMethod (.iface t v') name args'.toArray).run P w = (callFunc f l'.toArray).run P w ∧ LRel ι (x :: args) l' := by
  obtain ⟨x', hrun, hx⟩ := method_spec h e hv (P.types.size + (Made.depth - 1))
  have hd : P.types.size + Made.depth = P.types.size + (Made.depth - 1) + 1 := by unfold Made.depth; omega
  refine ⟨x' :: args', ?_, LRel.cons hx ha⟩
  simp only [callMethod, Sem.run_bind, run_program, Result.andThen_ok, hd, hrun]
  congr 2
  apply Array.ext'
  simp

theorem target_spec (h : Rel P w0 σ ι w) {o : Oper} {fr : List Value} {a : Act} {f : FuncId} {args : List Value} (hx : XRel ι fr a o) (e : aTarget P o (ev fr) σ = some (f, args)) :
    ∃ l', (execOp a.eval o).run P w = (callFunc f l'.toArray).run P w ∧ LRel ι args l' := by
  obtain ⟨dst, op, type, pos, after, guard⟩ := o
  have R : ∀ x, x ∈ op.operands.toList → VRel ι (ev fr x) (a.eval x) := hx
  cases op with
  | call c =>
    obtain ⟨callee, cargs, argTypes⟩ := c
    have RA : LRel ι (cargs.toList.map (ev fr)) (cargs.toList.map a.eval) := LRel.map_ev _ (fun y hy => R y (by
      cases callee <;> simp [Op.operands, Call.operands] <;> (first | exact .inr (by simpa using hy) | exact (by simpa using hy))))
    have hargs : cargs.map a.eval = (cargs.toList.map a.eval).toArray := by apply Array.ext'; simp
    cases callee with
    | builtin b => cases e
    | invoke r name =>
      have hr := R r (by simp [Op.operands, Call.operands])
      simp only [aTarget] at e
      split at e <;> try contradiction
      rename_i t v hrv
      split at e <;> try contradiction
      rename_i g x hm
      cases e
      rw [hrv] at hr
      generalize hre : a.eval r = rv at hr
      cases hr with
      | iface _ _ v' hv =>
      obtain ⟨l', hrun, hl⟩ := callMethod_spec h hm hv _ _ RA
      refine ⟨l', ?_, hl⟩
      rw [← hrun]
      simp only [execOp, resolve, Sem.run_bind, Sem.run_pure, Result.andThen_ok, invoke, hre, hargs]
      have h1 : ((#[Value.iface t v'] ++ (cargs.toList.map a.eval).toArray)[0]? : Option Value) = some (.iface t v') := by simp
      have h2 : (#[Value.iface t v'] ++ (cargs.toList.map a.eval).toArray).extract 1 (#[Value.iface t v'] ++ (cargs.toList.map a.eval).toArray).size = (cargs.toList.map a.eval).toArray := by
        apply Array.ext'; simp [List.take_of_length_le]
      simp only [h1, h2]
    | value fv =>
      have hf := R fv (by simp [Op.operands, Call.operands])
      simp only [aTarget] at e
      split at e <;> try contradiction
      · rename_i g first captured hfe
        cases e
        rw [hfe] at hf
        generalize hfv : a.eval fv = fvv at hf
        cases hf with
        | func _ _ first' _ captured' hy hs1 hs2 r1 r2 =>
        have R1 : LRel ι first.toList first'.toList := ⟨by simpa using hs1, fun i x x' p q => r1 i x x' (by simpa using p) (by simpa using q)⟩
        have R2 : LRel ι captured.toList captured'.toList := ⟨by simpa using hs2, fun i x x' p q => r2 i x x' (by simpa using p) (by simpa using q)⟩
        refine ⟨first'.toList ++ cargs.toList.map a.eval ++ captured'.toList, ?_, (R1.append RA).append R2⟩
        simp only [execOp, resolve, Sem.run_bind, hfv, Deferred.ofValue, Sem.run_pure, Result.andThen_ok, invoke, hargs]
        congr 2
        apply Array.ext'
        simp
      · rename_i name first captured hfe
        rw [hfe] at hf
        generalize hfv : a.eval fv = fvv at hf
        cases hf with
        | func _ _ first' _ captured' hy hs1 hs2 r1 r2 =>
        have R1 : LRel ι first.toList first'.toList := ⟨by simpa using hs1, fun i x x' p q => r1 i x x' (by simpa using p) (by simpa using q)⟩
        have R := R1.append RA
        split at e <;> try contradiction
        rename_i recv rest hrr
        rw [hrr] at R
        obtain ⟨recv', rest', hl', hrv, hrest⟩ := R.cons_inv
        split at e <;> try contradiction
        rename_i t v
        split at e <;> try contradiction
        rename_i g x hm
        cases e
        cases hrv with
        | iface _ _ v' hv =>
        obtain ⟨l', hrun, hl⟩ := callMethod_spec h hm hv _ _ hrest
        refine ⟨l', ?_, hl⟩
        rw [← hrun]
        have hA : first' ++ cargs.map a.eval = (Value.iface t v' :: rest').toArray := by
          apply Array.ext'; rw [← hl']; simp
        simp only [execOp, resolve, Sem.run_bind, hfv, Deferred.ofValue, Sem.run_pure, Result.andThen_ok, invoke, hA]
        have h1 : ((Value.iface t v' :: rest').toArray[0]? : Option Value) = some (.iface t v') := by simp
        have h2 : (Value.iface t v' :: rest').toArray.extract 1 (Value.iface t v' :: rest').toArray.size = rest'.toArray := by apply Array.ext'; simp
        simp only [h1, h2]
      · rename_i mt name first captured hfe
        rw [hfe] at hf
        generalize hfv : a.eval fv = fvv at hf
        cases hf with
        | func _ _ first' _ captured' hy hs1 hs2 r1 r2 =>
        have R1 : LRel ι first.toList first'.toList := ⟨by simpa using hs1, fun i x x' p q => r1 i x x' (by simpa using p) (by simpa using q)⟩
        have R := R1.append RA
        split at e <;> try contradiction
        rename_i recv rest hrr
        rw [hrr] at R
        obtain ⟨recv', rest', hl', hrv, hrest⟩ := R.cons_inv
        have hA : first' ++ cargs.map a.eval = (recv' :: rest').toArray := by
          apply Array.ext'; rw [← hl']; simp
        have h1 : ((recv' :: rest').toArray[0]? : Option Value) = some recv' := by simp
        have h2 : (recv' :: rest').toArray.extract 1 (recv' :: rest').toArray.size = rest'.toArray := by apply Array.ext'; simp
        split at e <;> try contradiction
        · rename_i ms hu
          split at e <;> try contradiction
          rename_i t v
          split at e <;> try contradiction
          rename_i g x hm
          cases e
          cases hrv with
          | iface _ _ v' hv =>
          obtain ⟨l', hrun, hl⟩ := callMethod_spec h hm hv _ _ hrest
          refine ⟨l', ?_, hl⟩
          rw [← hrun]
          simp only [execOp, resolve, Sem.run_bind, hfv, Deferred.ofValue, Sem.run_pure, Result.andThen_ok, invoke, hA, h1, h2, run_underlying hu]
        · rename_i d hn hu
          split at e <;> try contradiction
          rename_i g x hm
          cases e
          obtain ⟨l', hrun, hl⟩ := callMethod_spec h hm hrv _ _ hrest
          refine ⟨l', ?_, hl⟩
          rw [← hrun]
          simp only [execOp, resolve, Sem.run_bind, hfv, Deferred.ofValue, Sem.run_pure, Result.andThen_ok, invoke, hA, h1, h2, run_underlying hu]
  | _ => cases e

/-- What code leaves. -/
def exOf : AEx → Exit
  | .normal => .normal
  | .exit id => .exit id
  | .ret => .ret

def Post (P : Program) (w0 : World) (σ : AW) (ι : Inj) (w : World) (ex : AEx) (fr' : List Value) (σ' : AW) (e : Exit) (a : Act) (w' : World) : Prop :=
  e = exOf ex ∧ a.defers = [] ∧ ∃ ι', Step P w0 σ ι w σ' ι' w' ∧ LRel ι' fr' a.tmps.toList

/-- The interpreter of code is sound. -/
def SelfSound (P : Program) (w0 : World) (self : Self) : Prop :=
  ∀ c, codeOk c = true → ∀ fr σ ex fr' σ', self c fr σ = some (ex, fr', σ') → ∀ ι w (a : Act), Rel P w0 σ ι w → LRel ι fr a.tmps.toList → a.defers = [] → Code.wp P c (Post P w0 σ ι w ex fr' σ') a w

/-- What a call leaves. -/
def CPost (P : Program) (w0 : World) (σ : AW) (ι : Inj) (w : World) (r : Value × Option AW) (e : Ending) (w' : World) : Prop :=
  ∃ v' ι', e = .returned v' ∧ Step P w0 σ ι w (r.2.getD σ) ι' w' ∧ VRel ι' r.1 v'

/-- Summaries of functions are sound. -/
def SumsSound (P : Program) (w0 : World) (sums : Sums) : Prop :=
  ∀ f s, sums f = some s → ∀ args σ r, s args σ = some r → ∀ ι w (args' : List Value), Rel P w0 σ ι w → LRel ι args args' → Calls P f args'.toArray w (CPost P w0 σ ι w r)

theorem aRes_spec (h : Rel P w0 σ ι w) {fr : List Value} {tmps : Array Value} (hfr : LRel ι fr tmps.toList) : ∀ (rs : List ResultVar) (l : List Value), aRes P fr σ rs = some l →
    ∃ l', (rs.mapM (m := Sem) fun
      | .tmp t => pure (tmps.getD t undef)
      | .cell a t => do loadVar t (← asAddr (tmps.getD a undef))).run P w = .ok l' w ∧ LRel ι l l'
  | [], l, e => by simp only [aRes] at e; cases e; exact ⟨[], by simp, LRel.nil ι⟩
  | .tmp t :: rs, l, e => by
    simp only [aRes] at e
    split at e <;> try contradiction
    rename_i l1 h1
    cases e
    obtain ⟨l', hl, hr⟩ := aRes_spec h hfr rs l1 h1
    refine ⟨tmps.getD t undef :: l', ?_, LRel.cons ?_ hr⟩
    · simp only [List.mapM_cons, Sem.run_bind, Sem.run_pure, Result.andThen_ok, hl]
    · have := hfr.getD t
      simpa [Array.getD_eq_getD_getElem?, List.getD_eq_getElem?_getD] using this
  | .cell b t :: rs, l, e => by
    simp only [aRes] at e
    split at e <;> try contradiction
    rename_i v l1 h1 h2
    cases e
    obtain ⟨l', hl, hr⟩ := aRes_spec h hfr rs l1 h2
    have hb : VRel ι (fr.getD b undef) (tmps.getD b undef) := by
      have := hfr.getD b
      simpa [Array.getD_eq_getD_getElem?, List.getD_eq_getElem?_getD] using this
    obtain ⟨v', ad, he, _, hrun, hv⟩ := aLoad_spec h h1 hb
    refine ⟨v' :: l', ?_, LRel.cons hv hr⟩
    have has : asAddr (.pointer (some ad)) = pure ad := rfl
    simp only [List.mapM_cons, Sem.run_bind, Sem.run_pure, Result.andThen_ok, hl, he, has, hrun]

theorem results_spec (h : Rel P w0 σ ι w) {fn : Func} {fr : List Value} {tmps : Array Value} (hfr : LRel ι fr tmps.toList) {l : List Value} (e : aRes P fr σ fn.results.toList = some l) :
    ∃ v', (results fn tmps).run P w = .ok v' w ∧ VRel ι (joinRes l) v' := by
  obtain ⟨l', hl, hr⟩ := aRes_spec h hfr _ _ e
  have hm : (fn.results.mapM (m := Sem) fun
      | .tmp t => pure (tmps.getD t undef)
      | .cell a t => do loadVar t (← asAddr (tmps.getD a undef))).run P w = .ok l'.toArray w := by
    rw [Array.mapM_eq_mapM_toList, Sem.run_map, hl]; rfl
  have hrun : (results fn tmps).run P w = .ok (if h : l'.toArray.size = 1 then l'.toArray[0] else .tuple l'.toArray) w := by
    unfold results
    rw [Sem.run_bind]
    exact congrArg (fun r => Result.andThen r fun (vs : Array Value) w' => Sem.run P (pure (if h : vs.size = 1 then vs[0] else .tuple vs)) w') hm
  rw [hrun]
  clear hrun hm hl e
  match l, l', hr with
  | [], [], hr => exact ⟨_, rfl, VRel.undef ι⟩
  | [x], [x'], hr => exact ⟨x', rfl, hr.head⟩
  | x :: y :: l, x' :: y' :: l', hr =>
    refine ⟨.tuple (x' :: y' :: l').toArray, by simp, ?_⟩
    simp only [joinRes]
    exact .tuple _ _ (by simpa using hr.1) (fun i a b p q => hr.2 i a b (by simpa using p) (by simpa using q))
  | [], _ :: _, hr => have := hr.1; simp at this
  | _ :: _, [], hr => have := hr.1; simp at this
  | [_], _ :: _ :: _, hr => have := hr.1; simp at this
  | _ :: _ :: _, [_], hr => have := hr.1; simp at this

/-- The program's code is fit for the interpreter. -/
def ProgOk (P : Program) : Prop := ∀ (f : FuncId) (fn : Func) (c : Code), P.funcs[f]? = some fn → fn.body = some c → codeOk c = true ∧ (fn.name == "runtime.NumGoroutine") = false
theorem progOk_spec (h : progOk P = true) : ProgOk P := by
  intro f fn c hf hc
  have hm : fn ∈ P.funcs.toList := by
    obtain ⟨hi, rfl⟩ := Array.getElem?_eq_some_iff.1 hf
    exact Array.mem_toList_iff.2 (Array.getElem_mem hi)
  have := List.all_eq_true.1 h fn hm
  rw [hc] at this
  simpa using this

theorem aCall_sound (hP : ProgOk P) (hself : SelfSound P w0 self) (hsums : SumsSound P w0 sums) (h : Rel P w0 σ ι w) {f : FuncId} {args args' : List Value} {r : Value × Option AW} (e : aCall P sums self f args σ = some r) (ha : LRel ι args args') :
    Calls P f args'.toArray w (CPost P w0 σ ι w r) ∧ ∃ fn c, P.funcs[f]? = some fn ∧ fn.body = some c := by
  unfold aCall at e
  split at e <;> try contradiction
  rename_i fn hf
  split at e <;> try contradiction
  rename_i c hc
  refine ⟨?_, fn, c, hf, hc⟩
  split at e
  · rename_i s hs
    exact hsums f s hs args σ r e ι w args' h ha
  · split at e <;> try contradiction
    rename_i ex fr σ' hne hrun
    split at e <;> try contradiction
    rename_i l hl
    have hfr0 : LRel ι (args ++ List.replicate (fn.ntmps - args.length) undef) (args'.toArray ++ Array.replicate (fn.ntmps - args'.toArray.size) undef).toList := by
      simp only [Array.toList_append, Array.toList_replicate, List.size_toArray, ← ha.1]
      refine ha.append ⟨rfl, fun i x x' p q => ?_⟩
      rw [p] at q; cases q
      have := List.mem_of_getElem? p
      rw [List.eq_of_mem_replicate this]; exact VRel.undef ι
    have hwp := hself c (hP f fn c hf hc).1 _ _ ex fr σ' hrun ι w { tmps := args'.toArray ++ Array.replicate (fn.ntmps - args'.toArray.size) undef, defers := [] } (h.withMw INF) hfr0 rfl
    refine calls_of_wp hf hc (wp_mono hwp fun e1 a1 w1 hp => ?_)
    obtain ⟨he, hd, ι', hstep, hfr'⟩ := hp
    obtain ⟨v', hv, hrel⟩ := results_spec hstep.rel hfr' hl
    have key : CPost P w0 σ ι w r (.returned v') w1 := by
      split at e
      · rename_i hb
        simp only [Bool.and_eq_true] at hb
        have e := ret_eq e; subst e
        have hbelow := Step.clean hstep (h.withMw INF) (ble_le hb.2)
        have hv' := gr_eq hrel hb.1
        exact ⟨v', ι, rfl, Step.grow h hbelow, by rw [hv']; exact gr_refl ι hb.1⟩
      · cases e
        exact ⟨v', ι', rfl, Step.ofInner INF hstep, hrel⟩
    subst he
    cases ex with
    | normal => exact ⟨hd, v', hv, key⟩
    | ret => exact ⟨hd, v', hv, key⟩
    | exit id => exact (hne id rfl).elim

theorem callFunc_enter (hN : ProgOk P) {f : FuncId} {fn : Func} {c : Code} (hf : P.funcs[f]? = some fn) (hc : fn.body = some c) (args : Array Value) (w : World) : (callFunc f args).run P w = .ok (.enter f args) w := by
  have hn := (hN f fn c hf hc).2
  simp only [callFunc, Sem.run_bind, run_program, Result.andThen_ok, hf, hn, hc, Bool.false_eq_true, if_false]
  rfl

theorem putT_rel {fr : List Value} {a : Act} (hfr : LRel ι fr a.tmps.toList) (d : Option Tmp) {v v' : Value} (hv : VRel ι v v') : LRel ι (putT fr d v) (a.put d v').tmps.toList := by
  cases d with
  | none => exact hfr
  | some t =>
    simp only [putT, Act.put, Array.toList_setIfInBounds]
    exact hfr.set t hv
theorem put_defers (a : Act) (d : Option Tmp) (v : Value) : (a.put d v).defers = a.defers := by cases d <;> rfl

theorem aOper_wp (hN : ProgOk P) (hself : SelfSound P w0 self) (hsums : SumsSound P w0 sums) (h : Rel P w0 σ ι w) {o : Oper} {fr : List Value} {a : Act} (hx : XRel ι fr a o) {r : Value × Option AW}
    (e : aOper P sums self o fr σ = some r) {K : Act → World → Prop} {Q : Exit → Act → World → Prop} (hK : ∀ v' w' ι', Step P w0 σ ι w (r.2.getD σ) ι' w' → VRel ι' r.1 v' → K (a.put o.dst v') w') : o.wp P a w K Q := by
  unfold aOper at e
  split at e <;> try contradiction
  have ofN : NVal P w0 σ ι w (execOp a.eval o) r → o.wp P a w K Q := by
    rintro ⟨n, v', w', ι', hrun, hn, hs, hv⟩
    unfold Oper.wp
    rw [hrun]
    rcases hn with rfl | ⟨rfl, rfl⟩
    · exact hK v' w' ι' hs hv
    · exact hK undef w' ι' hs hv
  split at e
  · rename_i r' he
    cases e
    exact ofN (aOp_sound h hx he)
  · split at e
    · rename_i r' he
      cases e
      exact ofN (gOp_sound h hx he)
    · split at e <;> try contradiction
      rename_i f args ht
      obtain ⟨l', hrun, hl⟩ := target_spec h hx ht
      obtain ⟨hcall, fn, c, hf, hc⟩ := aCall_sound hN hself hsums h e hl
      unfold Oper.wp
      rw [hrun, callFunc_enter hN hf hc]
      refine hcall.mono fun en w' hp => ?_
      obtain ⟨v', ι', rfl, hs, hv⟩ := hp
      exact hK v' w' ι' hs hv

theorem aOper_ok {o : Oper} {fr : List Value} {r : Value × Option AW} (e : aOper P sums self o fr σ = some r) : ∀ x ∈ o.op.operands.toList, evOk P x = true := by
  unfold aOper at e
  split at e <;> try contradiction
  rename_i hall
  exact List.all_eq_true.1 hall

theorem yielded_eq {fr : List Value} {a : Act} (hfr : LRel ι fr a.tmps.toList) (ops : Array Oper) : yielded ops a.tmps = yieldedL ops fr := by
  funext j
  unfold yielded yieldedL
  cases hd : (ops[j]?).bind (·.dst) with
  | none => simp
  | some t =>
    simp only [Option.bind_some]
    cases hx : fr[t]? with
    | none =>
      have := hfr.none hx
      rw [Array.getElem?_toList] at this
      rw [this]
    | some x =>
      obtain ⟨x', hx', hv⟩ := hfr.get hx
      rw [Array.getElem?_toList] at hx'
      rw [hx']
      cases hv <;> rfl

theorem Post.trans (h : Rel P w0 σ ι w) {σ1 : AW} {ι1 : Inj} {w1 : World} (hs : Step P w0 σ ι w σ1 ι1 w1) {ex : AEx} {fr' : List Value} {σ' : AW} {e : Exit} {a : Act} {w' : World} (hp : Post P w0 σ1 ι1 w1 ex fr' σ' e a w') :
    Post P w0 σ ι w ex fr' σ' e a w' := by
  obtain ⟨h1, h2, ι', h3, h4⟩ := hp
  exact ⟨h1, h2, ι', Step.trans h hs h3, h4⟩

theorem aSeq_sound (hN : ProgOk P) (hself : SelfSound P w0 self) (hsums : SumsSound P w0 sums) (ops : Array Oper) : ∀ (l : List Oper) (fr : List Value) (σ : AW) (fr' : List Value) (σ' : AW), aSeq P sums self ops l fr σ = some (fr', σ') →
    ∀ ι w (a : Act) (Q : Exit → Act → World → Prop), (∀ ex a1 w1, Post P w0 σ ι w .normal fr' σ' ex a1 w1 → Q ex a1 w1) → Rel P w0 σ ι w → LRel ι fr a.tmps.toList → a.defers = [] → wpList P ops Q l a w
  | [], fr, σ, fr', σ', e, ι, w, a, Q, hQ, h, hfr, hd => by
    simp only [aSeq] at e; cases e
    exact hQ _ _ _ ⟨rfl, hd, ι, Step.refl h, hfr⟩
  | o :: rest, fr, σ, fr', σ', e, ι, w, a, Q, hQ, h, hfr, hd => by
    simp only [aSeq] at e
    unfold wpList
    rw [yielded_eq hfr ops]
    split at e
    · rename_i hw
      rw [if_pos hw]
      split at e <;> try contradiction
      rename_i v u ho
      refine .inl (aOper_wp hN hself hsums h (XRel.of h hfr (aOper_ok ho)) ho fun v' w' ι' hs hv => ?_)
      exact aSeq_sound hN hself hsums ops rest _ _ _ _ e ι' w' (a.put o.dst v') Q (fun ex a1 w1 hp => hQ _ _ _ (hp.trans h hs)) hs.rel (putT_rel (hfr.mono hs.le) o.dst hv) (by rw [put_defers]; exact hd)
    · rename_i hw
      rw [if_neg (by rw [hw]; simp)]
      exact aSeq_sound hN hself hsums ops rest _ _ _ _ e ι w (a.put o.dst undef) Q hQ h (putT_rel hfr o.dst (VRel.undef ι)) (by rw [put_defers]; exact hd)

theorem aLoop_sound (hself : SelfSound P w0 self) {c : Code} (hck : codeOk c = true) : ∀ (n : Nat) (fr : List Value) (σ : AW) (ex : AEx) (fr' : List Value) (σ' : AW), aLoop self c n fr σ = some (ex, fr', σ') → ex ≠ .normal ∧
    ∀ ι w (a : Act) (Q : Exit → Act → World → Prop), (∀ e a1 w1, Post P w0 σ ι w ex fr' σ' e a1 w1 → Q e a1 w1) → Rel P w0 σ ι w → LRel ι fr a.tmps.toList → a.defers = [] → Code.rounds P c Q n a w
  | 0, _, _, _, _, _, e => by cases e
  | n + 1, fr, σ, ex, fr', σ', e => by
    simp only [aLoop] at e
    split at e
    · rename_i fr1 σ1 h1
      obtain ⟨hne, ih⟩ := aLoop_sound hself hck n fr1 σ1 ex fr' σ' e
      refine ⟨hne, fun ι w a Q hQ h hfr hd => ?_⟩
      rw [rounds_succ]
      refine wp_mono (hself c hck fr σ _ _ _ h1 ι w a h hfr hd) fun e1 a1 w1 hp => ?_
      obtain ⟨rfl, hd1, ι1, hs1, hfr1⟩ := hp
      exact ih ι1 w1 a1 Q (fun e2 a2 w2 hp2 => hQ _ _ _ (hp2.trans h hs1)) hs1.rel hfr1 hd1
    · rename_i r hne
      refine ⟨fun hx => hne fr' σ' (by rw [e, hx]), fun ι w a Q hQ h hfr hd => ?_⟩
      rw [rounds_succ]
      refine wp_mono (hself c hck fr σ _ _ _ e ι w a h hfr hd) fun e1 a1 w1 hp => ?_
      obtain ⟨rfl, hd1, ι1, hs1, hfr1⟩ := hp
      cases ex with
      | normal => exact (hne fr' σ' e).elim
      | exit id => exact hQ _ _ _ ⟨rfl, hd1, ι1, hs1, hfr1⟩
      | ret => exact hQ _ _ _ ⟨rfl, hd1, ι1, hs1, hfr1⟩

end Go.Ai

/- Regions whose order is open: the interpreter is sound. -/
namespace Go.Ai
open Go.RowKit
variable {P : Program} {w0 : World} {σ : AW} {ι : Inj} {w : World} {self : Self} {sums : Sums} {ops : Array Oper}

/-- Sets of operations that hold, with one, all that stand ahead of it. -/
def Down (ops : Array Oper) (S : Nat → Prop) : Prop := ∀ (i : Nat) (o : Oper), ops[i]? = some o → S i → ∀ e ∈ o.after.toList, Region.binds .any e = true → S e.on

theorem maskOf_spec {ms : List Nat} : ∀ (l : List Edge) (i : Nat), (maskOf ms l).testBit i = true → ∃ e ∈ l, Region.binds .any e = true ∧ (i = e.on ∨ (ms.getD e.on 0).testBit i = true)
  | [], i, h => by simp [maskOf] at h
  | e :: r, i, h => by
    simp only [maskOf] at h
    split at h
    · rename_i hb
      rw [Nat.testBit_or, Nat.testBit_or, Bool.or_eq_true, Bool.or_eq_true, Nat.testBit_two_pow] at h
      rcases h with (h | h) | h
      · exact ⟨e, by simp, hb, .inl (by simpa using (of_decide_eq_true h).symm)⟩
      · exact ⟨e, by simp, hb, .inr h⟩
      · obtain ⟨e', he', hb', hh⟩ := maskOf_spec r i h
        exact ⟨e', by simp [he'], hb', hh⟩
    · obtain ⟨e', he', hb', hh⟩ := maskOf_spec r i h
      exact ⟨e', by simp [he'], hb', hh⟩

theorem getD_append_lt {α : Type} {l : List α} {x d : α} {i : Nat} (h : i < l.length) : (l ++ [x]).getD i d = l.getD i d := by
  rw [List.getD_eq_getElem?_getD, List.getD_eq_getElem?_getD, List.getElem?_append_left h]
theorem getD_append_at {α : Type} {l : List α} {x d : α} : (l ++ [x]).getD l.length d = x := by
  rw [List.getD_eq_getElem?_getD]; simp

theorem masks_spec {S : Nat → Prop} (hS : Down ops S) : ∀ (l : List Oper) (ms : List Nat), (∀ k, l[k]? = ops[ms.length + k]?) →
    (∀ j i, (ms.getD j 0).testBit i = true → S j → S i) → ∀ j i, ((masks l ms).getD j 0).testBit i = true → S j → S i
  | [], ms, _, h, j, i, hb, hj => h j i hb hj
  | o :: r, ms, hl, h, j, i, hb, hj => by
    refine masks_spec hS r (ms ++ [maskOf ms o.after.toList]) (fun k => ?_) (fun j i hb hj => ?_) j i hb hj
    · have := hl (k + 1)
      simp only [List.getElem?_cons_succ] at this
      rw [this]; congr 1; simp; omega
    · by_cases hlt : j < ms.length
      · rw [getD_append_lt hlt] at hb; exact h j i hb hj
      · by_cases he : j = ms.length
        · subst he
          rw [getD_append_at] at hb
          obtain ⟨e, he, hbd, hh⟩ := maskOf_spec _ _ hb
          have ho : ops[ms.length]? = some o := by have := hl 0; simpa using this.symm
          have hSe := hS _ _ ho hj e he hbd
          rcases hh with rfl | hh
          · exact hSe
          · exact h _ _ hh hSe
        · rw [List.getD_eq_getElem?_getD, List.getElem?_eq_none (by simp; omega)] at hb
          simp at hb

theorem mask_spec {S : Nat → Prop} (hS : Down ops S) (j i : Nat) (hb : ((masks ops.toList []).getD j 0).testBit i = true) (hj : S j) : S i :=
  masks_spec hS ops.toList [] (by simp) (by simp) j i hb hj

/-- The frame behind the first so many operations. -/
def frameAt (ops : Array Oper) (fr : List Value) (V : Nat → Value) : Nat → List Value
  | 0 => fr
  | j + 1 => putT (frameAt ops fr V j) ((ops[j]?).bind (·.dst)) (V j)

theorem eraseIv_get (m : Trie) (lo : Nat) : ∀ (n x : Nat), (eraseIv m lo n).get x = if lo ≤ x ∧ x < lo + n then none else m.get x
  | 0, x => by rw [if_neg (by omega)]; rfl
  | n + 1, x => by
    rw [eraseIv, Trie.get_set, eraseIv_get m lo n x]
    by_cases h : x = lo + n
    · rw [if_pos h, if_pos (by omega)]
    · rw [if_neg h]
      by_cases h2 : lo ≤ x ∧ x < lo + n
      · rw [if_pos h2, if_pos (by omega)]
      · rw [if_neg h2, if_neg (by omega)]
theorem viewMem_some (mask : Nat) {x : Nat} {b : Blk} : ∀ (l : List (Nat × Nat × Nat)) (m : Trie), (viewMem mask l m).get x = some b → m.get x = some b ∧ ∀ y ∈ l, y.2.1 ≤ x → x < y.2.1 + (y.2.2 - y.2.1) → mask.testBit y.1 = true
  | [], m, h => ⟨h, by simp⟩
  | y :: r, m, h => by
    simp only [viewMem] at h
    split at h
    · rename_i hb
      obtain ⟨h1, h2⟩ := viewMem_some mask r m h
      refine ⟨h1, fun z hz => ?_⟩
      rcases List.mem_cons.1 hz with rfl | hz
      · intro _ _; exact hb
      · exact h2 z hz
    · obtain ⟨h1, h2⟩ := viewMem_some mask r _ h
      rw [eraseIv_get] at h1
      split at h1
      · cases h1
      · rename_i hn
        refine ⟨h1, fun z hz => ?_⟩
        rcases List.mem_cons.1 hz with rfl | hz
        · intro a b; exact (hn ⟨a, b⟩).elim
        · exact h2 z hz
theorem viewMem_eq (mask : Nat) {x : Nat} : ∀ (l : List (Nat × Nat × Nat)) (m : Trie), (∀ y ∈ l, y.2.1 ≤ x → x < y.2.1 + (y.2.2 - y.2.1) → mask.testBit y.1 = true) → (viewMem mask l m).get x = m.get x
  | [], m, h => rfl
  | y :: r, m, h => by
    simp only [viewMem]
    split
    · exact viewMem_eq mask r m fun z hz => h z (by simp [hz])
    · rename_i hb
      rw [viewMem_eq mask r _ fun z hz => h z (by simp [hz]), eraseIv_get, if_neg]
      intro hx
      rw [h y (by simp) hx.1 hx.2] at hb; cases hb
theorem copyIv_spec (src : Trie) (lo : Nat) : ∀ (n : Nat) (m m' : Trie), copyIv src lo n m = some m' → (∀ x, m'.get x = if lo ≤ x ∧ x < lo + n then src.get x else m.get x) ∧ ∀ x b, lo ≤ x → x < lo + n → src.get x = some b → b.rw = true
  | 0, m, m', h => by
    simp only [copyIv] at h; cases h
    exact ⟨fun x => by rw [if_neg (by omega)], fun x b h1 h2 => by omega⟩
  | n + 1, m, m', h => by
    simp only [copyIv] at h
    split at h <;> try contradiction
    rename_i m1 h1
    obtain ⟨g1, g2⟩ := copyIv_spec src lo n m m1 h1
    have key : ∀ v, v = src.get (lo + n) → ∀ x, (m1.set (lo + n) v).get x = if lo ≤ x ∧ x < lo + (n + 1) then src.get x else m.get x := by
      intro v hv x
      rw [Trie.get_set, g1]
      by_cases e : x = lo + n
      · rw [if_pos e, if_pos (by omega), hv, e]
      · rw [if_neg e]
        by_cases h2 : lo ≤ x ∧ x < lo + n
        · rw [if_pos h2, if_pos (by omega)]
        · rw [if_neg h2, if_neg (by omega)]
    split at h
    · rename_i b hb
      split at h <;> try contradiction
      rename_i hrw
      cases h
      refine ⟨key _ hb.symm, fun x b' h2 h3 h4 => ?_⟩
      by_cases e : x = lo + n
      · subst e; rw [hb] at h4; cases h4; exact hrw
      · exact g2 x b' h2 (by omega) h4
    · rename_i hb
      cases h
      refine ⟨key _ hb.symm, fun x b' h2 h3 h4 => ?_⟩
      by_cases e : x = lo + n
      · subst e; rw [hb] at h4; cases h4
      · exact g2 x b' h2 (by omega) h4

/-- The states of a region's run in the text's order. -/
abbrev Hist := Nat → List Value × DX
def Hist.K (f : Hist) (j : Nat) : Nat := (f j).2.cur.next
def Hist.C (f : Hist) (j : Nat) : AW := (f j).2.cur
def Hist.V (f : Hist) (j : Nat) : Value := (f (j + 1)).2.vs.getD j undef
/-- An operation that wrote; one that made blocks alone; one that read. -/
def Hist.Bar (f : Hist) (j : Nat) : Prop := (f (j + 1)).2.b0 = j + 1
def Hist.Cln (f : Hist) (j : Nat) : Prop := (f (j + 1)).2.segs = (j, f.K j, f.K (j + 1)) :: (f j).2.segs
def Hist.Rd (f : Hist) (j : Nat) : Prop := (f (j + 1)).2.reads = j :: (f j).2.reads

theorem go_hist {ms : List Nat} : ∀ (l : List Oper) (s s' : List Value × DX), aDrawGo P sums self ops ms l s = some s' → ∃ f : Hist, f 0 = s ∧ f l.length = s' ∧ ∀ (j : Nat) (o : Oper), l[j]? = some o → dstep P sums self ops ms o (f j) = some (f (j + 1))
  | [], s, s', e => by simp only [aDrawGo] at e; cases e; exact ⟨fun _ => s, rfl, rfl, fun j o h => by simp at h⟩
  | o :: rest, s, s', e => by
    simp only [aDrawGo] at e
    split at e <;> try contradiction
    rename_i s1 h1
    obtain ⟨f, hf0, hfl, hf⟩ := go_hist rest s1 s' e
    refine ⟨fun | 0 => s | j + 1 => f j, rfl, hfl, fun j o' h => ?_⟩
    cases j with
    | zero => simp at h; subst h; show dstep P sums self ops ms _ s = some (f 0); rw [hf0]; exact h1
    | succ j => exact hf j o' (by simpa using h)

/-- What is known of operation j. -/
inductive Kd (P : Program) (sums : Sums) (slf : Self) (ops : Array Oper) (ms : List Nat) (f : Hist) (j : Nat) (o : Oper) : Prop
  | skip (hw : Region.wanted o (yieldedL ops (f j).1) = false) (e : f (j + 1) = (putT (f j).1 o.dst undef, (f j).2.quiet undef))
  | pure (v : Value) (hw : Region.wanted o (yieldedL ops (f j).1) = true) (hp : pureOp o.op = true) (he : aOper P sums slf o (f j).1 bot = some (v, none)) (e : f (j + 1) = (putT (f j).1 o.dst v, (f j).2.quiet v))
  | read (v : Value) (view : AW) (hw : Region.wanted o (yieldedL ops (f j).1) = true) (hv : (f j).2.view ms = some view) (he : aOper P sums slf o (f j).1 view = some (v, none))
      (e : f (j + 1) = (putT (f j).1 o.dst v, { (f j).2 with j := (f j).2.j + 1, vs := (f j).2.vs ++ [v], reads := (f j).2.j :: (f j).2.reads }))
  | still (v : Value) (b : Nat) (hw : Region.wanted o (yieldedL ops (f j).1) = true) (hl : loadStill P ops ms o (ev (f j).1) (f j).2 = some (v, b)) (e : f (j + 1) = (putT (f j).1 o.dst v, (f j).2.still v b))
  | clean (v : Value) (view out : AW) (m : Trie) (hw : Region.wanted o (yieldedL ops (f j).1) = true) (hv : (f j).2.view ms = some view) (he : aOper P sums slf o (f j).1 view = some (v, some out))
      (h1 : (f j).2.cur.next ≤ out.next) (h2 : (f j).2.cur.next ≤ out.mw) (hm : copyIv out.mem (f j).2.cur.next (out.next - (f j).2.cur.next) (f j).2.cur.mem = some m) (e : f (j + 1) = (putT (f j).1 o.dst v, (f j).2.made v out m))
  | bar (v : Value) (view out : AW) (hw : Region.wanted o (yieldedL ops (f j).1) = true) (hv : (f j).2.view ms = some view) (he : aOper P sums slf o (f j).1 view = some (v, some out))
      (h1 : (f j).2.cur.next ≤ out.next) (hs : ∀ x ∈ (f j).2.segs, (ms.getD (f j).2.j 0).testBit x.1 = true) (hr : ∀ r ∈ (f j).2.reads, (ms.getD (f j).2.j 0).testBit r = true) (wr' : List Nat) (wild' : Bool) (hmk : (∃ b, memN b (f j).2.stl = false ∧ wr' = b :: (f j).2.wr ∧ wild' = (f j).2.wild ∧ ∀ x, x ≠ b → out.get x = view.get x) ∨ ((f j).2.stl = [] ∧ wild' = true ∧ wr' = (f j).2.wr)) (e : f (j + 1) = (putT (f j).1 o.dst v, { (f j).2.wrote v out with wr := wr', wild := wild' }))

theorem memN_spec {b : Nat} : ∀ {l : List Nat}, memN b l = false → b ∉ l
  | [], _ => by simp
  | x :: r, h => by
    unfold memN at h
    split at h
    · cases h
    · rename_i hb
      intro hm
      rcases List.mem_cons.1 hm with rfl | hm
      · rw [Nat.beq_refl] at hb; cases hb
      · exact memN_spec h hm
theorem store_out {o : Oper} {fr : List Value} {view out : AW} {v : Value} {b : Nat} (h : aOper P sums self o fr view = some (v, some out)) (ht : tgt o (ev fr) = some b) : ∀ x, x ≠ b → out.get x = view.get x := by
  obtain ⟨dst, op, type, pos, after, guard⟩ := o
  unfold tgt at ht
  cases op <;> try contradiction
  rename_i t a x
  simp only at ht
  split at ht <;> try contradiction
  rename_i b' off hea
  cases ht
  unfold aOper at h
  split at h <;> try contradiction
  have h1 : aOp P { dst := dst, op := .store t a x, type := type, pos := pos, after := after, guard := guard } (ev fr) view = aStore P view t (ev fr a) (ev fr x) := rfl
  rw [h1, hea] at h
  have h2 : gOp P { dst := dst, op := .store t a x, type := type, pos := pos, after := after, guard := guard } (ev fr) = none := rfl
  have h3 : aTarget P { dst := dst, op := .store t a x, type := type, pos := pos, after := after, guard := guard } (ev fr) view = none := rfl
  rw [h2, h3] at h
  simp only at h
  split at h <;> try contradiction
  rename_i r hr
  cases h
  unfold aStore at hr
  simp only at hr
  split at hr <;> try contradiction
  split at hr <;> try contradiction
  split at hr <;> try contradiction
  rename_i σ1 hp
  cases hr
  unfold putCells at hp
  split at hp <;> try contradiction
  split at hp <;> try contradiction
  cases hp
  intro y hy
  rw [AW.get_put, if_neg hy]
theorem mark_same {s s' : DX} {o : Oper} {e : Operand → Value} (h : s.mark o e = some s') (hb : s.b0 ≠ s.j) : s' = s := by
  unfold DX.mark at h
  split at h
  · cases h; rfl
  · rename_i hbe; exact (hb (beq_eq hbe)).elim
theorem mark_bar {s s' : DX} {o : Oper} {e : Operand → Value} (h : s.mark o e = some s') (hb : s.b0 = s.j) : ∃ wr' wild', s' = { s with wr := wr', wild := wild' } ∧ ((∃ b, memN b s.stl = false ∧ wr' = b :: s.wr ∧ wild' = s.wild ∧ tgt o e = some b) ∨ (s.stl = [] ∧ wild' = true ∧ wr' = s.wr)) := by
  unfold DX.mark at h
  split at h
  · rename_i hbe; rw [hb, Nat.beq_refl] at hbe; cases hbe
  · split at h
    · rename_i b ht
      split at h
      · cases h
      · rename_i hm
        cases h
        exact ⟨_, _, rfl, .inl ⟨b, hm, rfl, rfl, ht⟩⟩
    · split at h
      · rename_i hs
        cases h
        exact ⟨s.wr, true, rfl, .inr ⟨hs, rfl, rfl⟩⟩
      · cases h
theorem kd_of {ms : List Nat} {f : Hist} {j : Nat} {o : Oper} (hb0 : (f j).2.b0 ≤ (f j).2.j) (h : dstep P sums self ops ms o (f j) = some (f (j + 1))) : Kd P sums self ops ms f j o := by
  unfold dstep at h
  split at h
  · rename_i hw; exact .skip hw (Option.some.inj h).symm
  · rename_i hw
    split at h
    · rename_i hp
      split at h <;> try contradiction
      rename_i v hv
      exact .pure v hw hp hv (Option.some.inj h).symm
    · split at h
      · rename_i v b hl
        exact .still v b hw hl (Option.some.inj h).symm
      · split at h <;> try contradiction
        rename_i view hview
        split at h <;> try contradiction
        rename_i v u hv
        split at h <;> try contradiction
        rename_i s' hs'
        split at h <;> try contradiction
        rename_i s2 hs2
        have e := (Option.some.inj h).symm
        cases u with
        | none =>
          simp only [DX.after] at hs'; cases hs'
          have := mark_same hs2 (by simp only; omega)
          subst this
          exact .read v view hw hview hv e
        | some out =>
          simp only [DX.after] at hs'
          split at hs' <;> try contradiction
          rename_i h1
          split at hs'
          · rename_i h2
            split at hs' <;> try contradiction
            rename_i m hm
            cases hs'
            have := mark_same hs2 (by simp only [DX.made]; omega)
            subst this
            exact .clean v view out m hw hview hv (ble_le h1) (ble_le h2) hm e
          · split at hs' <;> try contradiction
            rename_i h3
            cases hs'
            simp only [Bool.and_eq_true] at h3
            obtain ⟨wr', wild', rfl, hmk⟩ := mark_bar hs2 rfl
            refine .bar v view out hw hview hv (ble_le h1) (fun x hx => List.all_eq_true.1 h3.1 x hx) (fun x hx => List.all_eq_true.1 h3.2 x hx) wr' wild' ?_ e
            rcases hmk with ⟨b, g1, g2, g3, g4⟩ | hmk
            · exact .inl ⟨b, g1, g2, g3, store_out hv g4⟩
            · exact .inr hmk

/-- What holds of the state ahead of operation j. -/
structure SI (ops : Array Oper) (fr : List Value) (σ : AW) (f : Hist) (j : Nat) : Prop where
  jj : (f j).2.j = j
  vl : (f j).2.vs.length = j
  frm : (f j).1 = frameAt ops fr f.V j
  b0le : (f j).2.b0 ≤ j
  b0b : (f j).2.b0 = 0 ∨ ∃ b, (f j).2.b0 = b + 1 ∧ f.Bar b
  nob : ∀ i, (f j).2.b0 ≤ i → i < j → ¬ f.Bar i
  bs : ∀ b, b < j → f.Bar b → b ∈ (f j).2.bs
  segs : ∀ x ∈ (f j).2.segs, (f j).2.b0 ≤ x.1 ∧ x.1 < j ∧ f.Cln x.1 ∧ x.2.1 = f.K x.1 ∧ x.2.2 = f.K (x.1 + 1)
  segs' : ∀ i, (f j).2.b0 ≤ i → i < j → f.Cln i → (i, f.K i, f.K (i + 1)) ∈ (f j).2.segs
  reads' : ∀ i, (f j).2.b0 ≤ i → i < j → f.Rd i → i ∈ (f j).2.reads
  mono : ∀ i, i ≤ j → f.K i ≤ f.K j
  mwle : (f j).2.mw ≤ σ.mw
  low : ∀ x, x < f.K (f j).2.b0 → (f.C j).get x = (f.C (f j).2.b0).get x
  high : ∀ x, f.K j ≤ x → (f.C j).get x = (f.C (f j).2.b0).get x
  mid : ∀ i, (f j).2.b0 ≤ i → i < j → f.Cln i → ∀ x, f.K i ≤ x → x < f.K (i + 1) → (f.C j).get x = (f.C (i + 1)).get x
  cover : ∀ x, f.K (f j).2.b0 ≤ x → x < f.K j → ∃ i, (f j).2.b0 ≤ i ∧ i < j ∧ f.Cln i ∧ f.K i ≤ x ∧ x < f.K (i + 1)
  n0 : (f j).2.n0 = σ.next
  kz : σ.next ≤ f.K j
  wr : ∀ x, x < σ.next → x ∉ (f j).2.wr → (f j).2.wild = false → (f.C j).get x = σ.get x
  stl : ∀ b ∈ (f j).2.stl, b < σ.next ∧ b ∉ (f j).2.wr ∧ (f j).2.wild = false

theorem SI.zero {fr : List Value} {f : Hist} (h : f 0 = (fr, .init σ)) : SI ops fr σ f 0 := by
  have hj : (f 0).2.j = 0 := by rw [h]; rfl
  have hb : (f 0).2.b0 = 0 := by rw [h]; rfl
  exact {
    jj := hj
    vl := by rw [h]; rfl
    frm := by rw [h]; rfl
    b0le := by rw [hb]; exact Nat.le_refl _
    b0b := .inl hb
    nob := fun i _ h => by omega
    bs := fun b h => by omega
    segs := fun x hx => by rw [h] at hx; simp [DX.init] at hx
    segs' := fun i _ h => by omega
    reads' := fun i _ h => by omega
    mono := fun i hi => by have : i = 0 := by omega
                           subst this; exact Nat.le_refl _
    mwle := by rw [h]; exact Nat.le_refl _
    low := fun x _ => by rw [hb]
    high := fun x _ => by rw [hb]
    mid := fun i _ h => by omega
    cover := fun x h1 h2 => by rw [hb] at h1; omega
    n0 := by rw [h]; rfl
    kz := by unfold Hist.K; rw [h]; exact Nat.le_refl _
    wr := fun x _ _ _ => by unfold Hist.C; rw [h]; rfl
    stl := fun b hb => by rw [h] at hb; simp [DX.init] at hb }

theorem loadStill_spec {ms : List Nat} {o : Oper} {e : Operand → Value} {s : DX} {v : Value} {b : Nat} (h : loadStill P ops ms o e s = some (v, b)) :
    ∃ t x off, o.op = .load t x ∧ e x = .pointer (some ⟨b, off, none⟩) ∧ b < s.n0 ∧ s.wild = false ∧ b ∉ s.wr ∧ evOk P x = true ∧ aLoad P s.cur t (.pointer (some ⟨b, off, none⟩)) = some (v, none) := by
  unfold loadStill at h
  split at h <;> try contradiction
  rename_i t x hop
  split at h <;> try contradiction
  rename_i b' off _ hex
  split at h <;> try contradiction
  rename_i hc
  split at h <;> try contradiction
  rename_i v' hld
  cases h
  simp only [Bool.and_eq_true, Bool.not_eq_true'] at hc
  exact ⟨t, x, off, hop, hex, ble_le hc.1.1, hc.1.2, memN_spec hc.2.1, hc.2.2, hld⟩
theorem SI.succ {ms : List Nat} {fr : List Value} {f : Hist} {j : Nat} {o : Oper} (ho : ops[j]? = some o) (h : SI ops fr σ f j) (h0 : ∀ i, i ≤ j → σ.next ≤ f.K i) (k : Kd P sums self ops ms f j o) : SI ops fr σ f (j + 1) := by
  -- a step that lets the world be
  have quiet : ∀ (v : Value), (f (j + 1)).1 = putT (f j).1 o.dst v → (f (j + 1)).2.j = (f j).2.j + 1 → (f (j + 1)).2.vs = (f j).2.vs ++ [v] → (f (j + 1)).2.cur = (f j).2.cur → (f (j + 1)).2.b0 = (f j).2.b0 → (f (j + 1)).2.bs = (f j).2.bs →
      (f (j + 1)).2.segs = (f j).2.segs → ((f (j + 1)).2.reads = (f j).2.reads ∨ (f (j + 1)).2.reads = j :: (f j).2.reads) → (f (j + 1)).2.mw = (f j).2.mw → (f (j + 1)).2.n0 = (f j).2.n0 → (f (j + 1)).2.wr = (f j).2.wr → (f (j + 1)).2.wild = (f j).2.wild → (∀ b ∈ (f (j + 1)).2.stl, b < σ.next ∧ b ∉ (f j).2.wr ∧ (f j).2.wild = false) → SI ops fr σ f (j + 1) := by
    intro v e1 e2 e3 e4 e5 e6 e7 e8 e9 e10 e11 e12 e13
    have hK : f.K (j + 1) = f.K j := by unfold Hist.K; rw [e4]
    have hC : f.C (j + 1) = f.C j := e4
    have nB : ¬ f.Bar j := by unfold Hist.Bar; rw [e5]; have := h.b0le; omega
    have nC : ¬ f.Cln j := by unfold Hist.Cln; rw [e7]; intro e; have := congrArg List.length e; simp at this
    have hV : f.V j = v := by
      have e : ((f j).2.vs ++ [v]).getD (f j).2.vs.length undef = v := getD_append_at
      unfold Hist.V; rw [e3]; rw [h.vl] at e; exact e
    have lt : ∀ {i}, i < j + 1 → i ≠ j → i < j := fun a b => by omega
    exact {
      jj := by rw [e2, h.jj]
      vl := by rw [e3]; simp [h.vl]
      frm := by rw [e1, h.frm]; simp only [frameAt, ho, hV]; rfl
      b0le := by rw [e5]; have := h.b0le; omega
      b0b := by rw [e5]; exact h.b0b
      nob := fun i h1 h2 hB => by
        rw [e5] at h1
        by_cases e : i = j
        · subst e; exact nB hB
        · exact h.nob i h1 (lt h2 e) hB
      bs := fun b h1 h2 => by
        rw [e6]
        by_cases e : b = j
        · subst e; exact (nB h2).elim
        · exact h.bs b (lt h1 e) h2
      segs := fun x hx => by
        rw [e7] at hx
        obtain ⟨a, b, c⟩ := h.segs x hx
        exact ⟨by rw [e5]; exact a, by omega, c⟩
      segs' := fun i h1 h2 h3 => by
        rw [e5] at h1; rw [e7]
        by_cases e : i = j
        · subst e; exact (nC h3).elim
        · exact h.segs' i h1 (lt h2 e) h3
      reads' := fun i h1 h2 h3 => by
        rw [e5] at h1
        by_cases e : i = j
        · subst e; unfold Hist.Rd at h3; rw [h3]; simp
        · have := h.reads' i h1 (lt h2 e) h3
          rcases e8 with e8 | e8 <;> rw [e8]
          · exact this
          · simp [this]
      mono := fun i hi => by
        by_cases e : i = j + 1
        · subst e; exact Nat.le_refl _
        · rw [hK]; exact h.mono i (by omega)
      mwle := by rw [e9]; exact h.mwle
      low := fun x hx => by rw [e5] at *; rw [hC]; exact h.low x hx
      high := fun x hx => by rw [e5, hC]; rw [hK] at hx; exact h.high x hx
      mid := fun i h1 h2 h3 x h4 h5 => by
        rw [e5] at h1
        by_cases e : i = j
        · subst e; exact (nC h3).elim
        · rw [hC]; exact h.mid i h1 (lt h2 e) h3 x h4 h5
      cover := fun x h1 h2 => by
        rw [e5] at h1; rw [hK] at h2
        obtain ⟨i, a, b, c⟩ := h.cover x h1 h2
        exact ⟨i, by rw [e5]; exact a, by omega, c⟩
      n0 := by rw [e10]; exact h.n0
      kz := by rw [hK]; exact h.kz
      wr := fun x hx hw hd => by rw [hC]; rw [e11] at hw; rw [e12] at hd; exact h.wr x hx hw hd
      stl := fun b hb => by rw [e11, e12]; exact e13 b hb }
  cases k with
  | skip hw e => exact quiet undef (by rw [e]) (by rw [e]; rfl) (by rw [e]; rfl) (by rw [e]; rfl) (by rw [e]; rfl) (by rw [e]; rfl) (by rw [e]; rfl) (.inl (by rw [e]; rfl)) (by rw [e]; rfl) (by rw [e]; rfl) (by rw [e]; rfl) (by rw [e]; rfl) (fun b hb => by rw [e] at hb; exact h.stl b hb)
  | pure v hw hp he e => exact quiet v (by rw [e]) (by rw [e]; rfl) (by rw [e]; rfl) (by rw [e]; rfl) (by rw [e]; rfl) (by rw [e]; rfl) (by rw [e]; rfl) (.inl (by rw [e]; rfl)) (by rw [e]; rfl) (by rw [e]; rfl) (by rw [e]; rfl) (by rw [e]; rfl) (fun b hb => by rw [e] at hb; exact h.stl b hb)
  | read v view hw hv he e => exact quiet v (by rw [e]) (by rw [e]) (by rw [e]) (by rw [e]) (by rw [e]) (by rw [e]) (by rw [e]) (.inr (by rw [e, h.jj])) (by rw [e]) (by rw [e]) (by rw [e]) (by rw [e]) (fun b hb => by rw [e] at hb; exact h.stl b hb)
  | still v b hw hl e => exact quiet v (by rw [e]) (by rw [e]; rfl) (by rw [e]; rfl) (by rw [e]; rfl) (by rw [e]; rfl) (by rw [e]; rfl) (by rw [e]; rfl) (.inl (by rw [e]; rfl)) (by rw [e]; rfl) (by rw [e]; rfl) (by rw [e]; rfl) (by rw [e]; rfl) (fun c hc => by
      rw [e] at hc
      rcases List.mem_cons.1 hc with rfl | hc
      · obtain ⟨t, x, off, _, _, h1, h2, h3, _⟩ := loadStill_spec hl
        exact ⟨by rw [← h.n0]; exact h1, h3, h2⟩
      · exact h.stl c hc)
  | clean v view out m hw hv he h1 h2 hm e =>
    have e1 : (f (j + 1)).1 = putT (f j).1 o.dst v := by rw [e]
    have e2 : (f (j + 1)).2.j = (f j).2.j + 1 := by rw [e]; rfl
    have e3 : (f (j + 1)).2.vs = (f j).2.vs ++ [v] := by rw [e]; rfl
    have e4 : f.C (j + 1) = ⟨m, out.next, (f j).2.cur.mw⟩ := by unfold Hist.C; rw [e]; rfl
    have hK : f.K (j + 1) = out.next := by unfold Hist.K; rw [e]; rfl
    have e5 : (f (j + 1)).2.b0 = (f j).2.b0 := by rw [e]; rfl
    have e6 : (f (j + 1)).2.bs = (f j).2.bs := by rw [e]; rfl
    have e7 : (f (j + 1)).2.segs = (j, f.K j, f.K (j + 1)) :: (f j).2.segs := by rw [hK, e]; simp [DX.made, h.jj, Hist.K]
    have e8 : (f (j + 1)).2.reads = (f j).2.reads := by rw [e]; rfl
    have e9 : (f (j + 1)).2.mw = (f j).2.mw := by rw [e]; rfl
    have hKj : f.K j ≤ out.next := h1
    have hg : ∀ x, (f.C (j + 1)).get x = if f.K j ≤ x ∧ x < out.next then out.get x else (f.C j).get x := by
      intro x
      rw [e4]
      have := (copyIv_spec _ _ _ _ _ hm).1 x
      show m.get x = _
      rw [this]
      unfold Hist.K Hist.C AW.get
      have e : (f j).2.cur.next + (out.next - (f j).2.cur.next) = out.next := by omega
      rw [e]
    have nB : ¬ f.Bar j := by unfold Hist.Bar; rw [e5]; have := h.b0le; omega
    have hV : f.V j = v := by
      have e : ((f j).2.vs ++ [v]).getD (f j).2.vs.length undef = v := getD_append_at
      unfold Hist.V; rw [e3]; rw [h.vl] at e; exact e
    have nR : ¬ f.Rd j := by unfold Hist.Rd; rw [e8]; intro e; have := congrArg List.length e; simp at this
    have lt : ∀ {i}, i < j + 1 → i ≠ j → i < j := fun a b => by omega
    have hbj := h.mono _ h.b0le
    exact {
      jj := by rw [e2, h.jj]
      vl := by rw [e3]; simp [h.vl]
      frm := by rw [e1, h.frm]; simp only [frameAt, ho, hV]; rfl
      b0le := by rw [e5]; have := h.b0le; omega
      b0b := by rw [e5]; exact h.b0b
      nob := fun i h1 h2 hB => by
        rw [e5] at h1
        by_cases e : i = j
        · subst e; exact nB hB
        · exact h.nob i h1 (lt h2 e) hB
      bs := fun b h1 hB2 => by
        rw [e6]
        by_cases e : b = j
        · subst e; exact (nB hB2).elim
        · exact h.bs b (lt h1 e) hB2
      segs := fun x hx => by
        rw [e7] at hx; rw [e5]
        rcases List.mem_cons.1 hx with rfl | hx
        · exact ⟨h.b0le, by simp, e7, rfl, rfl⟩
        · obtain ⟨a, b, c⟩ := h.segs x hx
          exact ⟨a, by omega, c⟩
      segs' := fun i h1 h2 h3 => by
        rw [e5] at h1; rw [e7]
        by_cases e : i = j
        · subst e; simp
        · exact List.mem_cons_of_mem _ (h.segs' i h1 (lt h2 e) h3)
      reads' := fun i h1 h2 h3 => by
        rw [e5] at h1; rw [e8]
        by_cases e : i = j
        · subst e; exact (nR h3).elim
        · exact h.reads' i h1 (lt h2 e) h3
      mono := fun i hi => by
        by_cases e : i = j + 1
        · subst e; exact Nat.le_refl _
        · rw [hK]; exact Nat.le_trans (h.mono i (by omega)) hKj
      mwle := by rw [e9]; exact h.mwle
      low := fun x hx => by
        rw [e5] at *
        rw [hg, if_neg (by omega)]; exact h.low x hx
      high := fun x hx => by
        rw [e5]; rw [hK] at hx
        rw [hg, if_neg (by omega)]; exact h.high x (by omega)
      mid := fun i h1 h2 h3 x h4 h5 => by
        rw [e5] at h1
        by_cases e : i = j
        · subst e; rfl
        · have hij := lt h2 e
          have := h.mono (i + 1) (by omega)
          rw [hg, if_neg (by omega)]; exact h.mid i h1 hij h3 x h4 h5
      cover := fun x h1 h2 => by
        rw [e5] at h1; rw [hK] at h2
        by_cases hx : x < f.K j
        · obtain ⟨i, a, b, c⟩ := h.cover x h1 hx
          exact ⟨i, by rw [e5]; exact a, by omega, c⟩
        · exact ⟨j, by rw [e5]; exact h.b0le, by omega, e7, by omega, by omega⟩
      n0 := by rw [e]; exact h.n0
      kz := by rw [hK]; exact Nat.le_trans h.kz hKj
      wr := fun x hx hw hd => by
        have := h.kz
        rw [hg, if_neg (by omega)]
        rw [e] at hw hd
        exact h.wr x hx hw hd
      stl := fun b hb => by rw [e] at hb ⊢; exact h.stl b hb }
  | bar v view out hw hv he h1 hs hr wr' wild' hmk e =>
    have e1 : (f (j + 1)).1 = putT (f j).1 o.dst v := by rw [e]
    have e2 : (f (j + 1)).2.j = (f j).2.j + 1 := by rw [e]; rfl
    have e3 : (f (j + 1)).2.vs = (f j).2.vs ++ [v] := by rw [e]; rfl
    have hK : f.K (j + 1) = out.next := by unfold Hist.K; rw [e]; rfl
    have e5 : (f (j + 1)).2.b0 = j + 1 := by rw [e]; simp [DX.wrote, h.jj]
    have e6 : (f (j + 1)).2.bs = j :: (f j).2.bs := by rw [e]; simp [DX.wrote, h.jj]
    have e7 : (f (j + 1)).2.segs = [] := by rw [e]; rfl
    have e9 : (f (j + 1)).2.mw = min (f j).2.mw out.mw := by rw [e]; rfl
    have hV : f.V j = v := by
      have e : ((f j).2.vs ++ [v]).getD (f j).2.vs.length undef = v := getD_append_at
      unfold Hist.V; rw [e3]; rw [h.vl] at e; exact e
    have hKj : f.K j ≤ out.next := h1
    exact {
      jj := by rw [e2, h.jj]
      vl := by rw [e3]; simp [h.vl]
      frm := by rw [e1, h.frm]; simp only [frameAt, ho, hV]; rfl
      b0le := by rw [e5]; exact Nat.le_refl _
      b0b := .inr ⟨j, e5, e5⟩
      nob := fun i h1 h2 hB => by rw [e5] at h1; omega
      bs := fun b h1 h2 => by
        rw [e6]
        by_cases e : b = j
        · subst e; simp
        · exact List.mem_cons_of_mem _ (h.bs b (by omega) h2)
      segs := fun x hx => by rw [e7] at hx; cases hx
      segs' := fun i h1 h2 h3 => by rw [e5] at h1; omega
      reads' := fun i h1 h2 h3 => by rw [e5] at h1; omega
      mono := fun i hi => by
        by_cases e : i = j + 1
        · subst e; exact Nat.le_refl _
        · rw [hK]; exact Nat.le_trans (h.mono i (by omega)) hKj
      mwle := by rw [e9]; exact Nat.le_trans (Nat.min_le_left _ _) h.mwle
      low := fun x hx => by rw [e5]
      high := fun x hx => by rw [e5]
      mid := fun i h1 h2 h3 x h4 h5 => by rw [e5] at h1; omega
      cover := fun x h1 h2 => by rw [e5] at h1; omega
      n0 := by rw [e]; exact h.n0
      kz := by rw [hK]; exact Nat.le_trans h.kz hKj
      wr := fun x hx hwx hd => by
        have e4 : f.C (j + 1) = out := by unfold Hist.C; rw [e]; rfl
        rw [e4]
        rw [e] at hwx hd
        rcases hmk with ⟨b, g1, g2, g3, g4⟩ | ⟨_, g2, _⟩
        · have hwx : x ∉ wr' := hwx
          rw [g2] at hwx
          have hd : wild' = false := hd
          rw [g3] at hd
          rw [g4 x (fun e => hwx (by simp [e])), ← h.wr x hx (fun hm => hwx (by simp [hm])) hd]
          unfold DX.view at hv
          split at hv <;> try contradiction
          cases hv
          show (viewMem _ _ _).get x = _
          refine viewMem_eq _ _ _ fun y hy h2 h3 => ?_
          exfalso
          obtain ⟨a1, a2, a3, a4, a5⟩ := h.segs y hy
          have hk0 : σ.next ≤ f.K y.1 := by
            have := h0 y.1 (by omega)
            exact this
          omega
        · have hd : wild' = false := hd
          rw [g2] at hd; cases hd
      stl := fun c hc => by
        rw [e] at hc ⊢
        have hc : c ∈ (f j).2.stl := hc
        obtain ⟨a1, a2, a3⟩ := h.stl c hc
        rcases hmk with ⟨b, g1, g2, g3, g4⟩ | ⟨g1, _⟩
        · refine ⟨a1, ?_, by show wild' = false; rw [g3]; exact a3⟩
          show c ∉ wr'
          rw [g2]
          intro hm
          rcases List.mem_cons.1 hm with rfl | hm
          · exact memN_spec g1 hc
          · exact a2 hm
        · rw [g1] at hc; cases hc }

/-- What is known of the region as it was carried out in the text's order. -/
structure Plan (P : Program) (sums : Sums) (slf : Self) (ops : Array Oper) (fr : List Value) (σ : AW) (f : Hist) : Prop where
  h0 : f 0 = (fr, .init σ)
  kd : ∀ (j : Nat) (o : Oper), ops[j]? = some o → Kd P sums slf ops (masks ops.toList []) f j o
  si : ∀ j, j ≤ ops.size → SI ops fr σ f j
  back : ∀ (i : Nat) (o : Oper), ops[i]? = some o → ∀ e ∈ o.after.toList, Region.binds .any e = true → e.on < i
  clash : ∀ (i j : Nat) (x y : Oper), i < j → ops[i]? = some x → ops[j]? = some y → clash ops x y = true → ((masks ops.toList []).getD j 0).testBit i = true
  mw : ∀ i j, i ≤ j → j ≤ ops.size → (f j).2.mw ≤ (f i).2.mw
  stm : ∀ i j, i ≤ j → j ≤ ops.size → (∀ b ∈ (f i).2.wr, b ∈ (f j).2.wr) ∧ (∀ b ∈ (f i).2.stl, b ∈ (f j).2.stl) ∧ ((f i).2.wild = true → (f j).2.wild = true)

theorem plan_of {fr : List Value} {s' : List Value × DX} (hback : ∀ (i : Nat) (o : Oper), ops[i]? = some o → ∀ e ∈ o.after.toList, Region.binds .any e = true → e.on < i)
    (hclash : ∀ (i j : Nat) (x y : Oper), i < j → ops[i]? = some x → ops[j]? = some y → clash ops x y = true → ((masks ops.toList []).getD j 0).testBit i = true)
    (e : aDrawGo P sums self ops (masks ops.toList []) ops.toList (fr, .init σ) = some s') : ∃ f : Hist, Plan P sums self ops fr σ f ∧ f ops.size = s' := by
  obtain ⟨f, h1, h2, h3⟩ := go_hist _ _ _ e
  have both : ∀ j, j ≤ ops.size → (∀ i, i ≤ j → σ.next ≤ f.K i) ∧ SI ops fr σ f j := by
    intro j
    induction j with
    | zero => intro _; exact ⟨fun i hi => by have : i = 0 := by omega
                                             subst this; exact (SI.zero (ops := ops) h1).kz, SI.zero (ops := ops) h1⟩
    | succ j ih =>
      intro hj
      have ho : ops[j]? = some ops[j] := Array.getElem?_eq_getElem (by omega)
      obtain ⟨ih0, ih1⟩ := ih (by omega)
      have s1 := SI.succ ho ih1 ih0 (kd_of (by rw [ih1.jj]; exact ih1.b0le) (h3 j ops[j] (by rw [Array.getElem?_toList]; exact ho)))
      refine ⟨fun i hi => ?_, s1⟩
      by_cases e : i = j + 1
      · subst e; exact s1.kz
      · exact ih0 i (by omega)
  have kd : ∀ (j : Nat) (o : Oper), ops[j]? = some o → Kd P sums self ops (masks ops.toList []) f j o := fun j o ho => kd_of (by
    have hj : j < ops.size := by
      obtain ⟨h, _⟩ := Array.getElem?_eq_some_iff.1 ho; exact h
    have s1 := (both j (by omega)).2
    rw [s1.jj]; exact s1.b0le) (h3 j o (by rw [Array.getElem?_toList]; exact ho))
  have mw1 : ∀ j, j < ops.size → (f (j + 1)).2.mw ≤ (f j).2.mw := by
    intro j hj
    cases kd j ops[j] (by simp) with
    | skip _ e => rw [e]; exact Nat.le_refl _
    | pure _ _ _ _ e => rw [e]; exact Nat.le_refl _
    | read _ _ _ _ _ e => rw [e]; exact Nat.le_refl _
    | still _ _ _ _ e => rw [e]; exact Nat.le_refl _
    | clean _ _ _ _ _ _ _ _ _ _ e => rw [e]; exact Nat.le_refl _
    | bar _ _ _ _ _ _ _ _ _ _ _ _ e => rw [e]; exact Nat.min_le_left _ _
  have st1 : ∀ j, j < ops.size → (∀ b ∈ (f j).2.wr, b ∈ (f (j + 1)).2.wr) ∧ (∀ b ∈ (f j).2.stl, b ∈ (f (j + 1)).2.stl) ∧ ((f j).2.wild = true → (f (j + 1)).2.wild = true) := by
    intro j hj
    cases kd j ops[j] (by simp) with
    | skip _ e => rw [e]; exact ⟨fun b h => h, fun b h => h, fun h => h⟩
    | pure _ _ _ _ e => rw [e]; exact ⟨fun b h => h, fun b h => h, fun h => h⟩
    | read _ _ _ _ _ e => rw [e]; exact ⟨fun b h => h, fun b h => h, fun h => h⟩
    | still _ _ _ _ e => rw [e]; exact ⟨fun b h => h, fun b h => List.mem_cons_of_mem _ h, fun h => h⟩
    | clean _ _ _ _ _ _ _ _ _ _ e => rw [e]; exact ⟨fun b h => h, fun b h => h, fun h => h⟩
    | bar _ _ _ _ _ _ _ _ _ wr' wild' hmk e =>
      rw [e]
      rcases hmk with ⟨b, g1, g2, g3, g4⟩ | ⟨_, g2, g3⟩
      · exact ⟨fun c h => by show c ∈ wr'; rw [g2]; exact List.mem_cons_of_mem _ h, fun c h => h, fun h => by show wild' = true; rw [g3]; exact h⟩
      · exact ⟨fun c h => by show c ∈ wr'; rw [g3]; exact h, fun c h => h, fun h => g2⟩
  refine ⟨f, ⟨h1, kd, fun j hj => (both j hj).2, hback, hclash, fun i j hij => ?_, fun i j hij => ?_⟩, by rw [← h2]; simp⟩
  · induction j with
    | zero => intro _; have : i = 0 := by omega
              subst this; exact Nat.le_refl _
    | succ j ih =>
      intro hj
      by_cases e : i = j + 1
      · subst e; exact Nat.le_refl _
      · exact Nat.le_trans (mw1 j (by omega)) (ih (by omega) (by omega))
  · induction j with
    | zero => intro _; have : i = 0 := by omega
              subst this; exact ⟨fun b h => h, fun b h => h, fun h => h⟩
    | succ j ih =>
      intro hj
      by_cases e : i = j + 1
      · subst e; exact ⟨fun b h => h, fun b h => h, fun h => h⟩
      · obtain ⟨a1, a2, a3⟩ := ih (by omega) (by omega)
        obtain ⟨b1, b2, b3⟩ := st1 j (by omega)
        exact ⟨fun b h => b1 b (a1 b h), fun b h => b2 b (a2 b h), fun h => b3 (a3 h)⟩
/-- A block out of which an operation reads in whatever order is never written. -/
theorem Plan.stillAt {fr : List Value} {f : Hist} (B : Plan P sums self ops fr σ f) {i b : Nat} (hi : i < ops.size) (hw : b ∉ (f i).2.wr) (hd : (f i).2.wild = false) (hb : b < σ.next) (hs : b ∈ (f (i + 1)).2.stl) : ∀ j, j ≤ ops.size → (f.C j).get b = σ.get b := by
  intro j hj
  rcases Nat.lt_or_ge i j with h | h
  · have hm := (B.stm (i + 1) j (by omega) hj).2.1 b hs
    obtain ⟨_, h2, h3⟩ := (B.si j hj).stl b hm
    exact (B.si j hj).wr b hb h2 h3
  · obtain ⟨a1, _, a3⟩ := B.stm j i h (by omega)
    refine (B.si j hj).wr b hb (fun h => hw (a1 b h)) ?_
    cases hx : (f j).2.wild with
    | false => rfl
    | true => rw [a3 hx] at hd; cases hd

end Go.Ai

/- Regions whose order is open: the true run in any order. -/
namespace Go.Ai
open Go.RowKit
variable {P : Program} {w0 : World} {σ : AW} {ι : Inj} {w : World} {self : Self} {sums : Sums} {ops : Array Oper}

def Inj.upto (ι : Inj) (n : Nat) : Inj := fun i => if i < n then ι i else none
theorem Inj.upto_le (ι : Inj) (n : Nat) : (ι.upto n).le ι := fun i p h => by
  unfold Inj.upto at h; split at h
  · exact h
  · cases h
theorem Inj.upto_mono (ι : Inj) {n m : Nat} (h : n ≤ m) : (ι.upto n).le (ι.upto m) := fun i p e => by
  unfold Inj.upto at *; split at e
  · rw [if_pos (by omega)]; exact e
  · cases e
theorem Inj.upto_all {ι : Inj} {n : Nat} (h : ∀ i p, ι i = some p → i < n) : ι.upto n = ι := by
  funext i
  unfold Inj.upto
  split
  · rfl
  · rename_i hn
    cases e : ι i with
    | none => rfl
    | some p => exact absurd (h i p e) hn
theorem Inj.upto_same {ι ι' : Inj} {n m : Nat} (h : ∀ i, i < m → ι' i = ι i) (hn : n ≤ m) : ι'.upto n = ι.upto n := by
  funext i
  unfold Inj.upto
  split
  · exact h i (by omega)
  · rfl

theorem Step.weaken {m1 m2 m : Nat} {σ' : AW} {ι' : Inj} {w' : World} (h : Step P w0 { σ with mw := m1 } ι w σ' ι' w') (hm : m ≤ σ'.mw) (h2 : m ≤ m2) : Step P w0 { σ with mw := m2 } ι w { σ' with mw := m } ι' w' where
  rel := h.rel.withMw _
  le := h.le
  same := h.same
  next := h.next
  mw := h2
  size := h.size
  keep := fun b hb H => h.keep b hb fun i blk p a r c d => Nat.lt_of_lt_of_le (H i blk p a r c d) hm
  fresh := fun i blk p a r c => by
    rcases h.fresh i blk p a r c with x | ⟨hi, hn | ⟨j, bj, q, aj, rj, cj, dj, mj⟩⟩
    · exact .inl x
    · exact .inr ⟨hi, .inl hn⟩
    · exact .inr ⟨hi, .inr ⟨j, bj, q, aj, rj, cj, dj, Nat.le_trans hm mj⟩⟩
  unch := fun i hi hlt => h.unch i hi (Nat.lt_of_lt_of_le hlt hm)

/-- Fewer blocks are known; or more numbers are free. -/
theorem Step.sub {τ v : AW} {ι0 : Inj} {ws : World} (st : Step P w0 σ ι0 ws τ ι w) (hs : ∀ x b, v.get x = some b → τ.get x = some b) (hlow : ∀ x, x < σ.next → v.get x = τ.get x) (hmw : v.mw = τ.mw) (hn : σ.next ≤ v.next) (hd : ∀ x p, ι x = some p → x < v.next) :
    Step P w0 σ ι0 ws v ι w where
  rel := {
    below := st.rel.below
    glob := st.rel.glob
    blk := fun x b e => st.rel.blk x b (hs x b e)
    inj := fun x y bx bY px py ex rx ey => st.rel.inj x y bx bY px py (hs _ _ ex) rx (hs _ _ ey)
    dom := hd }
  le := st.le
  same := st.same
  next := hn
  mw := by rw [hmw]; exact st.mw
  size := st.size
  keep := fun b hb H => st.keep b hb fun i blk p a r c d => by have := H i blk p a r c d; rw [hmw] at this; exact this
  fresh := fun i blk p a r c => by
    rcases st.fresh i blk p (hs _ _ a) r c with x | ⟨hi, hn | ⟨j, bj, q, aj, rj, cj, dj, mj⟩⟩
    · exact .inl x
    · exact .inr ⟨hi, .inl hn⟩
    · exact .inr ⟨hi, .inr ⟨j, bj, q, aj, rj, cj, dj, by rw [hmw]; exact mj⟩⟩
  unch := fun i hi hm => by rw [hlow i hi]; exact st.unch i hi (by rw [← hmw]; exact hm)

theorem Inj.upto_le_upto {ι ι' : Inj} (h : ι.le ι') (n : Nat) : (ι.upto n).le (ι'.upto n) := fun i p e => by
  unfold Inj.upto at *
  split at e
  · rename_i hi; rw [if_pos hi]; exact h i p e
  · cases e

def Inj.join (ι ι1 : Inj) (lo hi : Nat) : Inj := fun x => if lo ≤ x ∧ x < hi then ι1 x else ι x

/-- An operation that knew a part alone, and made new blocks alone: its blocks beside all others. -/
theorem Step.join {τ τ' v out : AW} {ι0 ι1 : Inj} {ws w' : World} (st : Step P w0 σ ι0 ws τ ι w) (hvr : Rel P w0 v (ι.upto v.next) w) (hs : Step P w0 v (ι.upto v.next) w out ι1 w') (hσ : σ.next ≤ v.next) (hcl : v.next ≤ out.mw) (hle : out.next ≤ τ.next)
    (hfree : ∀ x, v.next ≤ x → x < out.next → τ.get x = none ∧ ι x = none) (hrw : ∀ x b, v.next ≤ x → x < out.next → out.get x = some b → b.rw = true)
    (hn : τ'.next = τ.next) (hm : τ'.mw = τ.mw) (hg : ∀ x, τ'.get x = if v.next ≤ x ∧ x < out.next then out.get x else τ.get x) :
    Step P w0 σ ι0 ws τ' (ι.join ι1 v.next out.next) w' ∧ ι1.le (ι.join ι1 v.next out.next) ∧ ι.le (ι.join ι1 v.next out.next) := by
  have hb : Below w.heap.size w w' := Step.clean hs hvr hcl
  have le1 : ι1.le (ι.join ι1 v.next out.next) := fun x p e => by
    have h1 := hs.rel.dom x p e
    unfold Inj.join
    by_cases h2 : v.next ≤ x
    · rw [if_pos ⟨h2, h1⟩]; exact e
    · rw [if_neg (by omega)]
      have := hs.same x (by omega)
      rw [this] at e
      exact Inj.upto_le _ _ _ _ e
  have le2 : ι.le (ι.join ι1 v.next out.next) := fun x p e => by
    unfold Inj.join
    by_cases h : v.next ≤ x ∧ x < out.next
    · rw [(hfree x h.1 h.2).2] at e; cases e
    · rw [if_neg h]; exact e
  -- a new block lies where none lay
  have new : ∀ x b p, v.next ≤ x → x < out.next → out.get x = some b → ι1 x = some p → w.heap.size ≤ p.block := by
    intro x b p h1 h2 h3 h4
    rcases hs.fresh x b p h3 (hrw x b h1 h2 h3) h4 with ⟨h5, _⟩ | ⟨_, h5 | ⟨j, bj, q, aj, rj, cj, dj, mj⟩⟩
    · omega
    · exact h5
    · have := hvr.lt aj; omega
  have old : ∀ x b p, τ.get x = some b → ι x = some p → p.block < w.heap.size := by
    intro x b p h1 h2
    obtain ⟨q, hq, r⟩ := st.rel.blk x b h1
    have : q = p := Option.some.inj (hq.symm.trans h2)
    subst this
    exact r.lt
  refine ⟨⟨⟨hs.rel.below, ?_, ?_, ?_, ?_⟩, st.le.trans le2, ?_, by rw [hn]; exact st.next, by rw [hm]; exact st.mw, Nat.le_trans st.size hb.size, ?_, ?_, ?_⟩, le1, le2⟩
  · intro g hg
    obtain ⟨p, hp, e⟩ := st.rel.glob g hg
    exact ⟨p, le2 _ _ hp, e⟩
  · intro x b e
    rw [hg] at e
    by_cases h : v.next ≤ x ∧ x < out.next
    · rw [if_pos h] at e
      obtain ⟨p, hp, r⟩ := hs.rel.blk x b e
      exact ⟨p, le1 _ _ hp, r.mono le1⟩
    · rw [if_neg h] at e
      obtain ⟨p, hp, r⟩ := st.rel.blk x b e
      exact ⟨p, le2 _ _ hp, (r.mono le2).heap (hb.block _ r.lt)⟩
  · intro x y bx bY px py ex rx ey hpx hpy hbl
    rw [hg] at ex ey
    unfold Inj.join at hpx hpy
    by_cases h1 : v.next ≤ x ∧ x < out.next <;> by_cases h2 : v.next ≤ y ∧ y < out.next
    · rw [if_pos h1] at ex hpx; rw [if_pos h2] at ey hpy
      exact hs.rel.inj x y bx bY px py ex rx ey hpx hpy hbl
    · rw [if_pos h1] at ex hpx; rw [if_neg h2] at ey hpy
      have a := new x bx px h1.1 h1.2 ex hpx
      have b := old y bY py ey hpy
      omega
    · rw [if_neg h1] at ex hpx; rw [if_pos h2] at ey hpy
      have a := new y bY py h2.1 h2.2 ey hpy
      have b := old x bx px ex hpx
      omega
    · rw [if_neg h1] at ex hpx; rw [if_neg h2] at ey hpy
      exact st.rel.inj x y bx bY px py ex rx ey hpx hpy hbl
  · intro x p e
    unfold Inj.join at e
    rw [hn]
    by_cases h : v.next ≤ x ∧ x < out.next
    · omega
    · rw [if_neg h] at e; exact st.rel.dom x p e
  · intro x hx
    unfold Inj.join
    rw [if_neg (by omega)]; exact st.same x hx
  · intro b hb' H
    rw [hb.block b (Nat.lt_of_lt_of_le hb' st.size)]
    exact st.keep b hb' fun i blk p a r c d => by have := H i blk p a r c d; rw [hm] at this; exact this
  · intro x b p e r hp
    rw [hg] at e
    unfold Inj.join at hp
    by_cases h : v.next ≤ x ∧ x < out.next
    · rw [if_pos h] at e hp
      exact .inr ⟨by omega, .inl (Nat.le_trans st.size (new x b p h.1 h.2 e hp))⟩
    · rw [if_neg h] at e hp
      rcases st.fresh x b p e r hp with x | ⟨hi, hn | ⟨j, bj, q, aj, rj, cj, dj, mj⟩⟩
      · exact .inl x
      · exact .inr ⟨hi, .inl hn⟩
      · exact .inr ⟨hi, .inr ⟨j, bj, q, aj, rj, cj, dj, by rw [hm]; exact mj⟩⟩
  · intro x h1 h2
    rw [hg, if_neg (by omega)]
    exact st.unch x h1 (by rw [← hm]; exact h2)

def dstAt (ops : Array Oper) (j : Nat) : Option Tmp := (ops[j]?).bind (·.dst)

/-- What a frame holds: what the last one wrote that writes there. -/
theorem frame_get {fr : List Value} {V : Nat → Value} : ∀ (i t : Nat), t < fr.length →
    (∃ j, j < i ∧ dstAt ops j = some t ∧ (∀ j', j < j' → j' < i → dstAt ops j' ≠ some t) ∧ (frameAt ops fr V i)[t]? = some (V j)) ∨
    ((∀ j, j < i → dstAt ops j ≠ some t) ∧ (frameAt ops fr V i)[t]? = fr[t]?)
  | 0, t, _ => .inr ⟨fun j h => by omega, rfl⟩
  | i + 1, t, ht => by
    have hlen : ∀ i, (frameAt ops fr V i).length = fr.length := by
      intro i
      induction i with
      | zero => rfl
      | succ i ih =>
        simp only [frameAt]
        unfold putT
        split
        · simpa using ih
        · exact ih
    by_cases hd : dstAt ops i = some t
    · refine .inl ⟨i, by omega, hd, fun j' h1 h2 => by omega, ?_⟩
      simp only [frameAt]
      have : ((ops[i]?).bind (·.dst)) = some t := hd
      rw [this]
      simp only [putT]
      rw [List.getElem?_set_self (by rw [hlen]; exact ht)]
    · have hfr : (frameAt ops fr V (i + 1))[t]? = (frameAt ops fr V i)[t]? := by
        simp only [frameAt]
        unfold putT
        split
        · rename_i t' he
          have : t' ≠ t := fun h => hd (by rw [← h]; exact he)
          rw [List.getElem?_set_ne this]
        · rfl
      rcases frame_get i t ht with ⟨j, h1, h2, h3, h4⟩ | ⟨h1, h2⟩
      · refine .inl ⟨j, by omega, h2, fun j' a b => ?_, by rw [hfr]; exact h4⟩
        by_cases e : j' = i
        · rw [e]; exact hd
        · exact h3 j' a (by omega)
      · refine .inr ⟨fun j a => ?_, by rw [hfr]; exact h2⟩
        by_cases e : j = i
        · rw [e]; exact hd
        · exact h1 j (by omega)

theorem frame_length {fr : List Value} {V : Nat → Value} (i : Nat) : (frameAt ops fr V i).length = fr.length := by
  induction i with
  | zero => rfl
  | succ i ih =>
    simp only [frameAt]
    unfold putT
    split
    · simpa using ih
    · exact ih

/-- What a temporary holds, when the operations of S are done. -/
def TRel (ops : Array Oper) (fr : List Value) (σ : AW) (f : Hist) (S : Nat → Prop) (ι : Inj) (t : Nat) (x' : Value) : Prop :=
  (∃ j, S j ∧ dstAt ops j = some t ∧ (∀ j', S j' → dstAt ops j' = some t → j' ≤ j) ∧ VRel (ι.upto (f.K (j + 1))) (f.V j) x') ∨
  ((∀ j, S j → dstAt ops j ≠ some t) ∧ ∃ x, fr[t]? = some x ∧ VRel (ι.upto σ.next) x x')

/-- The frame's part. -/
structure DTmp (ops : Array Oper) (fr : List Value) (σ : AW) (f : Hist) (S : Nat → Prop) (a : Act) (ι : Inj) : Prop where
  down : Down ops S
  bound : ∀ i, S i → i < ops.size
  defers : a.defers = []
  size : a.tmps.toList.length = fr.length
  tr : ∀ t x', a.tmps.toList[t]? = some x' → TRel ops fr σ f S ι t x'

/-- The memory's part: B is the place behind the last one done that wrote, τ the world of what is done. -/
structure DMem (P : Program) (w0 : World) (ops : Array Oper) (σ : AW) (ι0 : Inj) (ws : World) (f : Hist) (S : Nat → Prop) (w : World) (ι : Inj) (B : Nat) (τ : AW) : Prop where
  bar : ∀ i, i < ops.size → f.Bar i → (S i ↔ i < B)
  b0 : B = 0 ∨ ∃ b, B = b + 1 ∧ f.Bar b
  bl : B ≤ ops.size
  lim : ∀ x b, (f.C B).get x = some b → x < f.K B
  low : ∀ x, x < f.K B → τ.get x = (f.C B).get x
  seg : ∀ i, S i → B ≤ i → f.Cln i → ∀ x, f.K i ≤ x → x < f.K (i + 1) → τ.get x = (f.C (i + 1)).get x
  out : ∀ x, f.K B ≤ x → (∀ i, S i → B ≤ i → f.Cln i → f.K i ≤ x → x < f.K (i + 1) → False) → τ.get x = none ∧ ι x = none
  nx : τ.next = f.K ops.size
  step : Step P w0 σ ι0 ws { τ with mw := (f ops.size).2.mw } ι w
  rb : ∀ x b, τ.get x = some b → ∀ j, B ≤ j → j ≤ ops.size → x < f.K j → ∃ p, ι x = some p ∧ BRel P (ι.upto (f.K j)) p w0.heap.size w b

section
variable {fr : List Value} {f : Hist}

/-- What stands ahead of a ready operation is done. -/
theorem DTmp.masked {S : Nat → Prop} {a : Act} (I : DTmp ops fr σ f S a ι) {i : Nat} {o : Oper} (ho : ops[i]? = some o) (hr : ∀ e ∈ o.after.toList, Region.binds .any e = true → S e.on) {j : Nat} (hj : j ≠ i) (hb : ((masks ops.toList []).getD i 0).testBit j = true) : S j := by
  have hS' : Down ops (fun m => m = i ∨ S m) := by
    intro m om hom hm e he hbd
    rcases hm with rfl | hm
    · rw [ho] at hom; cases hom; exact .inr (hr e he hbd)
    · exact .inr (I.down m om hom hm e he hbd)
  rcases mask_spec hS' i j hb (.inl rfl) with h | h
  · exact (hj h).elim
  · exact h

theorem Plan.K0 (B : Plan P sums self ops fr σ f) : f.K 0 = σ.next := by unfold Hist.K; rw [B.h0]; rfl
theorem Plan.Kle (B : Plan P sums self ops fr σ f) {i j : Nat} (h : i ≤ j) (hj : j ≤ ops.size) : f.K i ≤ f.K j := (B.si j hj).mono i h

/-- The frame of the text, at an operation whose turn it is, and the true one. -/
theorem Plan.operand (B : Plan P sums self ops fr σ f) {S : Nat → Prop} {a : Act} (I : DTmp ops fr σ f S a ι) {i : Nat} {o : Oper} (ho : ops[i]? = some o) (hi : ¬ S i) (hr : ∀ e ∈ o.after.toList, Region.binds .any e = true → S e.on)
    {t : Nat} (ht : t ∈ nm ops o) : ∀ x', a.tmps.toList[t]? = some x' → ∃ x, (frameAt ops fr f.V i)[t]? = some x ∧ VRel (ι.upto (f.K i)) x x' := by
  intro x' hx'
  have hil : i < ops.size := by
    obtain ⟨h, _⟩ := Array.getElem?_eq_some_iff.1 ho; exact h
  have early : ∀ j, j < i → dstAt ops j = some t → S j := by
    intro j hj hd
    unfold dstAt at hd
    cases hoj : ops[j]? with
    | none => rw [hoj] at hd; cases hd
    | some oj =>
      rw [hoj] at hd
      simp only [Option.bind_some] at hd
      have hcl : Ai.clash ops oj o = true := by unfold Ai.clash; rw [hd]; simp [ht]
      exact I.masked ho hr (by omega) (B.clash j i oj o hj hoj ho hcl)
  have late : ∀ j, S j → dstAt ops j = some t → j < i := by
    intro j hj hd
    rcases Nat.lt_trichotomy j i with h | h | h
    · exact h
    · subst h; exact (hi hj).elim
    · unfold dstAt at hd
      cases hoj : ops[j]? with
      | none => rw [hoj] at hd; cases hd
      | some oj =>
        rw [hoj] at hd
        simp only [Option.bind_some] at hd
        have hcl : Ai.clash ops o oj = true := by unfold Ai.clash; rw [hd]; simp [ht]
        exact (hi (mask_spec I.down j i (B.clash i j o oj h ho hoj hcl) hj)).elim
  have htl : t < fr.length := by
    rw [← I.size]
    rcases Nat.lt_or_ge t a.tmps.toList.length with h | h
    · exact h
    · rw [List.getElem?_eq_none h] at hx'; cases hx'
  rcases I.tr t x' hx' with ⟨j, hj, hd, hmax, hv⟩ | ⟨hno, x, hx, hv⟩
  · rcases frame_get (V := f.V) (ops := ops) i t htl with ⟨j2, h1, h2, h3, h4⟩ | ⟨h1, h2⟩
    · have hji := late j hj hd
      have e1 := hmax j2 (early j2 h1 h2) h2
      have : j = j2 := by
        rcases Nat.lt_or_ge j2 j with h | h
        · exact (h3 j h hji hd).elim
        · omega
      subst this
      exact ⟨_, h4, hv.mono (Inj.upto_mono ι (B.Kle (by omega) (by omega)))⟩
    · exact (h1 j (late j hj hd) hd).elim
  · rcases frame_get (V := f.V) (ops := ops) i t htl with ⟨j2, h1, h2, h3, h4⟩ | ⟨h1, h2⟩
    · exact (hno j2 (early j2 h1 h2) h2).elim
    · refine ⟨x, by rw [h2]; exact hx, hv.mono (Inj.upto_mono ι ?_)⟩
      rw [← B.K0]; exact B.Kle (Nat.zero_le _) (by omega)

theorem Plan.xrel (B : Plan P sums self ops fr σ f) {ι0 : Inj} {ws : World} {S : Nat → Prop} {a : Act} (h0 : Rel P w0 σ ι0 ws) (hle : ι0.le ι) (I : DTmp ops fr σ f S a ι) {i : Nat} {o : Oper} (ho : ops[i]? = some o) (hi : ¬ S i) (hr : ∀ e ∈ o.after.toList, Region.binds .any e = true → S e.on)
    (hok : ∀ x ∈ o.op.operands.toList, evOk P x = true) : XRel (ι.upto (f.K i)) (frameAt ops fr f.V i) a o := by
  intro x hx
  have hk := hok x hx
  have hil : i < ops.size := by
    obtain ⟨h, _⟩ := Array.getElem?_eq_some_iff.1 ho; exact h
  have hσn : σ.next ≤ f.K i := by rw [← B.K0]; exact B.Kle (Nat.zero_le _) (by omega)
  cases x with
  | const v => exact gr_refl _ hk
  | func f => exact .func _ _ _ _ _ rfl rfl rfl (by simp) (by simp)
  | global g =>
    obtain ⟨p, hp, hb, hd⟩ := h0.glob g (ble_le hk)
    have hlt := h0.dom g p hp
    have hp' : (ι.upto (f.K i)) g = some p := by
      unfold Inj.upto
      rw [if_pos (by omega)]
      exact hle _ _ hp
    have := VRel.ptr (ι := ι.upto (f.K i)) g 0 p hp'
    rw [hb, hd] at this
    exact this
  | tmp t =>
    have ht : t ∈ nm ops o := by
      unfold nm
      exact List.mem_append_right _ (List.mem_append_left _ (List.mem_filterMap.2 ⟨.tmp t, hx, rfl⟩))
    rw [eval_getD]
    simp only [ev]
    rw [List.getD_eq_getElem?_getD, List.getD_eq_getElem?_getD]
    cases he : a.tmps.toList[t]? with
    | none =>
      have : (frameAt ops fr f.V i)[t]? = none := by
        rw [List.getElem?_eq_none_iff] at *
        rw [frame_length, ← I.size]; exact he
      rw [this]; exact VRel.undef _
    | some x' =>
      obtain ⟨x, hx, hv⟩ := B.operand I ho hi hr ht x' he
      rw [hx]; exact hv

theorem Plan.wanted (B : Plan P sums self ops fr σ f) {S : Nat → Prop} {a : Act} (I : DTmp ops fr σ f S a ι) {i : Nat} {o : Oper} (ho : ops[i]? = some o) (hi : ¬ S i) (hr : ∀ e ∈ o.after.toList, Region.binds .any e = true → S e.on) :
    Region.wanted o (yielded ops a.tmps) = Region.wanted o (yieldedL ops (frameAt ops fr f.V i)) := by
  unfold Region.wanted
  cases hg : o.guard with
  | none => rfl
  | some gw =>
    obtain ⟨g, want⟩ := gw
    simp only
    congr 1
    unfold yielded yieldedL
    cases hd : (ops[g]?).bind (·.dst) with
    | none => simp
    | some t =>
      simp only [Option.bind_some]
      have ht : t ∈ nm ops o := by
        unfold nm
        refine List.mem_append_right _ (List.mem_append_right _ ?_)
        rw [hg]
        simp [hd]
      cases he : a.tmps.toList[t]? with
      | none =>
        have h1 : (frameAt ops fr f.V i)[t]? = none := by
          rw [List.getElem?_eq_none_iff] at *
          rw [frame_length, ← I.size]; exact he
        rw [Array.getElem?_toList] at he
        rw [h1, he]
      | some x' =>
        obtain ⟨x, hx, hv⟩ := B.operand I ho hi hr ht x' he
        rw [Array.getElem?_toList] at he
        rw [hx, he]
        cases hv <;> rfl

/-- One more operation is done: the frame. -/
theorem DTmp.next (B : Plan P sums self ops fr σ f) {S : Nat → Prop} {a : Act} {ι' : Inj} {v' : Value} (I : DTmp ops fr σ f S a ι) {i : Nat} {o : Oper} (ho : ops[i]? = some o) (hi : ¬ S i)
    (hr : ∀ e ∈ o.after.toList, Region.binds .any e = true → S e.on) (hle : ι.le ι') (hval : VRel (ι'.upto (f.K (i + 1))) (f.V i) v') : DTmp ops fr σ f (fun m => S m ∨ m = i) (a.put o.dst v') ι' where
  down := fun m om hom hm e he hbd => by
    rcases hm with hm | rfl
    · exact .inl (I.down m om hom hm e he hbd)
    · rw [ho] at hom; cases hom; exact .inl (hr e he hbd)
  bound := fun m hm => by
    rcases hm with hm | rfl
    · exact I.bound m hm
    · obtain ⟨h, _⟩ := Array.getElem?_eq_some_iff.1 ho; exact h
  defers := by rw [put_defers]; exact I.defers
  size := by
    rw [← I.size]
    unfold Act.put
    split <;> simp
  tr := by
    intro t x' hx'
    have hdi : dstAt ops i = o.dst := by unfold dstAt; rw [ho]; rfl
    by_cases hd : o.dst = some t
    · have hx : x' = v' := by
        rw [hd] at hx'
        simp only [Act.put, Array.toList_setIfInBounds] at hx'
        have ht : t < a.tmps.toList.length := by
          rcases Nat.lt_or_ge t a.tmps.toList.length with h | h
          · exact h
          · rw [List.getElem?_eq_none (by simpa using h)] at hx'; cases hx'
        rw [List.getElem?_set_self ht] at hx'
        exact (Option.some.inj hx').symm
      subst hx
      refine .inl ⟨i, .inr rfl, by rw [hdi]; exact hd, fun j' hj' hd' => ?_, hval⟩
      rcases hj' with hj' | rfl
      · rcases Nat.lt_or_ge i j' with h | h
        · exfalso
          unfold dstAt at hd'
          cases hoj : ops[j']? with
          | none => rw [hoj] at hd'; cases hd'
          | some oj =>
            rw [hoj] at hd'
            simp only [Option.bind_some] at hd'
            have hcl : Ai.clash ops o oj = true := by
              unfold Ai.clash; rw [hd]
              have : t ∈ nm ops oj := by unfold nm; rw [hd']; simp
              simp [this]
            exact hi (mask_spec I.down j' i (B.clash i j' o oj h ho hoj hcl) hj')
        · exact h
      · exact Nat.le_refl _
    · have hold : a.tmps.toList[t]? = some x' := by
        rw [← hx']
        cases hdo : o.dst with
        | none => rfl
        | some t' =>
          have hne : t' ≠ t := fun h => hd (by rw [← h]; exact hdo)
          simp only [Act.put, Array.toList_setIfInBounds]
          rw [List.getElem?_set_ne hne]
      rcases I.tr t x' hold with ⟨j, hj, hdj, hmax, hv⟩ | ⟨hno, x, hx, hv⟩
      · refine .inl ⟨j, .inl hj, hdj, fun j' hj' hd' => ?_, hv.mono (Inj.upto_le_upto hle _)⟩
        rcases hj' with hj' | rfl
        · exact hmax j' hj' hd'
        · rw [hdi] at hd'; exact (hd hd').elim
      · refine .inr ⟨fun j hj => ?_, x, hx, hv.mono (Inj.upto_le_upto hle _)⟩
        rcases hj with hj | rfl
        · exact hno j hj
        · rw [hdi]; exact hd

end

end Go.Ai

/- Regions whose order is open: the interpreter is sound. -/
namespace Go.Ai
open Go.RowKit
variable {P : Program} {w0 : World} {σ : AW} {ι : Inj} {w : World} {self : Self} {sums : Sums} {ops : Array Oper}

theorem pure_any {o : Oper} (hp : pureOp o.op = true) (fr : List Value) (σ τ : AW) : aOper P sums self o fr σ = aOper P sums self o fr τ := by
  obtain ⟨dst, op, type, pos, after, guard⟩ := o
  cases op <;> first | rfl | (simp [pureOp] at hp; done)

theorem aLoad_at {σ τ : AW} {t : TypeId} {b off : Nat} (h : σ.get b = τ.get b) : aLoad P σ t (.pointer (some ⟨b, off, none⟩)) = aLoad P τ t (.pointer (some ⟨b, off, none⟩)) := by
  unfold aLoad cellsAt
  simp only [h]
theorem aLoad_known {σ : AW} {t : TypeId} {b off : Nat} {r : Value × Option AW} (h : aLoad P σ t (.pointer (some ⟨b, off, none⟩)) = some r) : ∃ bl, σ.get b = some bl := by
  cases hg : σ.get b with
  | some bl => exact ⟨bl, rfl⟩
  | none =>
    exfalso
    unfold aLoad cellsAt at h
    simp only [hg] at h
    split at h
    · split at h <;> cases h
    · cases h
    · cases h
/-- A value that names known blocks alone. -/
theorem VRel.known {n : Nat} {ι1 : Inj} {v v' : Value} (h : VRel ι v v') : ∀ {v1 : Value}, VRel ι1 v v1 → (∀ i p, ι1 i = some p → i < n) → VRel (ι.upto n) v v' := by
  induction h with
  | bool => intro _ _ _; exact .bool _
  | int => intro _ _ _; exact .int _ _
  | float => intro _ _ _; exact .float _ _
  | complex => intro _ _ _; exact .complex _ _ _
  | string => intro _ _ _; exact .string _
  | pnil => intro _ _ _; exact .pnil
  | ptr a o p h =>
    intro v1 k hd
    cases k with
    | ptr _ _ p1 h1 => exact .ptr a o p (by unfold Inj.upto; rw [if_pos (hd a p1 h1)]; exact h)
  | snil => intro _ _ _; exact .snil _ _
  | slice a o o' len cap cap' p h hc hl ho =>
    intro v1 k hd
    cases k with
    | slice _ _ _ _ _ _ p1 h1 _ _ _ => exact .slice a o o' len cap cap' p (by unfold Inj.upto; rw [if_pos (hd a p1 h1)]; exact h) hc hl ho
  | mnil => intro _ _ _; exact .mnil
  | map a p h =>
    intro v1 k hd
    cases k with
    | map _ p1 h1 => exact .map a p (by unfold Inj.upto; rw [if_pos (hd a p1 h1)]; exact h)
  | cnil => intro _ _ _; exact .cnil
  | nilFunc => intro _ _ _; exact .nilFunc
  | func fn f f' c c' hy hf hc rf rc ihf ihc =>
    intro v1 k hd
    cases k with
    | func _ _ f1 _ c1 _ hf1 hc1 rf1 rc1 =>
      refine .func fn f f' c c' hy hf hc (fun i x x' a b => ?_) (fun i x x' a b => ?_)
      · have hi : i < f1.size := by rw [← hf1]; exact (Array.getElem?_eq_some_iff.1 a).1
        exact ihf i x x' a b (rf1 i x f1[i] a (Array.getElem?_eq_getElem hi)) hd
      · have hi : i < c1.size := by rw [← hc1]; exact (Array.getElem?_eq_some_iff.1 a).1
        exact ihc i x x' a b (rc1 i x c1[i] a (Array.getElem?_eq_getElem hi)) hd
  | iface t v v' h ih =>
    intro v1 k hd
    cases k with
    | iface _ _ v1 h1 => exact .iface t v v' (ih h1 hd)
  | nilIface => intro _ _ _; exact .nilIface
  | agg c c' hc rc ih =>
    intro v1 k hd
    cases k with
    | agg _ c1 hc1 rc1 =>
      refine .agg c c' hc fun i x x' a b => ?_
      have hi : i < c1.size := by rw [← hc1]; exact (Array.getElem?_eq_some_iff.1 a).1
      exact ih i x x' a b (rc1 i x c1[i] a (Array.getElem?_eq_getElem hi)) hd
  | tuple c c' hc rc ih =>
    intro v1 k hd
    cases k with
    | tuple _ c1 hc1 rc1 =>
      refine .tuple c c' hc fun i x x' a b => ?_
      have hi : i < c1.size := by rw [← hc1]; exact (Array.getElem?_eq_some_iff.1 a).1
      exact ih i x x' a b (rc1 i x c1[i] a (Array.getElem?_eq_getElem hi)) hd
theorem aOper_load {o : Oper} {fr : List Value} {σ : AW} {t : TypeId} {x : Operand} {v : Value} (ho : o.op = .load t x) (hk : evOk P x = true) (h : aLoad P σ t (ev fr x) = some (v, none)) : aOper P sums self o fr σ = some (v, none) := by
  obtain ⟨dst, op, type, pos, after, guard⟩ := o
  simp only at ho
  subst ho
  have h1 : aOp P { dst := dst, op := .load t x, type := type, pos := pos, after := after, guard := guard } (ev fr) σ = aLoad P σ t (ev fr x) := rfl
  unfold aOper
  rw [h1, h]
  simp [Op.operands, hk]

section
variable {fr : List Value} {f : Hist}

/-- An operation that wrote stands behind all that made or read blocks ahead of it. -/
theorem Plan.barred (B : Plan P sums self ops fr σ f) {S : Nat → Prop} {a : Act} (I : DTmp ops fr σ f S a ι) {i : Nat} (hk : f.Cln i ∨ f.Rd i ∨ f.Bar i) : ∀ c, f.Bar c → S c → i < c → S i := by
  intro c
  induction c using Nat.strongRecOn with
  | _ c ih =>
    intro hB hS hic
    have hc := I.bound c hS
    have ho : ops[c]? = some ops[c] := by simp
    have si := B.si c (by omega)
    have ahead : ∀ j, ((masks ops.toList []).getD c 0).testBit j = true → S j := fun j hb => mask_spec I.down c j hb hS
    cases B.kd c _ ho with
    | skip _ e => exfalso; unfold Hist.Bar at hB; rw [e] at hB; have := si.b0le; simp only [DX.quiet] at hB; omega
    | pure _ _ _ _ e => exfalso; unfold Hist.Bar at hB; rw [e] at hB; have := si.b0le; simp only [DX.quiet] at hB; omega
    | read _ _ _ _ _ e => exfalso; unfold Hist.Bar at hB; rw [e] at hB; have := si.b0le; simp only at hB; omega
    | still _ _ _ _ e => exfalso; unfold Hist.Bar at hB; rw [e] at hB; have := si.b0le; simp only [DX.still] at hB; omega
    | clean _ _ _ _ _ _ _ _ _ _ e => exfalso; unfold Hist.Bar at hB; rw [e] at hB; have := si.b0le; simp only [DX.made] at hB; omega
    | bar v view out hw hv he h1 hs hr _ _ _ e =>
      rw [si.jj] at hs hr
      by_cases hd : (f c).2.b0 ≤ i
      · rcases hk with hk | hk | hk
        · exact ahead i (hs _ (si.segs' i hd hic hk))
        · exact ahead i (hr _ (si.reads' i hd hic hk))
        · exact (si.nob i hd hic hk).elim
      · rcases si.b0b with h0 | ⟨e', he', hBe⟩
        · omega
        · have hle := si.b0le
          have hmem := si.bs e' (by omega) hBe
          have hSe : S e' := by
            refine ahead e' ?_
            unfold DX.view at hv
            split at hv <;> try contradiction
            rename_i hall
            simp only [Bool.and_eq_true] at hall
            have := List.all_eq_true.1 hall.1 e' hmem
            rw [si.jj] at this
            exact this
          by_cases hei : e' = i
          · rw [← hei]; exact hSe
          · exact ih e' (by omega) hBe hSe (by omega)

/-- What a view is. -/
theorem view_eq {ms : List Nat} {s : DX} {v : AW} (h : s.view ms = some v) : v = ⟨viewMem (ms.getD s.j 0) s.segs s.cur.mem, s.cur.next, INF⟩ ∧ s.cur.next ≤ INF ∧ ∀ b ∈ s.bs, (ms.getD s.j 0).testBit b = true := by
  unfold DX.view at h
  split at h <;> try contradiction
  rename_i hall
  simp only [Bool.and_eq_true] at hall
  cases h
  exact ⟨rfl, ble_le hall.2, fun b hb => List.all_eq_true.1 hall.1 b hb⟩

/-- At an operation whose turn it is the last one done that wrote is the text's. -/
theorem Plan.phase (B : Plan P sums self ops fr σ f) {ι0 : Inj} {ws : World} {S : Nat → Prop} {a : Act} {b : Nat} {τ : AW} (I : DTmp ops fr σ f S a ι) (M : DMem P w0 ops σ ι0 ws f S w ι b τ) {i : Nat} {o : Oper} (ho : ops[i]? = some o) (hi : ¬ S i)
    (hr : ∀ e ∈ o.after.toList, Region.binds .any e = true → S e.on) {v : AW} (hv : (f i).2.view (masks ops.toList []) = some v) (hk : f.Cln i ∨ f.Rd i ∨ f.Bar i) : (f i).2.b0 = b := by
  have hil : i < ops.size := by
    obtain ⟨h, _⟩ := Array.getElem?_eq_some_iff.1 ho; exact h
  have si := B.si i (by omega)
  obtain ⟨_, _, hbs⟩ := view_eq hv
  rw [si.jj] at hbs
  have hle := si.b0le
  rcases Nat.lt_trichotomy b (f i).2.b0 with h | h | h
  · exfalso
    rcases si.b0b with h0 | ⟨c, hc, hB⟩
    · omega
    · have hS := I.masked ho hr (show c ≠ i by omega) (hbs c (si.bs c (by omega) hB))
      have := (M.bar c (by omega) hB).1 hS
      omega
  · exact h.symm
  · exfalso
    rcases M.b0 with h0 | ⟨c, hc, hB⟩
    · omega
    · have hbl := M.bl
      have hS : S c := (M.bar c (by omega) hB).2 (by omega)
      rcases Nat.lt_trichotomy c i with h1 | h1 | h1
      · exact si.nob c (by omega) h1 hB
      · subst h1; exact hi hS
      · exact hi (B.barred I hk c hB hS h1)

/-- What an operation knows is there; and it knows all that lay when the last one that wrote was done. -/
theorem Plan.viewed (B : Plan P sums self ops fr σ f) {ι0 : Inj} {ws : World} {S : Nat → Prop} {a : Act} {b : Nat} {τ : AW} (h0 : Rel P w0 σ ι0 ws) (I : DTmp ops fr σ f S a ι) (M : DMem P w0 ops σ ι0 ws f S w ι b τ) {i : Nat} {o : Oper} (ho : ops[i]? = some o) (hi : ¬ S i)
    (hr : ∀ e ∈ o.after.toList, Region.binds .any e = true → S e.on) {v : AW} (hv : (f i).2.view (masks ops.toList []) = some v) (hk : f.Cln i ∨ f.Rd i ∨ f.Bar i) :
    v.next = f.K i ∧ v.mw = INF ∧ f.K i ≤ INF ∧ (∀ x, x < f.K b → v.get x = τ.get x) ∧ (∀ x bl, v.get x = some bl → τ.get x = some bl ∧ x < f.K i) ∧ Rel P w0 v (ι.upto v.next) w := by
  have hil : i < ops.size := by
    obtain ⟨h, _⟩ := Array.getElem?_eq_some_iff.1 ho; exact h
  have si := B.si i (by omega)
  have hph := B.phase I M ho hi hr hv hk
  obtain ⟨hve, hinf, hbs⟩ := view_eq hv
  rw [si.jj] at hve
  have hbi : b ≤ i := by rw [← hph]; exact si.b0le
  have hKbi : f.K b ≤ f.K i := B.Kle hbi (by omega)
  have hn : v.next = f.K i := by rw [hve]; rfl
  have hget : ∀ x, v.get x = (viewMem ((masks ops.toList []).getD i 0) (f i).2.segs (f.C i).mem).get x := fun x => by rw [hve]; rfl
  have hlow : ∀ x, x < f.K b → v.get x = τ.get x := by
    intro x hx
    rw [hget, viewMem_eq]
    · show (f.C i).get x = _
      have e1 := si.low x (by rw [hph]; exact hx)
      rw [hph] at e1
      rw [e1, M.low x hx]
    · intro y hy h1 h2
      exfalso
      obtain ⟨g1, g2, _, g4, _⟩ := si.segs y hy
      rw [hph] at g1
      have := B.Kle g1 (show y.1 ≤ ops.size by omega)
      omega
  have hsub : ∀ x bl, v.get x = some bl → τ.get x = some bl ∧ x < f.K i := by
    intro x bl hx
    by_cases hxb : x < f.K b
    · exact ⟨by rw [← hlow x hxb]; exact hx, by omega⟩
    · rw [hget] at hx
      obtain ⟨hc, hm⟩ := viewMem_some _ _ _ hx
      have hc : (f.C i).get x = some bl := hc
      by_cases hxi : x < f.K i
      · refine ⟨?_, hxi⟩
        obtain ⟨j, g1, g2, g3, g4, g5⟩ := si.cover x (by rw [hph]; omega) hxi
        have hseg := si.segs' j g1 g2 g3
        have hbit := hm _ hseg g4 (by simp only; omega)
        have hS := I.masked ho hr (show j ≠ i by omega) hbit
        rw [M.seg j hS (by rw [← hph]; exact g1) g3 x g4 g5, ← si.mid j g1 g2 g3 x g4 g5]
        exact hc
      · exfalso
        have := si.high x (by omega)
        rw [hph] at this
        have := M.lim x bl (by rw [← this]; exact hc)
        omega
  refine ⟨hn, by rw [hve], hinf, hlow, hsub, ?_⟩
  have hσn : σ.next ≤ f.K i := by rw [← B.K0]; exact B.Kle (Nat.zero_le _) (by omega)
  rw [hn]
  exact {
    below := M.step.rel.below
    glob := fun g hg => by
      obtain ⟨p, hp, hb, hd⟩ := h0.glob g hg
      have hlt := h0.dom g p hp
      exact ⟨p, by unfold Inj.upto; rw [if_pos (by omega)]; exact M.step.le _ _ hp, hb, hd⟩
    blk := fun x bl e => by
      obtain ⟨h1, h2⟩ := hsub x bl e
      obtain ⟨p, hp, r⟩ := M.rb x bl h1 i hbi (by omega) h2
      exact ⟨p, by unfold Inj.upto; rw [if_pos h2]; exact hp, r⟩
    inj := fun x y bx bY px py ex rx ey hpx hpy hbl =>
      M.step.rel.inj x y bx bY px py (hsub x bx ex).1 rx (hsub y bY ey).1 (Inj.upto_le _ _ _ _ hpx) (Inj.upto_le _ _ _ _ hpy) hbl
    dom := fun x p e => by
      unfold Inj.upto at e
      split at e
      · rename_i h; omega
      · cases e }

/-- Nothing that was there has turned. -/
theorem DMem.quiet {ι0 : Inj} {ws : World} {S : Nat → Prop} {b : Nat} {τ : AW} (h0 : Rel P w0 σ ι0 ws) (M : DMem P w0 ops σ ι0 ws f S w ι b τ) {i : Nat} (hB : ¬ f.Bar i) (hC : ¬ f.Cln i) {w' : World} (hb : Below w.heap.size w w') :
    DMem P w0 ops σ ι0 ws f (fun m => S m ∨ m = i) w' ι b τ where
  bar := fun c hc hBc => by
    rw [← M.bar c hc hBc]
    constructor
    · rintro (h | rfl)
      · exact h
      · exact (hB hBc).elim
    · exact .inl
  b0 := M.b0
  bl := M.bl
  lim := M.lim
  low := M.low
  seg := fun j hj h1 h2 => by
    rcases hj with hj | rfl
    · exact M.seg j hj h1 h2
    · exact (hC h2).elim
  out := fun x hx H => M.out x hx fun j hj => H j (.inl hj)
  nx := M.nx
  step := Step.trans h0 M.step (Step.grow M.step.rel hb)
  rb := fun x bl e j h1 h2 h3 => by
    obtain ⟨p, hp, r⟩ := M.rb x bl e j h1 h2 h3
    exact ⟨p, hp, r.heap (hb.block _ r.lt)⟩

theorem Plan.one (B : Plan P sums self ops fr σ f) (hN : ProgOk P) (hself : SelfSound P w0 self) (hsums : SumsSound P w0 sums) {ι0 : Inj} {ws : World} {S : Nat → Prop} {a : Act} {b : Nat} {τ : AW} (h0 : Rel P w0 σ ι0 ws) (I : DTmp ops fr σ f S a ι) (M : DMem P w0 ops σ ι0 ws f S w ι b τ)
    {i : Nat} {o : Oper} (ho : ops[i]? = some o) (hi : ¬ S i)
    (hr : ∀ e ∈ o.after.toList, Region.binds .any e = true → S e.on) {Q : Exit → Act → World → Prop} {K : Act → World → Prop}
    (hK : ∀ a' w' ι' b' τ', DTmp ops fr σ f (fun m => S m ∨ m = i) a' ι' → DMem P w0 ops σ ι0 ws f (fun m => S m ∨ m = i) w' ι' b' τ' → K a' w') : wpOp P ops Q i K a w := by
  have hil : i < ops.size := by
    obtain ⟨h, _⟩ := Array.getElem?_eq_some_iff.1 ho; exact h
  have si := B.si i (by omega)
  have hwant := B.wanted I ho hi hr
  have hfrm := si.frm
  have hσn : σ.next ≤ f.K i := by rw [← B.K0]; exact B.Kle (Nat.zero_le _) (by omega)
  have hV : ∀ v, (f (i + 1)).2.vs = (f i).2.vs ++ [v] → f.V i = v := fun v e => by
    have e2 : ((f i).2.vs ++ [v]).getD (f i).2.vs.length undef = v := getD_append_at
    unfold Hist.V; rw [e]; rw [si.vl] at e2; exact e2
  have b0le := si.b0le
  -- the frame behind a quiet one
  have hKq : (f (i + 1)).2.cur = (f i).2.cur → f.K (i + 1) = f.K i := fun e => by unfold Hist.K; rw [e]
  unfold wpOp
  rw [ho]
  simp only
  cases B.kd i o ho with
  | skip hw e =>
    rw [hfrm] at hw
    rw [if_neg (by rw [hwant, hw]; simp)]
    refine hK _ _ ι b τ (DTmp.next B I ho hi hr (Inj.le.refl ι) ?_) (M.quiet h0 ?_ ?_ (Below.refl _ w))
    · rw [hV undef (by rw [e]; rfl)]; exact VRel.undef _
    · unfold Hist.Bar; rw [e]; simp only [DX.quiet]; omega
    · unfold Hist.Cln; rw [e]; simp only [DX.quiet]; intro h; have := congrArg List.length h; simp at this
  | pure v hw hp he e =>
    rw [hfrm] at hw he
    rw [if_pos (by rw [hwant]; exact hw)]
    have hx := B.xrel h0 M.step.le I ho hi hr (aOper_ok he)
    have hbot : Rel P w0 (⟨.leaf, f.K i, f.K i⟩ : AW) (ι.upto (f.K i)) w := {
      below := M.step.rel.below
      glob := fun g hg => by
        obtain ⟨p, hp, hb, hd⟩ := h0.glob g hg
        have hlt := h0.dom g p hp
        exact ⟨p, by unfold Inj.upto; rw [if_pos (by omega)]; exact M.step.le _ _ hp, hb, hd⟩
      blk := fun j b e => by cases e
      inj := fun j j' b b' p p' e => by cases e
      dom := fun j p e => by
        unfold Inj.upto at e; split at e
        · assumption
        · cases e }
    refine .inl (aOper_wp hN hself hsums hbot hx (by rw [pure_any hp _ _ bot]; exact he) fun v' w' ι' hs hv => ?_)
    have hι : ι' = ι.upto (f.K i) := by
      funext j
      by_cases hj : j < f.K i
      · exact hs.same j hj
      · have e1 : (ι.upto (f.K i)) j = none := by unfold Inj.upto; rw [if_neg hj]
        rw [e1]
        cases e2 : ι' j with
        | none => rfl
        | some p => exact absurd (hs.rel.dom j p e2) hj
    rw [hι] at hv
    refine hK _ _ ι b τ (DTmp.next B I ho hi hr (Inj.le.refl ι) ?_) (M.quiet h0 ?_ ?_ (Step.clean hs hbot (Nat.le_refl _)))
    · rw [hV v (by rw [e]; rfl), hKq (by rw [e]; rfl)]; exact hv
    · unfold Hist.Bar; rw [e]; simp only [DX.quiet]; omega
    · unfold Hist.Cln; rw [e]; simp only [DX.quiet]; intro h; have := congrArg List.length h; simp at this
  | read v view hw hview he e =>
    rw [hfrm] at hw he
    rw [if_pos (by rw [hwant]; exact hw)]
    have hRd : f.Rd i := by unfold Hist.Rd; rw [e, si.jj]
    obtain ⟨hn, hmwv, hinf, hlow, hsub, hrel⟩ := B.viewed h0 I M ho hi hr hview (.inr (.inl hRd))
    have hx := B.xrel h0 M.step.le I ho hi hr (aOper_ok he)
    rw [← hn] at hx
    refine .inl (aOper_wp hN hself hsums hrel hx he fun v' w' ι' hs hv => ?_)
    have hι : ι' = ι.upto view.next := by
      funext j
      by_cases hj : j < view.next
      · exact hs.same j hj
      · have e1 : (ι.upto view.next) j = none := by unfold Inj.upto; rw [if_neg hj]
        rw [e1]
        cases e2 : ι' j with
        | none => rfl
        | some p => exact absurd (hs.rel.dom j p e2) hj
    rw [hι, hn] at hv
    refine hK _ _ ι b τ (DTmp.next B I ho hi hr (Inj.le.refl ι) ?_) (M.quiet h0 ?_ ?_ (Step.clean hs hrel (by show view.next ≤ view.mw; rw [hn, hmwv]; exact hinf)))
    · rw [hV v (by rw [e]), hKq (by rw [e])]; exact hv
    · unfold Hist.Bar; rw [e]; simp only; omega
    · unfold Hist.Cln; rw [e]; simp only; intro h; have := congrArg List.length h; simp at this
  | still v bb hw hl e =>
    rw [hfrm] at hw hl
    rw [if_pos (by rw [hwant]; exact hw)]
    obtain ⟨t, ax, off, hop, hea, hbn, hwl, hnw, hok, hld⟩ := loadStill_spec hl
    rw [si.n0] at hbn
    have hst := B.stillAt hil hnw hwl hbn (by rw [e]; simp [DX.still])
    have hK0 : f.K 0 ≤ f.K b := B.Kle (Nat.zero_le _) M.bl
    rw [B.K0] at hK0
    have hτ : τ.get bb = (f.C i).get bb := by rw [M.low bb (by omega), hst b M.bl, hst i (by omega)]
    -- a place in the text that stands behind both
    obtain ⟨m, hm1, hm2, hm3⟩ : ∃ m, i ≤ m ∧ b ≤ m ∧ m ≤ ops.size := ⟨max i b, Nat.le_max_left _ _, Nat.le_max_right _ _, Nat.max_le.2 ⟨by omega, M.bl⟩⟩
    have hKim : f.K i ≤ f.K m := B.Kle hm1 hm3
    obtain ⟨one, hone⟩ : ∃ one : AW, one = ⟨Trie.leaf.set bb ((f.C i).get bb), f.K m, f.K m⟩ := ⟨_, rfl⟩
    have hget : ∀ x, one.get x = if x = bb then (f.C i).get bb else none := fun x => by
      rw [hone]
      show (Trie.set _ _ _).get x = _
      rw [Trie.get_set]
      rfl
    have hon : one.next = f.K m := by rw [hone]
    have hom : one.mw = f.K m := by rw [hone]
    have hrel : Rel P w0 one (ι.upto (f.K m)) w := {
      below := M.step.rel.below
      glob := fun g hg => by
        obtain ⟨p, hp, hb, hd⟩ := h0.glob g hg
        have hlt := h0.dom g p hp
        exact ⟨p, by unfold Inj.upto; rw [if_pos (by omega)]; exact M.step.le _ _ hp, hb, hd⟩
      blk := fun x bl ex => by
        rw [hget] at ex
        split at ex
        · rename_i hx
          subst hx
          rw [← hτ] at ex
          obtain ⟨p, hp, r⟩ := M.rb x bl ex m hm2 hm3 (by omega)
          exact ⟨p, by unfold Inj.upto; rw [if_pos (by omega)]; exact hp, r⟩
        · cases ex
      inj := fun x y bx bY px py ex rx ey _ _ _ => by
        rw [hget] at ex ey
        split at ex
        · split at ey
          · rename_i h1 h2; rw [h1, h2]
          · cases ey
        · cases ex
      dom := fun x p ex => by
        rw [hon]
        unfold Inj.upto at ex
        split at ex
        · assumption
        · cases ex }
    have hopok : ∀ x ∈ o.op.operands.toList, evOk P x = true := by
      intro x hx
      rw [hop] at hx
      simp [Op.operands] at hx
      subst hx; exact hok
    have hx0 := B.xrel h0 M.step.le I ho hi hr hopok
    have hx : XRel (ι.upto (f.K m)) (frameAt ops fr f.V i) a o := fun y hy => (hx0 y hy).mono (Inj.upto_mono ι hKim)
    have he : aOper P sums self o (frameAt ops fr f.V i) one = some (v, none) := by
      refine aOper_load hop hok ?_
      rw [hea]
      rw [← hld]
      exact aLoad_at (by rw [hget, if_pos rfl]; rfl)
    refine .inl (aOper_wp hN hself hsums hrel hx he fun v' w' ι' hs hv => ?_)
    have hι : ι' = ι.upto (f.K m) := by
      funext j
      by_cases hj : j < f.K m
      · exact hs.same j (by rw [hon]; exact hj)
      · have e1 : (ι.upto (f.K m)) j = none := by unfold Inj.upto; rw [if_neg hj]
        rw [e1]
        cases e2 : ι' j with
        | none => rfl
        | some p => exact absurd (hs.rel.dom j p e2) (by show ¬ j < one.next; rw [hon]; exact hj)
    rw [hι] at hv
    have hld0 : aLoad P σ t (.pointer (some ⟨bb, off, none⟩)) = some (v, none) := by rw [← hld]; exact aLoad_at (hst i (by omega)).symm
    have hcut : ∃ v1, VRel ι0 v v1 := by
      obtain ⟨bl, hbl⟩ := aLoad_known hld0
      obtain ⟨p, hp, _⟩ := h0.blk bb bl hbl
      obtain ⟨y', _, _, _, _, hy⟩ := aLoad_spec h0 hld0 (.ptr bb off p hp)
      exact ⟨y', hy⟩
    obtain ⟨v1, hv1⟩ := hcut
    refine hK _ _ ι b τ (DTmp.next B I ho hi hr (Inj.le.refl ι) ?_) (M.quiet h0 ?_ ?_ (Step.clean hs hrel (by show one.next ≤ one.mw; rw [hon, hom]; exact Nat.le_refl _)))
    · rw [hV _ (by rw [e]; rfl), hKq (by rw [e]; rfl)]
      refine (hv.known hv1 h0.dom).mono fun j p hp => ?_
      unfold Inj.upto at hp ⊢
      split at hp
      · rename_i h1
        split at hp
        · rw [if_pos (by omega)]; exact hp
        · cases hp
      · cases hp
    · unfold Hist.Bar; rw [e]; simp only [DX.still]; omega
    · unfold Hist.Cln; rw [e]; simp only [DX.still]; intro h; have := congrArg List.length h; simp at this
  | clean v view out m hw hview he h1 h2 hm e =>
    rw [hfrm] at hw he
    rw [if_pos (by rw [hwant]; exact hw)]
    have hK1 : f.K (i + 1) = out.next := by unfold Hist.K; rw [e]; rfl
    have hCln : f.Cln i := by unfold Hist.Cln; rw [hK1, e]; simp [DX.made, si.jj, Hist.K]
    have nBar : ¬ f.Bar i := by unfold Hist.Bar; rw [e]; simp only [DX.made]; omega
    obtain ⟨hn, hmwv, hinf, hlow, hsub, hrel⟩ := B.viewed h0 I M ho hi hr hview (.inl hCln)
    have hph := B.phase I M ho hi hr hview (.inl hCln)
    have hbi : b ≤ i := by rw [← hph]; exact b0le
    have hKb : f.K b ≤ f.K i := B.Kle hbi (by omega)
    have h1 : f.K i ≤ out.next := h1
    have h2 : f.K i ≤ out.mw := h2
    have hx := B.xrel h0 M.step.le I ho hi hr (aOper_ok he)
    rw [← hn] at hx
    refine .inl (aOper_wp hN hself hsums hrel hx he fun v' w' ι1 hs hv => ?_)
    simp only [Option.getD_some] at hs
    have hcp := copyIv_spec _ _ _ _ _ hm
    have hKe : (f i).2.cur.next = f.K i := rfl
    rw [hKe] at hcp
    have hrange : f.K i + (out.next - f.K i) = out.next := by omega
    rw [hrange] at hcp
    -- other intervals lie elsewhere
    have apart : ∀ j, S j → f.K j ≤ f.K (j + 1) → ∀ x, f.K i ≤ x → x < out.next → f.K j ≤ x → x < f.K (j + 1) → False := by
      intro j hj _ x a1 a2 a3 a4
      have hjl := I.bound j hj
      rcases Nat.lt_trichotomy j i with h | h | h
      · have := B.Kle (show j + 1 ≤ i by omega) (by omega); omega
      · subst h; exact hi hj
      · have := B.Kle (show i + 1 ≤ j by omega) (by omega); omega
    have hfree : ∀ x, view.next ≤ x → x < out.next → ({ τ with mw := (f ops.size).2.mw } : AW).get x = none ∧ ι x = none := by
      intro x a1 a2
      rw [hn] at a1
      exact M.out x (by omega) fun j hj _ _ a3 a4 => apart j hj (B.Kle (Nat.le_succ j) (I.bound j hj)) x a1 a2 a3 a4
    have hKn : out.next ≤ f.K ops.size := by rw [← hK1]; exact B.Kle (by omega) (Nat.le_refl _)
    obtain ⟨τ', hτn, hτg⟩ : ∃ τ' : AW, τ'.next = τ.next ∧ ∀ x, τ'.get x = if view.next ≤ x ∧ x < out.next then out.get x else τ.get x := by
      cases hc : copyIv out.mem (f.K i) (out.next - f.K i) τ.mem with
      | none =>
        exfalso
        have key : ∀ (n : Nat) (m1 m2 m1' : Trie), copyIv out.mem (f.K i) n m1 = some m1' → copyIv out.mem (f.K i) n m2 = none → False := by
          intro n
          induction n with
          | zero => intro m1 m2 m1' _ h; simp [copyIv] at h
          | succ n ih =>
            intro m1 m2 m1' g1 g2
            simp only [copyIv] at g1 g2
            split at g1 <;> try contradiction
            rename_i a ha
            split at g2
            · split at g1
              · rename_i bb hbb
                rw [hbb] at g2
                split at g1 <;> try contradiction
                rename_i hrw
                simp only [hrw] at g2
                cases g2
              · rename_i hbb
                rw [hbb] at g2
                cases g2
            · rename_i hnone
              exact ih m1 m2 a ha hnone
        exact key _ _ _ _ hm hc
      | some mm =>
        refine ⟨⟨mm, τ.next, τ.mw⟩, rfl, fun x => ?_⟩
        have := (copyIv_spec _ _ _ _ _ hc).1 x
        rw [hrange] at this
        rw [hn]
        exact this
    obtain ⟨hst, hle1, hle2⟩ := Step.join (τ' := { τ' with mw := (f ops.size).2.mw }) M.step hrel hs (by rw [hn]; exact hσn) (by rw [hn]; exact h2) (by show out.next ≤ τ.next; rw [M.nx]; exact hKn) hfree
      (fun x bl a1 a2 a3 => hcp.2 x bl (by rw [hn] at a1; exact a1) a2 a3) hτn rfl hτg
    rw [hn] at hst hle1 hle2 hτg
    have hin : ∀ x, f.K i ≤ x → x < out.next → τ'.get x = out.get x := fun x a1 a2 => by rw [hτg, if_pos ⟨a1, a2⟩]
    have hout : ∀ x, ¬ (f.K i ≤ x ∧ x < out.next) → τ'.get x = τ.get x := fun x a => by rw [hτg, if_neg a]
    have hbel : Below w.heap.size w w' := Step.clean hs hrel (by rw [hn]; exact h2)
    have hup : ι1 = (ι.join ι1 (f.K i) out.next).upto out.next := by
      funext x
      unfold Inj.upto Inj.join
      by_cases hx : x < out.next
      · rw [if_pos hx]
        by_cases hx2 : f.K i ≤ x
        · rw [if_pos ⟨hx2, hx⟩]
        · rw [if_neg (by omega)]
          rw [hs.same x (by rw [hn]; omega)]
          unfold Inj.upto
          rw [if_pos (by rw [hn]; omega)]
      · rw [if_neg hx]
        cases e2 : ι1 x with
        | none => rfl
        | some p => exact absurd (hs.rel.dom x p e2) hx
    refine hK _ _ (ι.join ι1 (f.K i) out.next) b τ' (DTmp.next B I ho hi hr hle2 ?_) ?_
    · rw [hV v (by rw [e]; rfl), hK1, ← hup]; exact hv
    · exact {
        bar := fun c hc hBc => by
          rw [← M.bar c hc hBc]
          constructor
          · rintro (h | rfl)
            · exact h
            · exact (nBar hBc).elim
          · exact .inl
        b0 := M.b0
        bl := M.bl
        lim := M.lim
        low := fun x hx => by rw [hout x (by omega)]; exact M.low x hx
        seg := fun j hj a1 a2 x a3 a4 => by
          rcases hj with hj | rfl
          · rw [hout x (fun a => apart j hj (B.Kle (Nat.le_succ j) (I.bound j hj)) x a.1 a.2 a3 a4)]
            exact M.seg j hj a1 a2 x a3 a4
          · rw [hK1] at a4
            rw [hin x a3 a4]
            have e4 : f.C (j + 1) = ⟨m, out.next, (f j).2.cur.mw⟩ := by unfold Hist.C; rw [e]; rfl
            rw [e4]
            have := hcp.1 x
            rw [if_pos ⟨a3, a4⟩] at this
            exact this.symm
        out := fun x hx H => by
          have hni : ¬ (f.K i ≤ x ∧ x < out.next) := fun a => H i (.inr rfl) hbi hCln a.1 (by rw [hK1]; exact a.2)
          rw [hout x hni]
          unfold Inj.join
          rw [if_neg hni]
          exact M.out x hx fun j hj => H j (.inl hj)
        nx := by rw [hτn]; exact M.nx
        step := hst
        rb := fun x bl e j a1 a2 a3 => by
          by_cases hx : f.K i ≤ x ∧ x < out.next
          · rw [hin x hx.1 hx.2] at e
            obtain ⟨p, hp, r⟩ := hs.rel.blk x bl e
            refine ⟨p, hle1 _ _ hp, r.mono ?_⟩
            have hij : i + 1 ≤ j := by
              rcases Nat.lt_or_ge i j with h | h
              · omega
              · have := B.Kle h (show i ≤ ops.size by omega); omega
            have hle : out.next ≤ f.K j := by rw [← hK1]; exact B.Kle hij a2
            have hfin := Inj.upto_mono (ι.join ι1 (f.K i) out.next) hle
            rw [← hup] at hfin
            exact hfin
          · rw [hout x hx] at e
            obtain ⟨p, hp, r⟩ := M.rb x bl e j a1 a2 a3
            exact ⟨p, hle2 _ _ hp, (r.mono (Inj.upto_le_upto hle2 _)).heap (hbel.block _ r.lt)⟩ }
  | bar v view out hw hview he h1 hs1 hr1 wr' wild' hmk e =>
    rw [hfrm] at hw he
    rw [if_pos (by rw [hwant]; exact hw)]
    have hK1 : f.K (i + 1) = out.next := by unfold Hist.K; rw [e]; rfl
    have hC1 : f.C (i + 1) = out := by unfold Hist.C; rw [e]; rfl
    have hBar : f.Bar i := by unfold Hist.Bar; rw [e]; simp [DX.wrote, si.jj]
    obtain ⟨hn, hmwv, hinf, hlow, hsub, hrel⟩ := B.viewed h0 I M ho hi hr hview (.inr (.inr hBar))
    have hph := B.phase I M ho hi hr hview (.inr (.inr hBar))
    have hbi : b ≤ i := by rw [← hph]; exact b0le
    have hKb : f.K b ≤ f.K i := B.Kle hbi (by omega)
    have h1 : f.K i ≤ out.next := h1
    have hKn : out.next ≤ f.K ops.size := by rw [← hK1]; exact B.Kle (by omega) (Nat.le_refl _)
    -- none of those listed behind it is done
    have later : ∀ j, S j → i < j → ∀ (oj : Oper), ops[j]? = some oj → f.Cln j ∨ f.Bar j → False := by
      intro j hj hij oj hoj hk
      have sj := B.si j (by have := I.bound j hj; omega)
      have hb := sj.bs i hij hBar
      have go : ∀ vw, (f j).2.view (masks ops.toList []) = some vw → False := fun vw hvw => by
        obtain ⟨_, _, hall⟩ := view_eq hvw
        rw [sj.jj] at hall
        exact hi (mask_spec I.down j i (hall i hb) hj)
      have nq : ∀ vq, f (j + 1) = (putT (f j).1 oj.dst vq, (f j).2.quiet vq) → False := fun vq e => by
        rcases hk with hk | hk
        · unfold Hist.Cln at hk; rw [e] at hk; simp only [DX.quiet] at hk; have := congrArg List.length hk; simp at this
        · unfold Hist.Bar at hk; rw [e] at hk; simp only [DX.quiet] at hk; have := sj.b0le; omega
      cases B.kd j oj hoj with
      | skip _ e => exact nq _ e
      | pure _ _ _ _ e => exact nq _ e
      | read _ _ _ hvw _ _ => exact go _ hvw
      | still vq bq _ _ e =>
        rcases hk with hk | hk
        · unfold Hist.Cln at hk; rw [e] at hk; simp only [DX.still] at hk; have := congrArg List.length hk; simp at this
        · unfold Hist.Bar at hk; rw [e] at hk; simp only [DX.still] at hk; have := sj.b0le; omega
      | clean _ _ _ _ _ hvw _ _ _ _ _ => exact go _ hvw
      | bar _ _ _ _ hvw _ _ _ _ _ _ _ _ => exact go _ hvw
    have hdom : ∀ x p, ι x = some p → x < f.K i := by
      intro x p hx
      rcases Nat.lt_or_ge x (f.K i) with h | h
      · exact h
      · exfalso
        have := M.out x (by omega) fun j hj a1 a2 a3 a4 => by
          have hjl := I.bound j hj
          rcases Nat.lt_trichotomy j i with h' | h' | h'
          · have := B.Kle (show j + 1 ≤ i by omega) (by omega); omega
          · subst h'; exact hi hj
          · exact later j hj h' ops[j] (by simp) (.inl a2)
        rw [this.2] at hx; cases hx
    have hup : ι.upto view.next = ι := Inj.upto_all fun x p hx => by rw [hn]; exact hdom x p hx
    rw [hup] at hrel
    have hx : XRel ι (frameAt ops fr f.V i) a o := fun y hy => (B.xrel h0 M.step.le I ho hi hr (aOper_ok he) y hy).mono (Inj.upto_le _ _)
    have hmw : (f ops.size).2.mw ≤ out.mw := by
      have := B.mw (i + 1) ops.size (by omega) (Nat.le_refl _)
      refine Nat.le_trans this ?_
      rw [e]; exact Nat.min_le_right _ _
    refine .inl (aOper_wp hN hself hsums hrel hx he fun v' w' ι1 hs hv => ?_)
    simp only [Option.getD_some] at hs
    have st1 : Step P w0 σ ι0 ws { view with mw := (f ops.size).2.mw } ι w := by
      refine Step.sub M.step (fun x bl hx => (hsub x bl hx).1) (fun x hx => hlow x ?_) rfl (by show σ.next ≤ view.next; rw [hn]; exact hσn) (fun x p hx => by show x < view.next; rw [hn]; exact hdom x p hx)
      have : f.K 0 ≤ f.K b := B.Kle (Nat.zero_le _) M.bl
      rw [B.K0] at this
      omega
    have hve : ({ view with mw := INF } : AW) = view := by cases view; simp at hmwv; subst hmwv; rfl
    have st2 : Step P w0 { view with mw := (f ops.size).2.mw } ι w { out with mw := (f ops.size).2.mw } ι1 w' := by
      refine Step.weaken (m1 := INF) (σ' := out) ?_ hmw (Nat.le_refl _)
      rw [hve]; exact hs
    have st3 := Step.trans h0 st1 st2
    have st4 : Step P w0 σ ι0 ws { ({ out with next := f.K ops.size } : AW) with mw := (f ops.size).2.mw } ι1 w' :=
      Step.sub st3 (fun x bl hx => hx) (fun x hx => rfl) rfl (by show σ.next ≤ f.K ops.size; omega) (fun x p hx => by have := hs.rel.dom x p hx; show x < f.K ops.size; omega)
    refine hK _ _ ι1 (i + 1) { out with next := f.K ops.size } (DTmp.next B I ho hi hr hs.le ?_) ?_
    · rw [hV v (by rw [e]; rfl), hK1, Inj.upto_all hs.rel.dom]; exact hv
    · exact {
        bar := fun c hc hBc => by
          constructor
          · rintro (h | rfl)
            · rcases Nat.lt_trichotomy c i with h' | h' | h'
              · omega
              · omega
              · exact (later c h h' ops[c] (by simp) (.inr hBc)).elim
            · omega
          · intro h
            by_cases hci : c = i
            · exact .inr hci
            · refine .inl ?_
              obtain ⟨_, _, hall⟩ := view_eq hview
              rw [si.jj] at hall
              exact I.masked ho hr hci (hall c (si.bs c (by omega) hBc))
        b0 := .inr ⟨i, rfl, hBar⟩
        bl := by omega
        lim := fun x bl hx => by rw [hC1] at hx; rw [hK1]; exact hs.rel.lt hx
        low := fun x _ => by rw [hC1]; rfl
        seg := fun j hj a1 a2 x a3 a4 => by
          exfalso
          rcases hj with hj | rfl
          · have hjl := I.bound j hj
            exact later j hj (by omega) ops[j] (Array.getElem?_eq_getElem hjl) (.inl a2)
          · omega
        out := fun x hx _ => by
          rw [hK1] at hx
          constructor
          · show out.get x = none
            cases hg : out.get x with
            | none => rfl
            | some bl => have := hs.rel.lt hg; omega
          · cases hg : ι1 x with
            | none => rfl
            | some p => have := hs.rel.dom x p hg; omega
        nx := rfl
        step := st4
        rb := fun x bl e j a1 a2 a3 => by
          obtain ⟨p, hp, r⟩ := hs.rel.blk x bl e
          refine ⟨p, hp, ?_⟩
          rw [Inj.upto_all fun y q hy => by
            have := hs.rel.dom y q hy
            have := B.Kle a1 a2
            omega]
          exact r }

end

end Go.Ai

/- The interpreter is sound. -/
namespace Go.Ai
open Go.RowKit
variable {P : Program} {w0 : World} {σ : AW} {ι : Inj} {w : World} {self : Self} {sums : Sums} {ops : Array Oper}

theorem drawOk_spec (h : drawOk ops = true) : (∀ (i : Nat) (o : Oper), ops[i]? = some o → ∀ e ∈ o.after.toList, Region.binds .any e = true → e.on < i) ∧
    (∀ (i j : Nat) (x y : Oper), i < j → ops[i]? = some x → ops[j]? = some y → clash ops x y = true → ((masks ops.toList []).getD j 0).testBit i = true) := by
  have key : ∀ (j : Nat) (y : Oper), ops[j]? = some y → (y.after.toList.all fun e => !Region.binds .any e || Nat.ble (e.on + 1) j) = true ∧
      ((List.range j).all fun i => match ops[i]? with
        | some x => !clash ops x y || ((masks ops.toList []).getD j 0).testBit i
        | none => true) = true := by
    intro j y hy
    have hj : j < ops.size := by
      obtain ⟨h, _⟩ := Array.getElem?_eq_some_iff.1 hy; exact h
    have := List.all_eq_true.1 h j (List.mem_range.2 hj)
    rw [hy] at this
    exact (Bool.and_eq_true _ _).mp this
  refine ⟨fun i o ho e he hb => ?_, fun i j x y hij hx hy hc => ?_⟩
  · have := List.all_eq_true.1 (key i o ho).1 e he
    rw [hb] at this
    simp only [Bool.not_true, Bool.false_or] at this
    exact ble_le this
  · have := List.all_eq_true.1 (key j y hy).2 i (List.mem_range.2 hij)
    rw [hx] at this
    simp only [hc, Bool.not_true, Bool.false_or] at this
    exact this

theorem getD_set {l : Array Bool} {i j : Nat} (hi : i < l.size) : ((l.setIfInBounds i true).getD j false = true) ↔ (l.getD j false = true ∨ j = i) := by
  simp only [Array.getD_eq_getD_getElem?, Array.getElem?_setIfInBounds]
  by_cases h : i = j
  · subst h; simp [hi]
  · rw [if_neg h]
    constructor
    · exact .inl
    · rintro (h' | h')
      · exact h'
      · exact (h h'.symm).elim

theorem count_set : ∀ (n i : Nat) (l : Array Bool), i < n → n ≤ l.size → l.getD i false = false → ((List.range n).filter fun j => !(l.getD j false)).length = ((List.range n).filter fun j => !((l.setIfInBounds i true).getD j false)).length + 1 := by
  intro n
  induction n with
  | zero => intro i l h; omega
  | succ n ih =>
    intro i l hi hn hl
    rw [List.range_succ, List.filter_append, List.filter_append, List.length_append, List.length_append]
    by_cases h : i = n
    · subst h
      have e1 : ((List.range i).filter fun j => !(l.getD j false)) = ((List.range i).filter fun j => !((l.setIfInBounds i true).getD j false)) := by
        apply List.filter_congr
        intro j hj
        have hj := List.mem_range.1 hj
        congr 1
        simp only [Array.getD_eq_getD_getElem?, Array.getElem?_setIfInBounds]
        rw [if_neg (by omega)]
      rw [e1]
      have h1 : (l.setIfInBounds i true).getD i false = true := (getD_set (by omega)).2 (.inr rfl)
      simp only [List.filter_cons, List.filter_nil, hl, h1]
      simp
    · have := ih i l (by omega) (by omega) hl
      rw [this]
      have e2 : (l.setIfInBounds i true).getD n false = l.getD n false := by
        simp only [Array.getD_eq_getD_getElem?, Array.getElem?_setIfInBounds]
        rw [if_neg h]
      simp only [List.filter_cons, List.filter_nil, e2]
      omega

theorem any_sound (hN : ProgOk P) (hself : SelfSound P w0 self) (hsums : SumsSound P w0 sums) {fr : List Value} {f : Hist} (B : Plan P sums self ops fr σ f) {ι0 : Inj} {ws : World} (h0 : Rel P w0 σ ι0 ws) {Q : Exit → Act → World → Prop}
    (hQ : ∀ a w ι b τ S, DTmp ops fr σ f S a ι → DMem P w0 ops σ ι0 ws f S w ι b τ → (∀ i, i < ops.size → S i) → Q .normal a w) : ∀ (fuel : Nat) (listed : Array Bool) (a : Act) (w : World) (ι : Inj) (b : Nat) (τ : AW), listed.size = ops.size →
    ((List.range ops.size).filter fun j => !(listed.getD j false)).length = fuel → DTmp ops fr σ f (fun i => listed.getD i false = true) a ι → DMem P w0 ops σ ι0 ws f (fun i => listed.getD i false = true) w ι b τ → wpAny P .any ops Q fuel listed a w := by
  intro fuel
  have allOf : ∀ (listed : Array Bool), Region.ready .any ops listed = [] → (∀ i, i < ops.size → listed.getD i true = listed.getD i false) → ∀ i, i < ops.size → listed.getD i false = true := by
    intro listed hr hsz i
    induction i using Nat.strongRecOn with
    | _ i ih =>
      intro hi
      cases hl : listed.getD i false with
      | true => rfl
      | false =>
        exfalso
        have : i ∈ Region.ready .any ops listed := by
          unfold Region.ready
          refine List.mem_filter.2 ⟨List.mem_range.2 hi, ?_⟩
          rw [hsz i hi, hl]
          have ho : ops[i]? = some ops[i] := by simp
          rw [ho]
          simp only [Bool.not_false, Option.map_some, Option.getD_some, Bool.true_and]
          rw [Array.all_eq_true_iff_forall_mem]
          intro e he
          cases hb : Region.binds .any e with
          | false => rfl
          | true =>
            have hlt := B.back i _ ho e (Array.mem_toList_iff.2 he) hb
            simp [ih e.on hlt (by omega)]
        rw [hr] at this
        cases this
  have szD : ∀ (listed : Array Bool), listed.size = ops.size → ∀ i, i < ops.size → listed.getD i true = listed.getD i false := by
    intro listed hsz i hi
    simp only [Array.getD_eq_getD_getElem?]
    rw [Array.getElem?_eq_getElem (by omega)]
    rfl
  induction fuel with
  | zero =>
    intro listed a w ι b τ hsz hcount I M
    have hall : ∀ i, i < ops.size → listed.getD i false = true := by
      intro i hi
      cases hl : listed.getD i false with
      | true => rfl
      | false =>
        exfalso
        have hm : i ∈ (List.range ops.size).filter fun j => !(listed.getD j false) := List.mem_filter.2 ⟨List.mem_range.2 hi, by rw [hl]; rfl⟩
        rw [List.length_eq_zero_iff.1 hcount] at hm
        cases hm
    refine ⟨?_, hQ a w ι b τ _ I M hall⟩
    unfold Region.ready
    rw [List.filter_eq_nil_iff]
    intro i hi
    have hi := List.mem_range.1 hi
    rw [szD listed hsz i hi, hall i hi]
    simp
  | succ fuel ih =>
    intro listed a w ι b τ hsz hcount I M
    refine ⟨fun hr => hQ a w ι b τ _ I M (allOf listed hr (szD listed hsz)), fun i hi => ?_⟩
    unfold Region.ready at hi
    obtain ⟨hir, hcond⟩ := List.mem_filter.1 hi
    have hil := List.mem_range.1 hir
    simp only [Bool.and_eq_true, Bool.not_eq_true'] at hcond
    have hn : listed.getD i false = false := by rw [← szD listed hsz i hil]; exact hcond.1
    have ho : ops[i]? = some ops[i] := by simp
    have hr : ∀ e ∈ ops[i].after.toList, Region.binds .any e = true → listed.getD e.on false = true := by
      intro e he hb
      have h2 := hcond.2
      rw [ho] at h2
      simp only [Option.map_some, Option.getD_some] at h2
      rw [Array.all_eq_true_iff_forall_mem] at h2
      have := h2 e (Array.mem_toList_iff.1 he)
      rw [hb] at this
      simpa using this
    refine B.one hN hself hsums h0 I M ho (by rw [hn]; simp) hr fun a' w' ι' b' τ' I' M' => ?_
    have e : (fun m => listed.getD m false = true ∨ m = i) = (fun m => (listed.setIfInBounds i true).getD m false = true) := by
      funext m
      exact propext (getD_set (by omega)).symm
    rw [e] at I' M'
    refine ih _ a' w' ι' b' τ' (by simp [hsz]) ?_ I' M'
    · have := count_set ops.size i listed hil (by omega) hn
      omega

theorem aDraw_sound (hN : ProgOk P) (hM : P.follows .mixedOrders = true) (hself : SelfSound P w0 self) (hsums : SumsSound P w0 sums) (hok : drawOk ops = true) {fr fr' : List Value} {σ' : AW} (e : aDraw P sums self ops fr σ = some (fr', σ')) (id : Nat) {a : Act}
    (h : Rel P w0 σ ι w) (hfr : LRel ι fr a.tmps.toList) (hd : a.defers = []) : (Code.region id ops true).wp P (Post P w0 σ ι w .normal fr' σ') a w := by
  unfold aDraw at e
  split at e <;> try contradiction
  rename_i fr1 s hs
  cases e
  obtain ⟨hback, hclash⟩ := drawOk_spec hok
  obtain ⟨f, B, hfn⟩ := plan_of hback hclash hs
  have sn := B.si ops.size (Nat.le_refl _)
  have hfr1 : fr' = frameAt ops fr f.V ops.size := by rw [← sn.frm, hfn]
  have hsn : (f ops.size).2 = s := by rw [hfn]
  have hCn : f.C ops.size = s.cur := by unfold Hist.C; rw [hsn]
  have hKn : f.K ops.size = s.cur.next := by unfold Hist.K; rw [hsn]
  have hg := below_drawn w (w.drawn + 1)
  have h1 := h.grow hg
  have hup : ι.upto (f.K 0) = ι := by rw [B.K0]; exact Inj.upto_all h.dom
  refine wp_region_any hM (any_sound hN hself hsums B (ι0 := ι) (ws := { w with drawn := w.drawn + 1 }) h1 ?_ ops.size _ a _ ι 0 { σ with next := f.K ops.size } (by simp) ?_ ?_ ?_)
  · intro a1 w1 ι1 b τ S I M hall
    have hb : (f ops.size).2.b0 = b := by
      have hle := sn.b0le
      rcases Nat.lt_trichotomy b (f ops.size).2.b0 with h' | h' | h'
      · exfalso
        rcases sn.b0b with h0 | ⟨c, hc, hB⟩
        · omega
        · have := (M.bar c (by omega) hB).1 (hall c (by omega))
          omega
      · exact h'.symm
      · exfalso
        rcases M.b0 with h0 | ⟨c, hc, hB⟩
        · omega
        · have := M.bl
          exact sn.nob c (by omega) (by omega) hB
    have hKb : f.K b ≤ f.K ops.size := B.Kle M.bl (Nat.le_refl _)
    have hsub : ∀ x bl, (f.C ops.size).get x = some bl → τ.get x = some bl := by
      intro x bl hx
      by_cases hxb : x < f.K b
      · rw [M.low x hxb, ← hx]
        have := sn.low x (by rw [hb]; exact hxb)
        rw [hb] at this
        exact this.symm
      · by_cases hxn : x < f.K ops.size
        · obtain ⟨j, g1, g2, g3, g4, g5⟩ := sn.cover x (by rw [hb]; omega) hxn
          rw [M.seg j (hall j g2) (by rw [← hb]; exact g1) g3 x g4 g5, ← sn.mid j g1 g2 g3 x g4 g5]
          exact hx
        · exfalso
          have := sn.high x (by omega)
          rw [hb] at this
          have := M.lim x bl (by rw [← this]; exact hx)
          omega
    have hst : Step P w0 σ ι { w with drawn := w.drawn + 1 } { s.cur with mw := s.mw } ι1 w1 := by
      refine Step.sub M.step (fun x bl hx => hsub x bl (by rw [hCn]; exact hx)) (fun x hx => ?_) (by rw [hsn]) ?_ (fun x p hx => ?_)
      · have h0b : f.K 0 ≤ f.K b := B.Kle (Nat.zero_le _) M.bl
        rw [B.K0] at h0b
        have := sn.low x (by rw [hb]; omega)
        rw [hb, hCn] at this
        show s.cur.get x = τ.get x
        rw [this, M.low x (by omega)]
      · show σ.next ≤ s.cur.next
        rw [← hKn, ← B.K0]; exact B.Kle (Nat.zero_le _) (Nat.le_refl _)
      · have := M.step.rel.dom x p hx
        have e : ({ τ with mw := (f ops.size).2.mw } : AW).next = f.K ops.size := M.nx
        rw [e, hKn] at this
        exact this
    refine ⟨rfl, I.defers, ι1, Step.trans h (Step.grow h hg) hst, ?_⟩
    rw [hfr1]
    refine ⟨by rw [frame_length, I.size], fun t x x' hx hx' => ?_⟩
    have htl : t < fr.length := by
      rw [← I.size]
      rcases Nat.lt_or_ge t a1.tmps.toList.length with h | h
      · exact h
      · rw [List.getElem?_eq_none h] at hx'; cases hx'
    rcases I.tr t x' hx' with ⟨j, hj, hdj, hmax, hv⟩ | ⟨hno, y, hy, hv⟩
    · have hjn := I.bound j hj
      rcases frame_get (V := f.V) (ops := ops) ops.size t htl with ⟨j2, g1, g2, g3, g4⟩ | ⟨g1, g2⟩
      · have e1 := hmax j2 (hall j2 g1) g2
        have : j = j2 := by
          rcases Nat.lt_or_ge j2 j with h | h
          · exact (g3 j h hjn hdj).elim
          · omega
        subst this
        rw [g4] at hx; cases hx
        exact hv.mono (Inj.upto_le _ _)
      · exact (g1 j hjn hdj).elim
    · rcases frame_get (V := f.V) (ops := ops) ops.size t htl with ⟨j2, g1, g2, g3, g4⟩ | ⟨g1, g2⟩
      · exact (hno j2 (hall j2 g1) g2).elim
      · rw [g2, hy] at hx; cases hx
        exact hv.mono (Inj.upto_le _ _)
  · have : ((List.range ops.size).filter fun j => !((Array.replicate ops.size false).getD j false)) = List.range ops.size := by
      rw [List.filter_eq_self]
      intro j hj
      simp only [Array.getD_eq_getD_getElem?, Array.getElem?_replicate]
      split <;> rfl
    rw [this]; simp
  · have hno : ∀ i, (Array.replicate ops.size false).getD i false = true → False := by
      intro i hi
      simp only [Array.getD_eq_getD_getElem?, Array.getElem?_replicate] at hi
      split at hi <;> simp at hi
    exact {
      down := fun i o ho hi => (hno i hi).elim
      bound := fun i hi => (hno i hi).elim
      defers := hd
      size := hfr.1.symm
      tr := fun t x' hx' => by
        refine .inr ⟨fun j hj => (hno j hj).elim, ?_⟩
        have htl : t < fr.length := by
          rw [hfr.1]
          rcases Nat.lt_or_ge t a.tmps.toList.length with h | h
          · exact h
          · rw [List.getElem?_eq_none h] at hx'; cases hx'
        have hx : fr[t]? = some fr[t] := List.getElem?_eq_getElem htl
        exact ⟨_, hx, by rw [Inj.upto_all h.dom]; exact hfr.2 t _ x' hx hx'⟩ }
  · have hno : ∀ i, (Array.replicate ops.size false).getD i false = true → False := by
      intro i hi
      simp only [Array.getD_eq_getD_getElem?, Array.getElem?_replicate] at hi
      split at hi <;> simp at hi
    have hC0 : f.C 0 = σ := by unfold Hist.C; rw [B.h0]; rfl
    exact {
      bar := fun i _ _ => ⟨fun h => (hno i h).elim, fun h => by omega⟩
      b0 := .inl rfl
      bl := Nat.zero_le _
      lim := fun x bl hx => by rw [hC0] at hx; rw [B.K0]; exact h.lt hx
      low := fun x _ => by rw [hC0]; rfl
      seg := fun i hi => (hno i hi).elim
      out := fun x hx _ => by
        rw [B.K0] at hx
        constructor
        · show σ.get x = none
          cases hg : σ.get x with
          | none => rfl
          | some bl => have := h.lt hg; omega
        · cases hg : ι x with
          | none => rfl
          | some p => have := h.dom x p hg; omega
      nx := rfl
      step := by
        have s1 := Step.weaken (m := (f ops.size).2.mw) (m1 := σ.mw) (m2 := σ.mw) (Step.refl h1) (by show _ ≤ σ.mw; exact sn.mwle) sn.mwle
        refine Step.sub s1 (fun x bl hx => hx) (fun x hx => rfl) rfl ?_ (fun x p hx => ?_)
        · show σ.next ≤ f.K ops.size
          rw [← B.K0]; exact B.Kle (Nat.zero_le _) (Nat.le_refl _)
        · show x < f.K ops.size
          have := h.dom x p hx
          have h2 : f.K 0 ≤ f.K ops.size := B.Kle (Nat.zero_le _) (Nat.le_refl _)
          rw [B.K0] at h2
          omega
      rb := fun x bl e j _ hj _ => by
        obtain ⟨p, hp, r⟩ := h1.blk x bl e
        refine ⟨p, hp, ?_⟩
        rw [Inj.upto_all fun y q hy => by
          have := h.dom y q hy
          have h2 : f.K 0 ≤ f.K j := B.Kle (Nat.zero_le _) hj
          rw [B.K0] at h2
          omega]
        exact r }

end Go.Ai

/- The interpreter is sound: code, calls, closed calls. -/
namespace Go.Ai
open Go.RowKit
variable {P : Program} {w0 : World} {σ : AW} {ι : Inj} {w : World} {self : Self} {sums : Sums}

theorem stepC_sound (hN : ProgOk P) (hM : P.follows .mixedOrders = true) (hsums : SumsSound P w0 sums) (n : Nat) (hself : SelfSound P w0 self) : SelfSound P w0 (stepC P sums n self) := by
  intro c hck fr σ ex fr' σ' e ι w a h hfr hd
  cases c with
  | skip => simp only [stepC] at e; cases e; exact wp_skip ⟨rfl, hd, ι, Step.refl h, hfr⟩
  | label l => simp only [stepC] at e; cases e; exact wp_label ⟨rfl, hd, ι, Step.refl h, hfr⟩
  | exit id => simp only [stepC] at e; cases e; exact wp_exit ⟨rfl, hd, ι, Step.refl h, hfr⟩
  | ret => simp only [stepC] at e; cases e; exact wp_ret ⟨rfl, hd, ι, Step.refl h, hfr⟩
  | region id ops draw =>
    cases draw with
    | false =>
      simp only [stepC] at e
      split at e <;> try contradiction
      rename_i fr1 σ1 hs
      cases e
      exact wp_region_list (aSeq_sound hN hself hsums ops ops.toList fr σ _ _ hs ι w a _ (fun _ _ _ hp => hp) h hfr hd)
    | true =>
      simp only [stepC] at e
      split at e <;> try contradiction
      rename_i fr1 σ1 hs
      cases e
      exact aDraw_sound hN hM hself hsums (by simpa [codeOk] using hck) hs id h hfr hd
  | seq x y =>
    simp only [codeOk, Bool.and_eq_true] at hck
    simp only [stepC] at e
    split at e
    · rename_i fr1 σ1 h1
      refine wp_seq (wp_mono (hself x hck.1 _ _ _ _ _ h1 ι w a h hfr hd) fun e1 a1 w1 hp => ?_)
      obtain ⟨rfl, hd1, ι1, hs1, hfr1⟩ := hp
      exact wp_mono (hself y hck.2 _ _ _ _ _ e ι1 w1 a1 hs1.rel hfr1 hd1) fun e2 a2 w2 hp2 => hp2.trans h hs1
    · rename_i r hne
      refine wp_seq (wp_mono (hself x hck.1 _ _ _ _ _ e ι w a h hfr hd) fun e1 a1 w1 hp => ?_)
      obtain ⟨rfl, hd1, ι1, hs1, hfr1⟩ := hp
      cases ex with
      | normal => exact (hne fr' σ' e).elim
      | exit id => exact ⟨rfl, hd1, ι1, hs1, hfr1⟩
      | ret => exact ⟨rfl, hd1, ι1, hs1, hfr1⟩
  | cond c x y =>
    simp only [codeOk, Bool.and_eq_true] at hck
    simp only [stepC] at e
    split at e <;> try contradiction
    · rename_i hok hb
      have hv := ev_rel h hfr hok
      rw [hb] at hv
      have hc : a.eval c = .bool true := by generalize a.eval c = cv at hv; cases hv; rfl
      exact wp_cond hc (hself x hck.1 _ _ _ _ _ e ι w a h hfr hd)
    · rename_i hok hb
      have hv := ev_rel h hfr hok
      rw [hb] at hv
      have hc : a.eval c = .bool false := by generalize a.eval c = cv at hv; cases hv; rfl
      exact wp_cond hc (hself y hck.2 _ _ _ _ _ e ι w a h hfr hd)
  | block id b =>
    simp only [codeOk] at hck
    simp only [stepC] at e
    split at e
    · rename_i i fr1 σ1 h1
      refine wp_block (wp_mono (hself b hck _ _ _ _ _ h1 ι w a h hfr hd) fun e1 a1 w1 hp => ?_)
      obtain ⟨rfl, hd1, ι1, hs1, hfr1⟩ := hp
      split at e
      · rename_i hi
        cases e
        simp only [exOf, Exit.inBlock, beq_eq hi, if_true]
        exact ⟨rfl, hd1, ι1, hs1, hfr1⟩
      · rename_i hi
        cases e
        have hne : i ≠ id := fun h => by rw [h, Nat.beq_refl] at hi; cases hi
        simp only [exOf, Exit.inBlock, hne, if_false]
        exact ⟨rfl, hd1, ι1, hs1, hfr1⟩
    · rename_i r hne
      refine wp_block (wp_mono (hself b hck _ _ _ _ _ e ι w a h hfr hd) fun e1 a1 w1 hp => ?_)
      obtain ⟨rfl, hd1, ι1, hs1, hfr1⟩ := hp
      cases ex with
      | normal => exact ⟨rfl, hd1, ι1, hs1, hfr1⟩
      | exit id => exact (hne id fr' σ' e).elim
      | ret => exact ⟨rfl, hd1, ι1, hs1, hfr1⟩
  | loop b =>
    simp only [codeOk] at hck
    simp only [stepC] at e
    exact wp_loop_rounds n ((aLoop_sound hself hck n fr σ ex fr' σ' e).2 ι w a _ (fun _ _ _ hp => hp) h hfr hd)
  | scope b =>
    simp only [codeOk] at hck
    simp only [stepC] at e
    refine wp_scope_straight (wp_mono (hself b hck _ _ _ _ _ e ι w a h hfr hd) fun e1 a1 w1 hp => ?_)
    obtain ⟨rfl, hd1, ι1, hs1, hfr1⟩ := hp
    cases ex <;> exact ⟨rfl, hd1, ι1, hs1, hfr1⟩
  | rangeFunc => cases e
  | goto => cases e
  | refuse => cases e

theorem run_sound (hN : ProgOk P) (hM : P.follows .mixedOrders = true) (hsums : SumsSound P w0 sums) (n : Nat) : ∀ d, SelfSound P w0 (run P sums n d)
  | 0 => fun c _ fr σ ex fr' σ' e => by cases e
  | d + 1 => stepC_sound hN hM hsums n (run_sound hN hM hsums n d)

/-- A call that the interpreter carries out. -/
theorem ai_calls (hN : ProgOk P) (hM : P.follows .mixedOrders = true) (hsums : SumsSound P w0 sums) (n d : Nat) {f : FuncId} {args args' : List Value} {r : Value × Option AW} (e : aCall P sums (run P sums n d) f args σ = some r) (h : Rel P w0 σ ι w) (ha : LRel ι args args') :
    Calls P f args'.toArray w (CPost P w0 σ ι w r) := (aCall_sound hN (run_sound hN hM hsums n d) hsums h e ha).1

def noSums : Sums := fun _ => none
theorem noSums_sound : SumsSound P w0 noSums := fun f s h => by cases h

/-- The world of which nothing is known but that there are package-level variables. -/
def blank (P : Program) : AW := ⟨.leaf, P.globals.size, INF⟩
def blankInj (P : Program) : Inj := fun g => if g < P.globals.size then some ⟨g, 0, 0, 0⟩ else none
theorem blank_rel (w : World) : Rel P w (blank P) (blankInj P) w where
  below := Below.refl _ w
  glob := fun g hg => ⟨⟨g, 0, 0, 0⟩, by unfold blankInj; rw [if_pos hg], rfl, rfl⟩
  blk := fun i b e => by cases e
  inj := fun i j b b' p p' e => by cases e
  dom := fun i p e => by
    unfold blankInj at e; split at e
    · assumption
    · cases e

/-- A closed call: the arguments name no block, nor does the result. -/
theorem ai_closed (hN : progOk P = true) (hM : P.follows .mixedOrders = true) (n d : Nat) (f : FuncId) (args : List Value) (v : Value) (hg : args.all gr = true) (e : aCall P noSums (run P noSums n d) f args (blank P) = some (v, none)) (hv : gr v = true) (w : World) :
    Calls P f args.toArray w fun e w' => e = .returned v ∧ Below w.heap.size w w' := by
  have ha : LRel (blankInj P) args args := ⟨rfl, fun i x x' p q => by
    rw [p] at q; cases q
    exact gr_refl _ (List.all_eq_true.1 hg x (List.mem_of_getElem? p))⟩
  refine (ai_calls (progOk_spec hN) hM noSums_sound n d e (blank_rel w) ha).mono fun en w' hp => ?_
  obtain ⟨v', ι', rfl, hs, hr⟩ := hp
  rw [gr_eq hr hv]
  exact ⟨rfl, hs.rel.below⟩

end Go.Ai
namespace Go.Ai
open Go.RowKit
variable {P : Program}

/-- The same, where one block more may be named, of which nothing is known. -/
def blank1 (P : Program) : AW := ⟨.leaf, P.globals.size + 1, INF⟩
def blank1Inj (P : Program) (b : Nat) : Inj := fun g => if g < P.globals.size then some ⟨g, 0, 0, 0⟩ else if g = P.globals.size then some ⟨b, 0, 0, 0⟩ else none
theorem blank1_rel (w : World) (b : Nat) : Rel P w (blank1 P) (blank1Inj P b) w where
  below := Below.refl _ w
  glob := fun g hg => ⟨⟨g, 0, 0, 0⟩, by unfold blank1Inj; rw [if_pos hg], rfl, rfl⟩
  blk := fun i b e => by cases e
  inj := fun i j b b' p p' e => by cases e
  dom := fun i p e => by
    show i < P.globals.size + 1
    unfold blank1Inj at e; split at e
    · omega
    · split at e
      · omega
      · cases e

/-- A slice of which nothing is known but its numbers. -/
theorem blank1_slice (P : Program) (b off len cap : Nat) (hl : len ≤ cap) (hc : cap < 2 ^ 64) : VRel (blank1Inj P b) (.slice (some ⟨P.globals.size, off, none⟩) len cap) (.slice (some ⟨b, off, none⟩) len cap) := by
  have h := VRel.slice (ι := blank1Inj P b) P.globals.size off off len cap cap ⟨b, 0, 0, 0⟩ (by unfold blank1Inj; rw [if_neg (by omega), if_pos rfl]) (.inl ⟨Nat.lt_of_lt_of_le hc (Nat.pow_le_pow_right (by omega) (by omega)), rfl⟩) hl (fun _ => by simp)
  exact h

/-- A call that looks into nothing of what it is handed. -/
theorem ai_blind (hN : progOk P = true) (hM : P.follows .mixedOrders = true) (n d : Nat) (f : FuncId) (b : Nat) (args args' : List Value) (v : Value) (hg : LRel (blank1Inj P b) args args') (e : aCall P noSums (run P noSums n d) f args (blank1 P) = some (v, none)) (hv : gr v = true) (w : World) :
    Calls P f args'.toArray w fun e w' => e = .returned v ∧ Below w.heap.size w w' := by
  refine (ai_calls (progOk_spec hN) hM noSums_sound n d e (blank1_rel w b) hg).mono fun en w' hp => ?_
  obtain ⟨v', ι', rfl, hs, hr⟩ := hp
  rw [gr_eq hr hv]
  exact ⟨rfl, hs.rel.below⟩

end Go.Ai

/- The last step of a law's row, behind a run that leaves all that was there as it was. -/
namespace Go.Ai
open Go.RowKit Go.WideShapes Go.ChangeShapes
section
variable {H : Type} {enc : TypeId × Value → H} {P : Program}
theorem row_post {f : Func} {s : ChangeSpec} {apart fresh handsOn again : Bool} {W W' : World} {args : Array Value} {v : Value} {ds gs : List (DataW H)} {before pa pv : List MemPlace}
    (hW : DataW.Whole enc P f.params.toList s.vars apart W args.toList ds gs before)
    (hres : ∀ (b : Nat) (sp : Nat → Bool) (hd : Bool), DataW.TrodAll enc P W' b sp hd f.resultTypes.toList (v.resultList f.resultTypes.size) (s.fn H (ds ++ gs)).results [])
    (hargs : ∀ sp : Nat → Bool, (∀ p ∈ before, sp p.block = true) → DataW.TrodAll enc P W' 0 sp true f.params.toList args.toList (s.fn H (ds ++ gs)).args pa)
    (hvars : ∀ sp : Nat → Bool, (∀ p ∈ before, sp p.block = true) → DataW.TrodVars enc P W' sp s.vars (s.fn H (ds ++ gs)).vars pv)
    (hps : before = pa ++ pv) (hb : Below W.heap.size W W')
    (hok : ∀ (j : Nat) (t : TypeId) (r : Value), f.resultTypes[j]? = some t → (v.resultList f.resultTypes.size)[j]? = some r → Value.okWide P W' .any 0 t r) :
    s.post enc P f apart fresh handsOn again W args v W' := by
  subst hps
  have hlt : ∀ p ∈ pa ++ pv, p.block < W.heap.size := hW.lt
  have hold : ∀ p ∈ pa ++ pv, (fun b => decide (b < W.heap.size)) p.block = true := fun p hp => by simpa using hlt p hp
  refine ⟨ds, gs, _, [], pa, pv, hW, hres _ _ _, hargs _ hold, hvars _ hold, World.keptBut_mono (fun p hp => ⟨hp, .inr (List.mem_append.1 hp)⟩) (hb.frame (· ∈ pa ++ pv)), fun _ => ?_⟩
  obtain ⟨_, _, _, _, _, hz, hn⟩ := hW
  refine ⟨hok, _, _, ([] ++ pa) ++ pv, ⟨[] ++ pa, pv, trodAll_append (hargs _ (fun _ _ => rfl)) (hres _ _ _), hvars _ (fun _ _ => rfl), rfl, fun b off hp => ?_, fun ha => by simpa using hn ha⟩, fun p hp _ => by simpa using hp⟩
  have hin : MemPlace.cell b off ∈ pa ++ pv := by simpa using hp
  rw [hb.frozen (hlt _ hin)]
  exact hz b off hin
end
end Go.Ai
