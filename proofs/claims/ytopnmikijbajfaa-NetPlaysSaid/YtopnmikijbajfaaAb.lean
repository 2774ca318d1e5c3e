/- Proved: an executable interpreter of the model's Code over an abstract heap is sound: what it answers for a call, the call comes to, in whatever memory. Conditions: none but what each theorem names. -/
import Derived.Test.YtopnmikijbajfaaAa
import Derived.IntWalk
import Derived.Tactics
import Derived.Orders
import Derived.Eval
import Derived.ChangeSame
import Derived.OpenShut
set_option linter.unusedVariables false
set_option linter.unusedSimpArgs false

/- copy, clear, len, maps, conversions, the rest. -/
namespace Go.Ai
open Go.RowKit
variable {P : Program} {w0 : World} {σ : AW} {ι : Inj} {w : World}

theorem op_copy (h : Rel P w0 σ ι w) {t t' ty : TypeId} {s s' x x' : Value} {r : Value × Option AW} (e : aCopy P σ t s x = some r) (hs : VRel ι s s') (hx : VRel ι x x') :
    Val P w0 σ ι w (Builtin.copy_ #[t, t'] ty #[s', x']) r := by
  unfold aCopy at e
  split at e <;> try contradiction
  rename_i el base len cap hu
  split at e <;> try contradiction
  rename_i m z hm hz
  simp only at e
  split at e <;> try contradiction
  rename_i xs hxs
  have hlen := fun w => srcLen_spec (P := P) hm hx w
  obtain ⟨xs', hxr, hxrun⟩ := srcCells_spec h hxs hx hm (Nat.min_le_left _ _)
  have hxrun := hxrun w rfl
  split at e
  · have e := ret_eq e; subst e
    cases hs with
    | snil =>
    refine Val.same h (v' := goInt ((Nat.min m len : Nat) : Int)) ?_ (.int _ _)
    simp [Builtin.copy_, run_underlying hu, hlen, run_sizeOf' hz, hxrun]
  · rename_i b o
    cases hs with
    | slice _ _ o' _ _ cap' p hp hc hl ho =>
    split at e
    · rename_i h0
      have e := ret_eq e; subst e
      refine Val.same h (v' := goInt 0) ?_ (.int _ _)
      have hx0 : xs' = [] := by
        have : xs = [] := by
          have h1 : srcCells σ z 0 x = some xs := by rw [← hxs, h0]
          unfold srcCells at h1
          split at h1 <;> simp_all
        rw [this] at hxr
        exact hxr.nil_inv
      subst hx0
      rw [h0] at hxrun
      simp [Builtin.copy_, run_underlying hu, hlen, run_sizeOf' hz, hxrun, storeCells, h0]
    · rename_i n hn
      split at e <;> try contradiction
      rename_i σ' hput
      cases e
      obtain ⟨w', hst, hstep⟩ := putCells_spec (P := P) h hput hp hxr
      have hpos : n + 1 ≤ len := by
        have := Nat.min_le_right m len
        have hn' : Nat.min m len = n + 1 := hn
        rw [← hn']; exact this
      rw [hn] at hxrun
      have ho' := ho (by omega)
      subst ho'
      refine ⟨goInt ((n + 1 : Nat) : Int), w', ι, ?_, hstep, .int _ _⟩
      simp [Builtin.copy_, run_underlying hu, hlen, run_sizeOf' hz, hxrun, hst, hn]
  · cases e

theorem op_clear (h : Rel P w0 σ ι w) {t ty : TypeId} {s s' : Value} {r : Value × Option AW} (e : aClear P σ t s = some r) (hs : VRel ι s s') :
    Val P w0 σ ι w (Builtin.clear_ #[t] ty #[s']) r := by
  unfold aClear at e
  split at e <;> try contradiction
  · rename_i el l c hu
    have e := ret_eq e; subst e
    cases hs
    refine Val.same h (v' := .tuple #[]) ?_ (VRel.undef ι)
    simp [Builtin.clear_, run_underlying hu]
  · rename_i el a c hu
    have e := ret_eq e; subst e
    cases hs with
    | snil =>
      refine Val.same h (v' := .tuple #[]) ?_ (VRel.undef ι)
      simp [Builtin.clear_, run_underlying hu]
    | slice =>
      refine Val.same h (v' := .tuple #[]) ?_ (VRel.undef ι)
      simp [Builtin.clear_, run_underlying hu]
  · rename_i el b o n cap hn hu
    split at e <;> try contradiction
    rename_i z hz
    split at e <;> try contradiction
    rename_i hg
    split at e <;> try contradiction
    rename_i σ' hput
    cases e
    cases hs with
    | slice _ _ o' _ _ cap' p hp hc hl ho =>
    by_cases hz0 : 0 < z.cells.size
    · have hrow : LRel ι (Builtin.zeroCells z.cells n).toList (Builtin.zeroCells z.cells n).toList := ground_row (by
        intro v hv
        exact zero_row hg (n * z.cells.size) (.inr hz0) v (by simpa [Builtin.zeroCells] using hv))
      obtain ⟨w', hst, hstep⟩ := putCells_spec (P := P) h hput hp hrow
      refine ⟨.tuple #[], w', ι, ?_, hstep, VRel.undef ι⟩
      cases n with
      | zero => simp at hn
      | succ n =>
        have ho' := ho (by omega)
        subst ho'
        simp [Builtin.clear_, run_underlying hu, run_zero' hz, hst]
    · have he : (Builtin.zeroCells z.cells n).toList = [] := by
        apply List.length_eq_zero_iff.1
        have hz1 : z.cells.size = 0 := by omega
        simp [zeroCells_size, hz1]
      rw [he] at hput
      obtain ⟨w', hst, hstep⟩ := putCells_spec (P := P) h hput hp (LRel.nil ι)
      refine ⟨.tuple #[], w', ι, ?_, hstep, VRel.undef ι⟩
      have hw' : w' = w := by simp [storeCells] at hst; exact hst.symm
      subst hw'
      cases n with
      | zero => simp at hn
      | succ n => simp [Builtin.clear_, run_underlying hu, run_zero' hz, he, storeCells]

theorem Born.modify {es : List MapEntry} {c : Nat} (h : Born es c) (i : Nat) (f : MapEntry → MapEntry) (hf : ∀ e, (f e).born = e.born) : Born (es.modify i f) c := by
  have hm : (es.modify i f).map (·.born) = es.map (·.born) := by
    apply List.ext_getElem?
    intro j
    simp only [List.getElem?_map, List.getElem?_modify]
    cases es[j]? with
    | none => rfl
    | some y =>
      simp only [Option.map_eq_map, Option.map_some]
      split <;> simp [hf]
  refine ⟨fun e he => ?_, by rw [hm]; exact h.2⟩
  have : e.born ∈ (es.modify i f).map (·.born) := List.mem_map_of_mem he
  rw [hm] at this
  obtain ⟨y, hy, e1⟩ := List.mem_map.1 this
  rw [← e1]; exact h.1 y hy
theorem Born.push {es : List MapEntry} {c : Nat} (h : Born es c) {e : MapEntry} (he : e.born = c) : Born (es ++ [e]) (c + 1) := by
  refine ⟨fun x hx => ?_, ?_⟩
  · rcases List.mem_append.1 hx with hx | hx
    · have := h.1 x hx; omega
    · simp at hx; subst hx; omega
  · rw [List.map_append, List.nodup_append]
    refine ⟨h.2, by simp, fun a ha b hb => ?_⟩
    obtain ⟨x, hx, rfl⟩ := List.mem_map.1 ha
    simp at hb
    have := h.1 x hx
    omega
theorem Born.erase {es : List MapEntry} {c : Nat} (h : Born es c) (i : Nat) : Born (es.eraseIdx i) c :=
  ⟨fun e he => h.1 e (List.mem_of_mem_eraseIdx he), by
    have : (es.eraseIdx i).map (·.born) = (es.map (·.born)).eraseIdx i := by
      apply List.ext_getElem?
      intro j
      simp only [List.getElem?_map, List.getElem?_eraseIdx]
      split <;> simp
    rw [this]
    exact h.2.sublist (List.eraseIdx_sublist _ _)⟩

/-- What an abstract map is in the true world. -/
theorem Rel.map (h : Rel P w0 σ ι w) {b : Nat} {es : List (Value × Value)} (e : σ.get b = some (.map es)) {p : Pl} (hp : ι b = some p) :
    ∃ es' clock, w.heap[p.block]? = some (.map es' clock) ∧ es.length = es'.size ∧
      (∀ (i : Nat) (e : Value × Value) (e' : MapEntry), es[i]? = some e → es'[i]? = some e' → e'.key = e.1 ∧ VRel ι e.2 e'.val) ∧ w0.heap.size ≤ p.block ∧ Born es'.toList clock := by
  obtain ⟨q, hq, r⟩ := h.blk b _ e
  have : q = p := Option.some.inj (hq.symm.trans hp)
  subst this
  exact r

theorem run_getObj_map {r : Nat} {es : Array MapEntry} {c : Nat} (h : w.heap[r]? = some (.map es c)) : (getObj r).run P w = .ok (.map es c) w := by
  simp [getObj, Sem.run, h]

theorem op_len (h : Rel P w0 σ ι w) {t ty : TypeId} {s s' : Value} {r : Value × Option AW} (e : aLen P σ t s = some r) (hs : VRel ι s s') :
    Val P w0 σ ι w (Builtin.len_ #[t] ty #[s']) r := by
  unfold aLen at e
  split at e <;> try contradiction
  · rename_i el a n c hu
    have e := ret_eq e; subst e
    cases hs
    refine Val.same h (v' := goInt n) ?_ (.int _ _)
    simp [Builtin.len_, run_underlying hu]
  · rename_i k v m hu
    split at e <;> try contradiction
    rename_i es hg
    have e := ret_eq e; subst e
    cases hs with
    | map _ p hp =>
    obtain ⟨es', ck, hm, hl, _, _⟩ := h.map hg hp
    refine Val.same h (v' := goInt es.length) ?_ (.int _ _)
    simp [Builtin.len_, run_underlying hu, run_getObj_map hm, hl]

/-- entries -/
def ERel (ι : Inj) (es : List (Value × Value)) (es' : List MapEntry) : Prop :=
  es.length = es'.length ∧ ∀ (i : Nat) (e : Value × Value) (e' : MapEntry), es[i]? = some e → es'[i]? = some e' → e'.key = e.1 ∧ VRel ι e.2 e'.val

theorem ERel.cons_inv {e : Value × Value} {es : List (Value × Value)} {l : List MapEntry} (h : ERel ι (e :: es) l) : ∃ e' t, l = e' :: t ∧ e'.key = e.1 ∧ VRel ι e.2 e'.val ∧ ERel ι es t := by
  cases l with
  | nil => have := h.1; simp at this
  | cons e' t =>
    refine ⟨e', t, rfl, (h.2 0 e e' rfl rfl).1, (h.2 0 e e' rfl rfl).2, by simpa using h.1, fun i x x' a b => h.2 (i + 1) x x' (by simpa using a) (by simpa using b)⟩

theorem findE_spec {kd : TypeDesc} {k : Value} : ∀ (es : List (Value × Value)) (l : List MapEntry) (i : Nat) (r : Option (Nat × Value)), ERel ι es l → findE kd k es i = some r →
    match r with
    | none => Instr.findNow kd k l i = some none
    | some (j, v) => ∃ v', Instr.findNow kd k l i = some (some (j, v')) ∧ VRel ι v v' ∧ i ≤ j ∧ es[j - i]? = some (((es[j - i]?).map (·.1)).getD k, v) ∧ ∃ e', l[j - i]? = some e' ∧ e'.val = v' ∧ Instr.sameNow kd k e'.key = some true
  | [], l, i, r, h, e => by
    have : l = [] := List.length_eq_zero_iff.1 (by simpa using h.1.symm)
    subst this
    simp only [findE] at e
    cases e
    rfl
  | x :: es, l, i, r, h, e => by
    obtain ⟨e', t, rfl, hk, hv, ht⟩ := h.cons_inv
    simp only [findE] at e
    split at e
    · rename_i hsn
      cases e
      refine ⟨e'.val, ?_, hv, Nat.le_refl _, by simp, e', by simp, rfl, by rw [hk]; exact hsn⟩
      simp [Instr.findNow, hk, hsn]
    · rename_i hsn
      have ih := findE_spec es t (i + 1) r ht e
      cases r with
      | none => simp only [Instr.findNow, hk, hsn]; exact ih
      | some jv =>
        obtain ⟨j, v⟩ := jv
        obtain ⟨v', h1, h2, h3, h4, e2, h5, h6, h7⟩ := ih
        have hj : j - i = (j - (i + 1)) + 1 := by omega
        refine ⟨v', by simp only [Instr.findNow, hk, hsn]; exact h1, h2, by omega, ?_, e2, ?_, h6, h7⟩
        · rw [hj]; simpa using h4
        · rw [hj]; simpa using h5
    · cases e

theorem run_checkKey {kd : TypeDesc} {kt : TypeId} {b : Bool} {k : Value} (n : Nat) (hu : P.underlying kt = some kd) (hp : plainKey kd = true) (w : World) : (Instr.checkKey b (n + 1) kt k).run P w = .ok () w := by
  unfold Instr.checkKey
  simp only [Sem.run_bind, run_underlying hu, Result.andThen_ok]
  cases kd <;> first | (simp [plainKey] at hp; done) | rfl

theorem run_findKey {kd : TypeDesc} {kt : TypeId} {k : Value} {l : List MapEntry} {r : Option (Nat × Value)} (hu : P.underlying kt = some kd) (hf : Instr.findNow kd k l 0 = some r) (w : World) : (Instr.findKey kt k l).run P w = .ok r w := by
  simp [Instr.findKey, run_underlying hu, hf]

theorem entriesOf_spec (h : Rel P w0 σ ι w) {m m' : Value} {es : List (Value × Value)} (e : entriesOf σ m = some es) (hm : VRel ι m m') :
    (m' = .map none ∧ es = []) ∨ ∃ r es' ck, m' = .map (some r) ∧ w.heap[r]? = some (.map es' ck) ∧ ERel ι es es'.toList := by
  unfold entriesOf at e
  split at e <;> try contradiction
  · cases e; cases hm; exact .inl ⟨rfl, rfl⟩
  · split at e <;> try contradiction
    rename_i hg
    cases e
    cases hm with
    | map _ p hp =>
    obtain ⟨es', ck, h1, h2, h3, _⟩ := h.map hg hp
    exact .inr ⟨p.block, es', ck, rfl, h1, by simpa using h2, fun i e e' a b => h3 i e e' a (by simpa using b)⟩

theorem okRel {v v' : Value} {ok : Bool} (b : Bool) (h : VRel ι v v') : VRel ι (match ok with | true => .tuple #[v, .bool b] | false => v) (if ok then .tuple #[v', .bool b] else v') := by
  cases ok with
  | false => exact h
  | true => exact .tuple _ _ rfl (fun i x x' a c => by
      match i with
      | 0 => simp at a c; subst a; subst c; exact h
      | 1 => simp at a c; subst a; subst c; exact .bool b
      | i + 2 => simp at a)

theorem bytes_eq {a b : ByteArray} (h : (a == b) = true) : a = b := by
  cases a with | mk x => cases b with | mk y =>
  have : (x == y) = true := h
  rw [eq_of_beq this]
theorem bytes_refl (a : ByteArray) : (a == a) = true := by
  cases a with | mk x =>
  have : (x == x) = true := beq_self_eq_true x
  exact this

theorem op_lookup (h : Rel P w0 σ ι w) {t : TypeId} {m m' k k' : Value} {ok : Bool} {r : Value × Option AW} (e : aLookup P σ t m k ok = some r) (hm : VRel ι m m') (hk : VRel ι k k') :
    Val P w0 σ ι w (Instr.lookup t m' k' ok) r := by
  unfold aLookup at e
  split at e <;> try contradiction
  rename_i kt el hu
  split at e <;> try contradiction
  rename_i kd z es hkd hz hes
  have hmm := entriesOf_spec h hes hm
  have key : ∀ (l : List MapEntry) (v0 v' : Value), ERel ι es l → plainKey kd = true → k' = k → (∀ w, (Instr.lookup t m' k' ok).run P w = .ok v' w) → VRel ι v0 v' → Val P w0 σ ι w (Instr.lookup t m' k' ok) (v0, none) :=
    fun l v0 v' _ _ _ hrun hv => Val.same h (hrun w) hv
  split at e <;> try contradiction
  · rename_i i v hb hf
    simp only [Bool.and_eq_true] at hb
    obtain ⟨⟨hpk, hgz⟩, hgk⟩ := hb
    have e := ret_eq e; subst e
    have hkk := gr_eq hk hgk
    subst hkk
    rcases hmm with ⟨rfl, rfl⟩ | ⟨r, es', ck, rfl, hheap, her⟩
    · simp [findE] at hf
    · obtain ⟨v', h1, h2, _⟩ := findE_spec es es'.toList 0 _ her hf
      have hrun : (Instr.lookup t (.map (some r)) k' ok).run P w = .ok (if ok then .tuple #[v', .bool true] else v') w := by
        simp only [Instr.lookup, Sem.run_bind, run_underlying hu, Result.andThen_ok, run_getObj_map hheap, Sem.run_pure, run_checkKey 9999 hkd hpk, run_findKey hkd h1]
      exact Val.same h hrun (okRel true h2)
  · rename_i hb hf
    simp only [Bool.and_eq_true] at hb
    obtain ⟨⟨hpk, hgz⟩, hgk⟩ := hb
    have e := ret_eq e; subst e
    have hkk := gr_eq hk hgk
    subst hkk
    have hzr := gr_refl ι hgz
    have hres := okRel (ok := ok) false hzr
    rcases hmm with ⟨rfl, rfl⟩ | ⟨r, es', ck, rfl, hheap, her⟩
    · have hrun : (Instr.lookup t (.map none) k' ok).run P w = .ok (if ok then .tuple #[z, .bool false] else z) w := by
        simp only [Instr.lookup, Sem.run_bind, run_underlying hu, Result.andThen_ok, Sem.run_pure, run_checkKey 9999 hkd hpk, run_findKey (l := []) (r := none) hkd rfl, run_zero' hz]
      exact Val.same h hrun hres
    · have h1 := findE_spec es es'.toList 0 _ her hf
      have hrun : (Instr.lookup t (.map (some r)) k' ok).run P w = .ok (if ok then .tuple #[z, .bool false] else z) w := by
        simp only [Instr.lookup, Sem.run_bind, run_underlying hu, Result.andThen_ok, run_getObj_map hheap, Sem.run_pure, run_checkKey 9999 hkd hpk, run_findKey hkd h1, run_zero' hz]
      exact Val.same h hrun hres

theorem run_setObj_map {r : Nat} {es es' : Array MapEntry} {c c' : Nat} (h : w.heap[r]? = some (.map es c)) : (setObj r (.map es' c')).run P w = .ok () { w with heap := w.heap.setIfInBounds r (.map es' c') } := by
  simp [setObj, Sem.run, h]

theorem put_map (h : Rel P w0 σ ι w) {r : Nat} {p : Pl} {es es1 : List (Value × Value)} (hg : σ.get r = some (.map es)) (hp : ι r = some p) {l1 : Array MapEntry} {ck : Nat} (her : ERel ι es1 l1.toList) (hbn : Born l1.toList ck) :
    Step P w0 σ ι w (σ.put r (some (.map es1))) ι { w with heap := w.heap.setIfInBounds p.block (.map l1 ck) } := by
  obtain ⟨es', ck', h1, h2, h3, h4, _⟩ := h.map hg hp
  have hlt : p.block < w.heap.size := by
    obtain ⟨hi, _⟩ := Array.getElem?_eq_some_iff.1 h1; exact hi
  refine Step.put h r _ _ p hg rfl rfl hp rfl rfl rfl (by simp) (fun k _ hk => ?_) ?_
  · show (w.heap.setIfInBounds p.block _)[k]? = _
    rw [Array.getElem?_setIfInBounds, if_neg (by omega)]
  · refine ⟨l1, ck, ?_, by simpa using her.1, fun i e e' a b => her.2 i e e' a (by simpa using b), h4, hbn⟩
    show (w.heap.setIfInBounds p.block _)[p.block]? = _
    rw [Array.getElem?_setIfInBounds, if_pos rfl, if_pos hlt]

theorem sameNow_bits {kd : TypeDesc} {k k' : Value} (h : Instr.sameNow kd k k' = some true) : Instr.sameBits 10000 k' k = true ∧ k' = k := by
  unfold Instr.sameNow at h
  split at h <;> try contradiction
  · rename_i a b c d
    split at h
    · rename_i he; subst he
      have : b = d := by simpa using h
      subst this
      simp [Instr.sameBits]
    · cases h
  · rename_i a b
    have : a = b := bytes_eq (Option.some.inj h)
    subst this; simp [Instr.sameBits, bytes_refl]
  · rename_i a b
    have : a = b := by simpa using h
    subst this; simp [Instr.sameBits]

theorem op_mapUpdate (h : Rel P w0 σ ι w) {t : TypeId} {m m' k k' v v' : Value} {r : Value × Option AW} (e : aMapUpdate P σ t m k v = some r) (hm : VRel ι m m') (hk : VRel ι k k') (hv : VRel ι v v') :
    Unt P w0 σ ι w (Instr.mapUpdate t m' k' v') r := by
  unfold aMapUpdate at e
  split at e <;> try contradiction
  rename_i kt el b hu
  split at e <;> try contradiction
  rename_i kd es hkd hg
  cases hm with
  | map _ p hp =>
  obtain ⟨es', ck, h1, h2, h3, h4, h5⟩ := h.map hg hp
  have her : ERel ι es es'.toList := ⟨by simpa using h2, fun i e e' a b => h3 i e e' a (by simpa using b)⟩
  split at e <;> try contradiction
  · rename_i i v0 hb hf
    simp only [Bool.and_eq_true] at hb
    obtain ⟨hpk, hgk⟩ := hb
    cases e
    have hkk := gr_eq hk hgk
    subst hkk
    obtain ⟨v1, hfn, _, _, he1, e2, he2, _, hsn⟩ := findE_spec es es'.toList 0 _ her hf
    simp only [Nat.sub_zero] at he1 he2
    obtain ⟨hbits, hkey⟩ := sameNow_bits hsn
    have he2' : es'[i]? = some e2 := by simpa using he2
    refine ⟨_, ι, ?_, put_map h hg hp (l1 := es'.modify i fun e => { e with key := k', val := v' }) (ck := ck) ?_ (by rw [Array.toList_modify]; exact h5.modify i _ fun _ => rfl), rfl⟩
    · simp only [Instr.mapUpdate, Sem.run_bind, run_underlying hu, Result.andThen_ok, run_getObj_map h1, run_checkKey 9999 hkd hpk, run_findKey hkd hfn, Instr.keyThatStays, he2', Option.map_some, Option.getD_some, hbits, if_true, Sem.run_pure, run_setObj_map h1]
    · refine ⟨by simp [setAt, h2], fun j x x' a b => ?_⟩
      unfold setAt at a
      rw [List.getElem?_modify] at a
      rw [Array.toList_modify, List.getElem?_modify] at b
      cases hes : es[j]? with
      | none => rw [hes] at a; simp at a
      | some y =>
        cases hes' : es'.toList[j]? with
        | none => rw [hes'] at b; simp at b
        | some y' =>
          rw [hes] at a; rw [hes'] at b
          simp only [Option.map_eq_map, Option.map_some, Option.some.injEq] at a b
          by_cases hij : i = j
          · subst hij
            rw [if_pos rfl] at a b
            subst a; subst b
            have he : y' = e2 := Option.some.inj (hes'.symm.trans he2)
            have h9 := (her.2 i y y' hes hes').1
            rw [he, hkey] at h9
            exact ⟨h9, hv⟩
          · rw [if_neg hij] at a b; subst a; subst b
            exact her.2 j y y' hes hes'
  · rename_i hb hf
    simp only [Bool.and_eq_true] at hb
    obtain ⟨hpk, hgk⟩ := hb
    cases e
    have hkk := gr_eq hk hgk
    subst hkk
    have hfn := findE_spec es es'.toList 0 _ her hf
    simp only at hfn
    refine ⟨_, ι, ?_, put_map h hg hp (l1 := es'.push { key := k', val := v', born := ck }) (ck := ck + 1) ?_ (by rw [Array.toList_push]; exact h5.push rfl), rfl⟩
    · simp only [Instr.mapUpdate, Sem.run_bind, run_underlying hu, Result.andThen_ok, run_getObj_map h1, run_checkKey 9999 hkd hpk, run_findKey hkd hfn, run_setObj_map h1]
    · refine ⟨by simp [h2], fun j x x' a b => ?_⟩
      rw [Array.toList_push] at b
      by_cases hj : j < es.length
      · rw [List.getElem?_append_left hj] at a
        rw [List.getElem?_append_left (by simp; omega)] at b
        exact her.2 j x x' a b
      · rw [List.getElem?_append_right (by omega)] at a
        rw [List.getElem?_append_right (by simp; omega)] at b
        have hlen : es'.toList.length = es.length := by simp [h2]
        rw [hlen] at b
        match hd : j - es.length with
        | 0 => rw [hd] at a b; simp at a b; subst a; subst b; exact ⟨rfl, hv⟩
        | n + 1 => rw [hd] at a; simp at a

theorem op_delete (h : Rel P w0 σ ι w) {t t' ty : TypeId} {m m' k k' : Value} {r : Value × Option AW} (e : aDelete P σ t m k = some r) (hm : VRel ι m m') (hk : VRel ι k k') :
    Val P w0 σ ι w (Builtin.delete_ #[t, t'] ty #[m', k']) r := by
  unfold aDelete at e
  split at e <;> try contradiction
  rename_i kt el b hu
  split at e <;> try contradiction
  rename_i kd es hkd hg
  cases hm with
  | map _ p hp =>
  obtain ⟨es', ck, h1, h2, h3, h4, h5⟩ := h.map hg hp
  have her : ERel ι es es'.toList := ⟨by simpa using h2, fun i e e' a b => h3 i e e' a (by simpa using b)⟩
  split at e <;> try contradiction
  · rename_i i v0 hb hf
    simp only [Bool.and_eq_true] at hb
    obtain ⟨hpk, hgk⟩ := hb
    cases e
    have hkk := gr_eq hk hgk
    subst hkk
    obtain ⟨v1, hfn, _, _, he1, e2, he2, _, hsn⟩ := findE_spec es es'.toList 0 _ her hf
    simp only [Nat.sub_zero] at he1 he2
    refine ⟨.tuple #[], _, ι, ?_, put_map h hg hp (l1 := es'.eraseIdxIfInBounds i) (ck := ck) ?_ (by rw [show (es'.eraseIdxIfInBounds i).toList = es'.toList.eraseIdx i by simp]; exact h5.erase i), VRel.undef ι⟩
    · simp [Builtin.delete_, run_underlying hu, run_getObj_map h1, run_checkKey 9999 hkd hpk, run_findKey hkd hfn, run_setObj_map h1]
    · have hl : (es'.eraseIdxIfInBounds i).toList = es'.toList.eraseIdx i := by simp
      rw [hl]
      refine ⟨by rw [List.length_eraseIdx, List.length_eraseIdx, her.1], fun j x x' a c => ?_⟩
      rw [List.getElem?_eraseIdx] at a c
      split at a
      · rename_i hji
        rw [if_pos hji] at c
        exact her.2 _ x x' a c
      · rename_i hji
        rw [if_neg hji] at c
        exact her.2 _ x x' a c
  · rename_i hb hf
    simp only [Bool.and_eq_true] at hb
    obtain ⟨hpk, hgk⟩ := hb
    have e := ret_eq e; subst e
    have hkk := gr_eq hk hgk
    subst hkk
    have hfn := findE_spec es es'.toList 0 _ her hf
    simp only at hfn
    have hset : { w with heap := w.heap.setIfInBounds p.block (.map es' ck) } = w := by
      have : w.heap.setIfInBounds p.block (.map es' ck) = w.heap := by
        apply Array.ext_getElem?
        intro j
        rw [Array.getElem?_setIfInBounds]
        split
        · rename_i hj; subst hj
          split
          · exact h1.symm
          · rename_i hn; rw [Array.getElem?_eq_none (by omega)] at h1; cases h1
        · rfl
      rw [this]
    refine Val.same h (v' := .tuple #[]) ?_ (VRel.undef ι)
    have := run_setObj_map (P := P) (es' := es') (c' := ck) h1
    rw [hset] at this
    simp [Builtin.delete_, run_underlying hu, run_getObj_map h1, run_checkKey 9999 hkd hpk, run_findKey hkd hfn, this]

end Go.Ai

/- The rest of the operations that do not call. -/
namespace Go.Ai
open Go.RowKit
variable {P : Program} {w0 : World} {σ : AW} {ι : Inj} {w : World}

theorem op_makeSlice (h : Rel P w0 σ ι w) {t : TypeId} {l l' c c' : Value} {r : Value × Option AW} (e : aMakeSlice P σ t l c = some r) (hl : VRel ι l l') (hc : VRel ι c c') :
    Val P w0 σ ι w (Instr.makeSlice t l' c') r := by
  unfold aMakeSlice at e
  split at e <;> try contradiction
  rename_i el l c hu
  split at e <;> try contradiction
  rename_i i hi
  split at e <;> try contradiction
  rename_i z hz
  split at e <;> try contradiction
  rename_i hb
  simp only [Bool.and_eq_true] at hb
  obtain ⟨⟨⟨⟨⟨hg, hsz⟩, h1⟩, hlc⟩, hc20⟩, hbytes⟩ := hb
  have hsz := beq_eq hsz; have h1 := ble_le h1; have hlc := ble_le hlc; have hc20 := ble_le hc20; have hbytes := ble_le hbytes
  cases e
  cases hl
  cases hc
  have hsize : sizeOfT P el = some i.size := by simp [sizeOfT, hi]
  have hzero : (P.info? el).bind (·.zero) = some z := by simp [hi, hz]
  have hrow : LRel ι ((Array.range (c * i.size)).map (z.cells[· % z.cells.size]!)).toList ((Array.range (c * i.size)).map (z.cells[· % z.cells.size]!)).toList := ground_row (zero_row hg _ (.inr (by omega)))
  have hs := newCells_spec (t := el) (loose := false) (k := 0) (z := 0) (rest := []) h (Below.refl _ w) hrow (by simp)
  have hwrap : ∀ n : Nat, n ≤ 2 ^ 20 → IntKind.i64.wrap (Int.ofNat n) = (n : Int) := fun n hn => by
    have := IntWalk.i64_in (n : Int) (by constructor <;> omega)
    exact this
  refine ⟨_, _, _, ?_, hs, .slice _ _ _ _ _ _ _ (Inj.ext_at _ _ _) (.inl ⟨low_small (by omega), rfl⟩) hlc (fun _ => rfl)⟩
  have hmul : (i.bytes : Int) * (c : Int) ≤ 2 ^ 40 := by
    have : i.bytes * c ≤ 2 ^ 20 * 2 ^ 20 := Nat.mul_le_mul hbytes hc20
    have h2 : (2 : Nat) ^ 20 * 2 ^ 20 = 2 ^ 40 := by decide
    rw [h2] at this
    exact_mod_cast this
  have hw1 := hwrap l (by omega)
  have hw2 := hwrap c hc20
  have c1 : ¬ ((c : Int) < 0) := by omega
  have c2 : ¬ ((i.bytes : Int) * (c : Int) > 2 ^ 48) := by omega
  have c3 : ¬ ((l : Int) < 0) := by omega
  have c4 : ¬ ((l : Int) > (c : Int)) := by omega
  have hi' : i.zero = some z := hz
  unfold Instr.makeSlice
  by_cases h0 : c * i.size = 0
  · simp only [Sem.run_bind, run_underlying hu, Result.andThen_ok, asInt, asIntOf, Sem.run_pure, run_info' hi, hw1, hw2, c1, c2, c3, c4, decide_false, Bool.or_self, Bool.false_eq_true, if_false, Int.toNat_natCast, run_askRoom, run_sizeOf' hsize, h0, if_true, newRow, run_newObj]
    simp
    congr 2
    apply Array.ext'
    simp
  · simp only [Sem.run_bind, run_underlying hu, Result.andThen_ok, asInt, asIntOf, Sem.run_pure, run_info' hi, hw1, hw2, c1, c2, c3, c4, decide_false, Bool.or_self, Bool.false_eq_true, if_false, Int.toNat_natCast, run_askRoom, run_sizeOf' hsize, h0, run_zero' hzero, newRow, run_newObj]
    simp
    congr 2
    apply Array.ext'
    simp

theorem byteCells_run : ∀ (l l' : List Value) (bs : List UInt8) (acc : ByteArray), LRel ι l l' → byteCells l = some bs → ∀ w : World,
    (forIn (m := Sem) l' acc fun c s => (match c with
      | .int .u8 n => pure (ForInStep.yield (s.push (UInt8.ofNat n.toNat)))
      | _ => do
        stuck (α := PUnit) "bytesToString: byte expected"
        pure (ForInStep.yield s) : Sem (ForInStep ByteArray))).run P w = .ok ⟨(acc.data.toList ++ bs).toArray⟩ w
  | [], l', bs, acc, h, e, w => by
    rw [h.nil_inv]
    simp only [byteCells] at e; cases e
    simp
  | x :: l, l', bs, acc, h, e, w => by
    obtain ⟨x', t', rfl, hx, ht⟩ := h.cons_inv
    cases x with
    | int k n =>
      cases k with
      | u8 =>
        simp only [byteCells] at e
        split at e <;> try contradiction
        rename_i bl hbl
        cases e
        cases hx
        have ih := byteCells_run l t' bl (acc.push (UInt8.ofNat n.toNat)) ht hbl w
        simp only [List.forIn_cons, Sem.run_bind, Sem.run_pure, Result.andThen_ok]
        rw [ih]
        congr 2
        simp
      | _ => simp [byteCells] at e
    | _ => simp [byteCells] at e

theorem run_stringToBytes (w : World) (el : TypeId) (s : ByteArray) (hs : s.size ≤ 2 ^ 30) : ∃ cap w', s.size ≤ cap ∧ cap ≤ 2 ^ 64 ∧ (Conv.stringToBytes el s).run P w = .ok (.slice (some ⟨w.heap.size, 0, none⟩) s.size cap) w' ∧ Below w.heap.size w w' ∧
    ∃ c, w'.heap[w.heap.size]? = some (.cells c el (c.size, c.size + 1)) ∧ c.size = cap ∧ ∀ (o : Nat) (x : Value), (bytesOf s)[o]? = some x → c[o]? = some x := by
  generalize hcap : (Question.appendCap s.size 0 el).cut (w.tape w.drawn (.appendCap s.size 0 el)) = cap
  have hle : s.size ≤ cap := by rw [← hcap]; simp only [Question.cut]; omega
  have hub : cap ≤ 2 ^ 64 := by
    rw [← hcap]; simp only [Question.cut]
    have : w.tape w.drawn (.appendCap s.size 0 el) % (2 ^ 63 - s.size) < 2 ^ 63 - s.size := Nat.mod_lt _ (by omega)
    omega
  generalize hrow : (s.data.map fun b => Value.int .u8 b.toNat) ++ Array.replicate (cap - s.size) (.int .u8 0) = row
  have hsz : row.size = cap := by
    rw [← hrow]; simp
    have : s.data.size = s.size := rfl
    omega
  let w1 : World := { w with drawn := w.drawn + 1, heap := w.heap.push (.cells row el) }
  refine ⟨cap, w1.freeze ⟨w.heap.size, row.size, none⟩ 1, hle, hub, ?_, ?_, row, ?_, hsz, ?_⟩
  · have hshape : w1.shape? w.heap.size = some (el, row.size) := by simp [w1, World.shape?]
    simp only [Conv.stringToBytes, Sem.run_bind, run_choose, Question.forced, Bool.false_eq_true, if_false, hcap, Result.andThen_ok, newRow, run_newObj, Sem.run_pure, hrow, markStringish, run_shape]
    show ((match w1.shape? w.heap.size with | some (_, n) => freeze { block := w.heap.size, off := n } 1 | _ => pure ()).run P w1).andThen _ = _
    rw [hshape]
    rfl
  · refine ⟨rfl, rfl, rfl, ?_, fun k hk => ?_⟩
    · simp [World.freeze, w1]
    · simp only [World.freeze, w1]
      rw [if_neg (by omega)]
      simp only [Array.getElem?_modify]
      rw [if_neg (by omega), Array.getElem?_push, if_neg (by omega)]
  · simp only [World.freeze, w1]
    rw [if_neg (by omega)]
    simp only []
    rw [Array.getElem?_modify, if_pos rfl, Array.getElem?_push, if_pos rfl]
    simp
  · intro o x hx
    have hss : s.data.size = s.size := rfl
    have ho : o < s.data.size := by
      rcases Nat.lt_or_ge o s.data.size with h | h
      · exact h
      · rw [List.getElem?_eq_none (by simp [bytesOf]; omega)] at hx; cases hx
    rw [← hrow, Array.getElem?_append_left (by simpa using ho)]
    simpa [bytesOf] using hx

theorem op_convert (h : Rel P w0 σ ι w) {s d : TypeId} {x x' : Value} {r : Value × Option AW} (e : aConvert P σ s d x = some r) (hx : VRel ι x x') : Val P w0 σ ι w (convert s d x') r := by
  unfold aConvert at e
  split at e <;> try contradiction
  · rename_i el b hs' hd
    split at e <;> try contradiction
    cases e
    cases hx
    rename_i hu8 hz1 hble
    have hble := ble_le hble
    obtain ⟨cap, w', hle, hub, hrun, hbelow, c, hc, hcs, hrow⟩ := run_stringToBytes (P := P) w el b hble
    have hs := Step.new h (.cells (bytesOf b) el true false) ⟨w.heap.size, 0, cap, 1⟩ hbelow (Nat.le_refl _) (by
      refine ⟨c, c.size, c.size + 1, hc, ?_, ?_, ?_, ?_, fun _ => rfl⟩
      · rw [hcs]; simp [bytesOf]; exact hle
      · intro o x hx
        have := hrow o x hx
        simp only [Nat.zero_add]
        exact ⟨x, this, groundN_refl _ 8 x (bytesOf_plain b x (List.mem_of_getElem? hx))⟩
      · intro _; exact ⟨by simp [hcs], by simp, hz1⟩
      · intro _; exact ⟨h.below.size, .inr (Nat.le_refl _)⟩)
    refine ⟨_, w', _, ?_, hs, VRel.loose (Inj.ext_at _ _ _) hle hub⟩
    simp only [convert, Sem.run_bind, run_underlying hs', run_underlying hd, Result.andThen_ok, run_underlying hu8]
    exact hrun
  · rename_i el0 el b o n cap hs hd
    split at e <;> try contradiction
    rename_i vs t loose hsd hu8 hg
    cases e
    cases hx with
    | slice _ _ o' _ _ cap' p hp hc hl ho =>
    obtain ⟨c, lo, hi, hcc, hsize, hrel, h4, h5⟩ := h.cells hg hp
    obtain ⟨hB, hfr⟩ := h5 rfl
    have hsd := beq_eq hsd
    subst hsd
    rw [hs] at hd
    cases hd
    have hlt : p.block < w.heap.size := by
      obtain ⟨hi, _⟩ := Array.getElem?_eq_some_iff.1 hcc; exact hi
    have hshape : w.shape? p.block = some (t, c.size) := by simp [World.shape?, hcc]
    have hheap : (w.freeze ⟨p.block, c.size, none⟩ 1).heap[p.block]? = some (.cells c t (if lo == hi then (c.size, c.size + 1) else (min lo c.size, max hi (c.size + 1)))) := by
      simp only [World.freeze]
      rw [if_neg (by omega)]
      simp only []
      rw [Array.getElem?_modify, if_pos rfl, hcc]
      simp
    have hstep := Step.put (w' := w.freeze ⟨p.block, c.size, none⟩ 1) h b _ (.cells vs t loose false) p hg rfl rfl hp (by simp [World.freeze]) (by simp [World.freeze]) (by simp [World.freeze]) (by simp [World.freeze])
      (fun k _ hk => by
        simp only [World.freeze]
        rw [if_neg (by omega)]
        simp only []
        rw [Array.getElem?_modify, if_neg (by omega)])
      (by
        by_cases hlh : lo = hi
        · subst hlh
          simp only [beq_self_eq_true, if_true] at hheap
          exact ⟨c, _, _, hheap, hsize, hrel, h4, (fun _ => ⟨hB, .inr (Nat.le_refl _)⟩), h.flat hg hp⟩
        · have hb : (lo == hi) = false := by simpa using hlh
          rw [hb] at hheap
          simp only [Bool.false_eq_true, if_false] at hheap
          refine ⟨c, _, _, hheap, hsize, hrel, h4, (fun _ => ⟨hB, .inr ?_⟩), h.flat hg hp⟩
          rcases hfr with h | h
          · exact (hlh h).elim
          · omega)
    refine ⟨.slice (some ⟨p.block, o', none⟩) n cap', _, ι, ?_, hstep, .slice _ _ _ _ _ _ p hp hc hl ho⟩
    simp only [convert, Sem.run_bind, run_underlying hs, Result.andThen_ok, beq_self_eq_true, run_underlying hu8, markStringish, run_shape, hshape]
    rfl
  · rename_i el b o n cap hs hd
    split at e <;> try contradiction
    rename_i hu8
    cases hx with
    | slice _ _ o' _ _ cap' p hp hc hl ho =>
    split at e
    · have e := ret_eq e; subst e
      refine Val.same h (v' := .string .empty) ?_ (.string _)
      simp only [convert, Sem.run_bind, run_underlying hs, run_underlying hd, Result.andThen_ok, run_underlying hu8]
      simp [Conv.bytesToString, loadCells, loadCellsFrom]
    · rename_i n
      split at e <;> try contradiction
      rename_i l hl2
      split at e <;> try contradiction
      rename_i bs hbs
      have e := ret_eq e; subst e
      obtain ⟨hlen, l', hr, hcell⟩ := cellsAt_spec h hl2 hp
      have ho' := ho (by omega)
      subst ho'
      have hlen' : l'.length = n + 1 := by rw [← hr.1]; exact hlen
      have hld := run_loadCells_list (P := P) w ⟨p.block, p.d + o, none⟩ l' (fun j v hj => by rw [addr_add]; exact hcell j v hj)
      rw [hlen'] at hld
      have hfor := byteCells_run (P := P) l l' bs ByteArray.empty hr hbs w
      refine Val.same h (v' := .string ⟨bs.toArray⟩) ?_ (.string _)
      simp only [convert, Sem.run_bind, run_underlying hs, run_underlying hd, Result.andThen_ok, run_underlying hu8, Conv.bytesToString, hld]
      rw [List.forIn_toArray]
      exact (congrArg (fun r => Result.andThen r (fun a w' => Sem.run P (pure (Value.string a)) w')) hfor).trans (by simp)

theorem op_makeInterface (h : Rel P w0 σ ι w) {t : TypeId} {x x' v : Value} (e : aMakeInterface P t x = some v) (hx : VRel ι x x') : Val P w0 σ ι w (Instr.makeInterface t x') (v, none) := by
  unfold aMakeInterface at e
  split at e <;> try contradiction
  rename_i d hn hu
  cases e
  refine Val.same h (v' := .iface t x') ?_ (.iface t _ _ hx)
  simp only [Instr.makeInterface, Sem.run_bind, run_underlying hu, Result.andThen_ok]
  cases d <;> first | rfl | exact (hn _ rfl).elim

theorem op_typeAssert (h : Rel P w0 σ ι w) {xt t : TypeId} {ok : Bool} {x x' v : Value} (e : aTypeAssert P x t ok = some v) (hx : VRel ι x x') : Val P w0 σ ι w (Instr.typeAssert x' xt t ok) (v, none) := by
  unfold aTypeAssert at e
  split at e <;> try contradiction
  rename_i d u y hn hu
  split at e <;> try contradiction
  rename_i hut
  have hut := beq_eq hut
  subst hut
  cases e
  cases hx with
  | iface _ _ y' hy =>
  refine Val.same h (v' := if ok then .tuple #[y', .bool true] else y') ?_ (okRel true hy)
  simp only [Instr.typeAssert, Sem.run_bind, run_underlying hu, Result.andThen_ok]
  cases d <;> first | (exact (hn _ rfl).elim) | (simp)

theorem op_extract (h : Rel P w0 σ ι w) {i : Nat} {x x' v : Value} (e : aExtract i x = some v) (hx : VRel ι x x') : Val P w0 σ ι w (Instr.extract x' i) (v, none) := by
  unfold aExtract at e
  split at e <;> try contradiction
  rename_i vs
  cases hx with
  | tuple _ c' hc hr =>
  obtain ⟨hi, rfl⟩ := Array.getElem?_eq_some_iff.1 e
  have h' : c'[i]? = some (c'[i]'(by omega)) := by simp
  refine Val.same h (v' := c'[i]'(by omega)) ?_ (hr i _ _ e h')
  simp [Instr.extract, h']

theorem op_range (h : Rel P w0 σ ι w) {t : TypeId} {x x' : Value} {r : Value × Option AW} (e : aRange P σ t x = some r) (hx : VRel ι x x') : Val P w0 σ ι w (Instr.range t x') r := by
  unfold aRange at e
  split at e <;> try contradiction
  rename_i s hu
  cases e
  cases hx
  have hs := Step.new h (.iter s 0) ⟨w.heap.size, 0, 0, 0⟩ (below_push w (.stringIter s 0)) (Nat.le_refl _) ⟨by simp, h.below.size, rfl⟩
  refine ⟨_, _, _, ?_, hs, .ptr _ _ _ (Inj.ext_at _ _ _)⟩
  simp [Instr.range, run_underlying hu]

theorem op_next (h : Rel P w0 σ ι w) {ty : TypeId} {x x' : Value} {r : Value × Option AW} (e : aNext σ x = some r) (hx : VRel ι x x') : Val P w0 σ ι w (Instr.next x' true ty) r := by
  unfold aNext at e
  split at e <;> try contradiction
  rename_i b
  split at e <;> try contradiction
  rename_i s pos hg
  cases hx with
  | ptr _ _ p hp =>
  obtain ⟨q, hq, hb⟩ := h.blk b _ hg
  have : q = p := Option.some.inj (hq.symm.trans hp)
  subst this
  obtain ⟨hb, hB, hd0⟩ := hb
  have hlt : q.block < w.heap.size := by
    obtain ⟨hi, _⟩ := Array.getElem?_eq_some_iff.1 hb; exact hi
  have hget : (getObj q.block).run P w = .ok (.stringIter s pos) w := by simp [getObj, Sem.run, hb]
  have hset : ∀ n, (setObj q.block (.stringIter s n)).run P w = .ok () { w with heap := w.heap.setIfInBounds q.block (.stringIter s n) } := fun n => by simp [setObj, Sem.run, hb]
  split at e
  · rename_i hpos
    have hpos := ble_le hpos
    cases e
    have hstep := Step.put (w' := { w with heap := w.heap.setIfInBounds q.block (.stringIter s (pos + (Utf8.decode s pos).2)) }) h b _ (.iter s (pos + (Utf8.decode s pos).2)) q hg rfl rfl hp rfl rfl rfl (by simp)
      (fun k _ hk => by show (w.heap.setIfInBounds q.block _)[k]? = _; rw [Array.getElem?_setIfInBounds, if_neg (by omega)])
      ⟨by show (w.heap.setIfInBounds q.block _)[q.block]? = _; rw [Array.getElem?_setIfInBounds, if_pos rfl, if_pos hlt], hB, hd0⟩
    refine ⟨_, _, ι, ?_, hstep, gr_refl ι rfl⟩
    rw [hd0]
    simp only [Instr.next, Sem.run_bind, hget, Result.andThen_ok]
    rw [if_pos (by omega)]
    simp only [Sem.run_bind, hset, Result.andThen_ok]
    rfl
  · rename_i hpos
    have hpos := ble_gt hpos
    have e := ret_eq e; subst e
    refine Val.same h (v' := .tuple #[.bool false]) ?_ (gr_refl ι rfl)
    rw [hd0]
    simp only [Instr.next, Sem.run_bind, hget, Result.andThen_ok]
    rw [if_neg (by omega)]
    rfl

theorem op_makeMap (h : Rel P w0 σ ι w) {t : TypeId} : Val P w0 σ ι w (Instr.makeMap t none) (.map (some σ.next), some (σ.new (.map []))) := by
  have hs := Step.new h (.map []) ⟨w.heap.size, 0, 0, 0⟩ (below_push w (.map #[] 0)) (Nat.le_refl _) ⟨#[], 0, by simp, rfl, by simp, h.below.size, by simp [Born]⟩
  refine ⟨_, _, _, ?_, hs, .map _ _ (Inj.ext_at _ _ _)⟩
  simp [Instr.makeMap]

end Go.Ai

/- Operations, calls and code: the interpreter is sound. -/
namespace Go.Ai
open Go.RowKit
variable {P : Program} {w0 : World} {σ : AW} {ι : Inj} {w : World}

/-- What an operation's run comes to, as the machine goes on from it. -/
def NVal (P : Program) (w0 : World) (σ : AW) (ι : Inj) (w : World) (s : Sem Next) (r : Value × Option AW) : Prop :=
  ∃ n v' w' ι', s.run P w = .ok n w' ∧ (n = .value v' ∨ (n = .skip ∧ v' = undef)) ∧ Step P w0 σ ι w (r.2.getD σ) ι' w' ∧ VRel ι' r.1 v'

theorem NVal.ofVal {s : Sem Value} {r : Value × Option AW} (h : Val P w0 σ ι w s r) : NVal P w0 σ ι w (do pure (.value (← s))) r := by
  obtain ⟨v', w', ι', h1, h2, h3⟩ := h
  exact ⟨.value v', v', w', ι', by simp [h1], .inl rfl, h2, h3⟩
theorem NVal.ofUnt {s : Sem Unit} {r : Value × Option AW} (h : Unt P w0 σ ι w s r) : NVal P w0 σ ι w (do s; pure .skip) r := by
  obtain ⟨w', ι', h1, h2, h3⟩ := h
  exact ⟨.skip, undef, w', ι', by simp [h1], .inr ⟨rfl, rfl⟩, h2, by rw [h3]; exact VRel.undef ι'⟩
theorem NVal.same (h : Rel P w0 σ ι w) {v v' : Value} (hv : VRel ι v v') : NVal P w0 σ ι w (pure (.value v')) (v, none) :=
  ⟨.value v', v', w, ι, rfl, .inl rfl, Step.refl h, hv⟩

theorem eval_getD (a : Act) (t : Nat) : a.eval (.tmp t) = a.tmps.toList.getD t undef := by
  simp only [Act.eval, Array.getD_eq_getD_getElem?, List.getD_eq_getElem?_getD, Array.getElem?_toList]

theorem ev_rel (h : Rel P w0 σ ι w) {fr : List Value} {a : Act} (hfr : LRel ι fr a.tmps.toList) {x : Operand} (hx : evOk P x = true) : VRel ι (ev fr x) (a.eval x) := by
  cases x with
  | tmp t => rw [eval_getD]; exact hfr.getD t
  | const v => exact gr_refl ι hx
  | global g =>
    obtain ⟨p, hp, hb, hd⟩ := h.glob g (ble_le hx)
    have := VRel.ptr (ι := ι) g 0 p hp
    rw [hb, hd] at this
    exact this
  | func f => exact .func _ _ _ _ _ rfl rfl rfl (by simp) (by simp)

/-- The operands of an operation. -/
def XRel (ι : Inj) (fr : List Value) (a : Act) (o : Oper) : Prop := ∀ x ∈ o.op.operands.toList, VRel ι (ev fr x) (a.eval x)

theorem XRel.of (h : Rel P w0 σ ι w) {fr : List Value} {a : Act} (hfr : LRel ι fr a.tmps.toList) {o : Oper} (hok : ∀ x ∈ o.op.operands.toList, evOk P x = true) : XRel ι fr a o :=
  fun x hx => ev_rel h hfr (hok x hx)

theorem LRel.map_ev {fr : List Value} {a : Act} : ∀ (l : List Operand), (∀ x ∈ l, VRel ι (ev fr x) (a.eval x)) → LRel ι (l.map (ev fr)) (l.map a.eval)
  | [], _ => LRel.nil ι
  | x :: l, hl => LRel.cons (hl x (by simp)) (LRel.map_ev l fun y hy => hl y (by simp [hy]))
theorem PRel.map_ev {fr : List Value} {a : Act} : ∀ (l : List (Nat × Operand)), (∀ x ∈ l, VRel ι (ev fr x.2) (a.eval x.2)) →
    PRel ι (l.map fun p => (p.1, ev fr p.2)) (l.map fun p => (p.1, a.eval p.2))
  | [], _ => trivial
  | x :: l, hl => ⟨rfl, hl x (by simp), PRel.map_ev l fun y hy => hl y (by simp [hy])⟩
theorem ORel.map_ev {fr : List Value} {a : Act} (x : Option Operand) (hx : ∀ y, x = some y → VRel ι (ev fr y) (a.eval y)) : ORel ι (x.map (ev fr)) (x.map a.eval) := by
  cases x with
  | none => trivial
  | some y => exact hx y rfl

theorem some'_eq {v : Option Value} {r : Value × Option AW} (e : (match v with | some v => ret v | none => none : Out) = some r) : ∃ u, v = some u ∧ r = (u, none) := by
  cases v with
  | none => cases e
  | some u => exact ⟨u, rfl, ret_eq e⟩

theorem aOp_sound (h : Rel P w0 σ ι w) {o : Oper} {fr : List Value} {a : Act} {r : Value × Option AW} (hx : XRel ι fr a o) (e : aOp P o (ev fr) σ = some r) :
    NVal P w0 σ ι w (execOp a.eval o) r := by
  obtain ⟨dst, op, type, pos, after, guard⟩ := o
  have R : ∀ x, x ∈ op.operands.toList → VRel ι (ev fr x) (a.eval x) := hx
  cases op with
  | move x => have e := ret_eq e; subst e; exact NVal.same h (R x (by simp [Op.operands]))
  | assign x => have e := ret_eq e; subst e; exact NVal.same h (R x (by simp [Op.operands]))
  | pick c x y =>
    have hc := R c (by simp [Op.operands])
    have hx := R x (by simp [Op.operands])
    have hy := R y (by simp [Op.operands])
    simp only [aOp] at e
    split at e <;> try contradiction
    · rename_i hb
      have e := ret_eq e; subst e
      rw [hb] at hc
      generalize hcv : a.eval c = cv at hc
      cases hc
      refine ⟨.value (a.eval x), _, w, ι, ?_, .inl rfl, Step.refl h, hx⟩
      simp [execOp, hcv, asBool]
    · rename_i hb
      have e := ret_eq e; subst e
      rw [hb] at hc
      generalize hcv : a.eval c = cv at hc
      cases hc
      refine ⟨.value (a.eval y), _, w, ι, ?_, .inl rfl, Step.refl h, hy⟩
      simp [execOp, hcv, asBool]
  | alloc t => exact NVal.ofVal (op_alloc h e)
  | box t x => exact NVal.ofVal (op_box h e (R x (by simp [Op.operands])))
  | build t ps =>
    obtain ⟨u, hu, rfl⟩ := some'_eq e
    have hp := PRel.map_ev ps.toList (fun x hx => R x.2 (by simp [Op.operands]; exact ⟨x.1, by simpa using hx⟩))
    have := NVal.ofVal (op_build h hu hp)
    have hm : (ps.toList.map fun p => (p.1, a.eval p.2)).toArray = ps.map fun (i, x) => (i, a.eval x) := by
      apply Array.ext'; simp
    rw [hm] at this
    exact this
  | buildSlice t n ps =>
    have hp := PRel.map_ev ps.toList (fun x hx => R x.2 (by simp [Op.operands]; exact ⟨x.1, by simpa using hx⟩))
    have := NVal.ofVal (op_buildSlice h e hp)
    have hm : (ps.toList.map fun p => (p.1, a.eval p.2)).toArray = ps.map fun (i, x) => (i, a.eval x) := by
      apply Array.ext'; simp
    rw [hm] at this
    exact this
  | insert t m k x => exact NVal.ofUnt (op_mapUpdate h e (R m (by simp [Op.operands])) (R k (by simp [Op.operands])) (R x (by simp [Op.operands])))
  | load t x => exact NVal.ofVal (op_load h e (R x (by simp [Op.operands])))
  | store t x y => exact NVal.ofUnt (op_store h e (R x (by simp [Op.operands])) (R y (by simp [Op.operands])))
  | nilCheck x =>
    obtain ⟨u, hu, rfl⟩ := some'_eq e
    have hx := R x (by simp [Op.operands])
    unfold aNilCheck at hu
    split at hu <;> try contradiction
    · rename_i b hb
      cases hu
      rw [hb] at hx
      generalize hxv : a.eval x = xv at hx
      cases hx with
      | ptr a' o' p hp =>
      refine ⟨.value (.pointer (some ⟨p.block, p.d + o', none⟩)), _, w, ι, ?_, .inl rfl, Step.refl h, .ptr _ _ p hp⟩
      simp [execOp, hxv]
    · rename_i f l c hb
      cases hu
      rw [hb] at hx
      generalize hxv : a.eval x = xv at hx
      cases hx with
      | func _ _ f' _ c' hy hf hc rf rc =>
      refine ⟨.value (.func (.func f) f' c'), _, w, ι, ?_, .inl rfl, Step.refl h, .func _ _ _ _ _ hy hf hc rf rc⟩
      simp [execOp, hxv]
    · rename_i t v hb
      cases hu
      rw [hb] at hx
      generalize hxv : a.eval x = xv at hx
      cases hx with
      | iface _ _ v' hv =>
      refine ⟨.value (.iface t v'), _, w, ι, ?_, .inl rfl, Step.refl h, .iface _ _ _ hv⟩
      simp [execOp, hxv]
  | binOp op t x y yt =>
    obtain ⟨u, hu, rfl⟩ := some'_eq e
    exact NVal.ofVal (op_binOp h x y hu (R x (by simp [Op.operands])) (R y (by simp [Op.operands])))
  | convert s d x => exact NVal.ofVal (op_convert h e (R x (by simp [Op.operands])))
  | makeInterface t x =>
    obtain ⟨u, hu, rfl⟩ := some'_eq e
    exact NVal.ofVal (op_makeInterface h hu (R x (by simp [Op.operands])))
  | makeFunc fn f c =>
    simp only [aOp] at e
    split at e <;> try contradiction
    rename_i hy
    have e := ret_eq e; subst e
    refine ⟨.value (.func fn (f.map a.eval) (c.map a.eval)), _, w, ι, rfl, .inl rfl, Step.refl h, .func _ _ _ _ _ hy (by simp) (by simp) ?_ ?_⟩
    · have := LRel.map_ev f.toList (fun x hx => R x (by simp [Op.operands]; exact .inl (by simpa using hx)))
      intro i x x' p q
      exact this.2 i x x' (by simpa using p) (by simpa using q)
    · have := LRel.map_ev c.toList (fun x hx => R x (by simp [Op.operands]; exact .inr (by simpa using hx)))
      intro i x x' p q
      exact this.2 i x x' (by simpa using p) (by simpa using q)
  | makeMap t r' =>
    cases r' with
    | none => cases e; exact NVal.ofVal (op_makeMap h)
    | some r' => cases e
  | makeSlice t l c => exact NVal.ofVal (op_makeSlice h e (R l (by simp [Op.operands])) (R c (by simp [Op.operands])))
  | slice t x lo hi mx =>
    obtain ⟨u, hu, rfl⟩ := some'_eq e
    exact NVal.ofVal (op_slice h hu (R x (by simp [Op.operands])) (ORel.map_ev lo fun y hy => R y (by simp [Op.operands, hy])) (ORel.map_ev hi fun y hy => R y (by simp [Op.operands, hy]))
      (ORel.map_ev mx fun y hy => R y (by simp [Op.operands, hy])))
  | fieldAddr s x f =>
    obtain ⟨u, hu, rfl⟩ := some'_eq e
    exact NVal.ofVal (op_fieldAddr h hu (R x (by simp [Op.operands])))
  | field t x f =>
    obtain ⟨u, hu, rfl⟩ := some'_eq e
    exact NVal.ofVal (op_field h hu (R x (by simp [Op.operands])))
  | indexAddr t x i =>
    obtain ⟨u, hu, rfl⟩ := some'_eq e
    exact NVal.ofVal (op_indexAddr h hu (R x (by simp [Op.operands])) (R i (by simp [Op.operands])))
  | index t x i =>
    obtain ⟨u, hu, rfl⟩ := some'_eq e
    exact NVal.ofVal (op_index h hu (R x (by simp [Op.operands])) (R i (by simp [Op.operands])))
  | lookup t m k ok => exact NVal.ofVal (op_lookup h e (R m (by simp [Op.operands])) (R k (by simp [Op.operands])))
  | mapUpdate t m k x => exact NVal.ofUnt (op_mapUpdate h e (R m (by simp [Op.operands])) (R k (by simp [Op.operands])) (R x (by simp [Op.operands])))
  | range t x => exact NVal.ofVal (op_range h e (R x (by simp [Op.operands])))
  | next it b =>
    cases b with
    | true => exact NVal.ofVal (op_next h e (R it (by simp [Op.operands])))
    | false => cases e
  | typeAssert x xt t ok =>
    obtain ⟨u, hu, rfl⟩ := some'_eq e
    exact NVal.ofVal (op_typeAssert h hu (R x (by simp [Op.operands])))
  | extract x i =>
    obtain ⟨u, hu, rfl⟩ := some'_eq e
    exact NVal.ofVal (op_extract h hu (R x (by simp [Op.operands])))
  | call c =>
    obtain ⟨callee, args, argTypes⟩ := c
    cases callee with
    | value f => cases e
    | invoke f n => cases e
    | builtin b =>
      have RA : ∀ x, x ∈ args.toList → VRel ι (ev fr x) (a.eval x) := fun x hx => R x (by simpa [Op.operands, Call.operands] using hx)
      cases b <;> try (cases e; done)
      case append =>
        simp only [aOp] at e
        split at e <;> try contradiction
        rename_i s x t t' ha ht
        have hA : args = #[s, x] := by apply Array.ext'; simpa using ha
        have hT : argTypes = #[t, t'] := by apply Array.ext'; simpa using ht
        subst hA; subst hT
        have key := NVal.ofVal (op_append (t' := t') (ty := type) h e (RA s (by simp)) (RA x (by simp)))
        have hm : (#[s, x] : Array Operand).map a.eval = #[a.eval s, a.eval x] := by simp
        rw [← hm] at key
        exact key
      case copy =>
        simp only [aOp] at e
        split at e <;> try contradiction
        rename_i s x t t' ha ht
        have hA : args = #[s, x] := by apply Array.ext'; simpa using ha
        have hT : argTypes = #[t, t'] := by apply Array.ext'; simpa using ht
        subst hA; subst hT
        have key := NVal.ofVal (op_copy (t' := t') (ty := type) h e (RA s (by simp)) (RA x (by simp)))
        have hm : (#[s, x] : Array Operand).map a.eval = #[a.eval s, a.eval x] := by simp
        rw [← hm] at key
        exact key
      case clear =>
        simp only [aOp] at e
        split at e <;> try contradiction
        rename_i s t ha ht
        have hA : args = #[s] := by apply Array.ext'; simpa using ha
        have hT : argTypes = #[t] := by apply Array.ext'; simpa using ht
        subst hA; subst hT
        have key := NVal.ofVal (op_clear (ty := type) h e (RA s (by simp)))
        have hm : (#[s] : Array Operand).map a.eval = #[a.eval s] := by simp
        rw [← hm] at key
        exact key
      case len =>
        simp only [aOp] at e
        split at e <;> try contradiction
        rename_i s t ha ht
        have hA : args = #[s] := by apply Array.ext'; simpa using ha
        have hT : argTypes = #[t] := by apply Array.ext'; simpa using ht
        subst hA; subst hT
        have key := NVal.ofVal (op_len (ty := type) h e (RA s (by simp)))
        have hm : (#[s] : Array Operand).map a.eval = #[a.eval s] := by simp
        rw [← hm] at key
        exact key
      case delete =>
        simp only [aOp] at e
        split at e <;> try contradiction
        rename_i s x t t' ha ht
        have hA : args = #[s, x] := by apply Array.ext'; simpa using ha
        have hT : argTypes = #[t, t'] := by apply Array.ext'; simpa using ht
        subst hA; subst hT
        have key := NVal.ofVal (op_delete (t' := t') (ty := type) h e (RA s (by simp)) (RA x (by simp)))
        have hm : (#[s, x] : Array Operand).map a.eval = #[a.eval s, a.eval x] := by simp
        rw [← hm] at key
        exact key
  | _ => cases e

end Go.Ai

/- Operations by the model's own text; what a call enters. -/
namespace Go.Ai
open Go.RowKit
variable {P : Program} {w0 : World} {σ : AW} {ι : Inj} {w : World}

theorem pureRun_spec {α : Type} : ∀ (s : Sem α) (x : α), pureRun P s = some x → ∀ w, s.run P w = .ok x w := by
  intro s
  induction s with
  | pure a => intro x e w; simp only [pureRun] at e; cases e; rfl
  | program k ih => intro x e w; simp only [pureRun] at e; simp only [Sem.run]; exact ih P x e w
  | mark m k ih => intro x e w; simp only [pureRun] at e; simp only [Sem.run]; exact ih x e w
  | _ => intro x e; simp [pureRun] at e

theorem exec_congr {ρ ρ' : Operand → Value} {o : Oper} (hk : gKind o.op = true) (h : ∀ x ∈ o.op.operands.toList, ρ x = ρ' x) : execOp ρ o = execOp ρ' o := by
  obtain ⟨dst, op, type, pos, after, guard⟩ := o
  have R : ∀ x, x ∈ op.operands.toList → ρ x = ρ' x := h
  have O : ∀ (x : Option Operand), (∀ y, x = some y → ρ y = ρ' y) → x.map ρ = x.map ρ' := fun x hx => by cases x with
    | none => rfl
    | some y => simp [hx y rfl]
  have A : ∀ (l : Array Operand), (∀ x ∈ l.toList, ρ x = ρ' x) → l.map ρ = l.map ρ' := fun l hl => by
    apply Array.ext'; simp only [Array.toList_map]; exact List.map_congr_left hl
  cases op <;> try (simp [gKind] at hk; done)
  case binOp op t x y yt => simp only [execOp]; rw [R x (by simp [Op.operands]), R y (by simp [Op.operands])]
  case unOp op t x => simp only [execOp]; rw [R x (by simp [Op.operands])]
  case convert s d x => simp only [execOp]; rw [R x (by simp [Op.operands])]
  case index t x i => simp only [execOp]; rw [R x (by simp [Op.operands]), R i (by simp [Op.operands])]
  case field t x i => simp only [execOp]; rw [R x (by simp [Op.operands])]
  case extract x i => simp only [execOp]; rw [R x (by simp [Op.operands])]
  case typeAssert x t u ok => simp only [execOp]; rw [R x (by simp [Op.operands])]
  case makeInterface t x => simp only [execOp]; rw [R x (by simp [Op.operands])]
  case nilCheck x => simp only [execOp]; rw [R x (by simp [Op.operands])]
  case slice t x lo hi mx =>
    simp only [execOp]
    rw [R x (by simp [Op.operands]), O lo (fun y hy => R y (by simp [Op.operands, hy])), O hi (fun y hy => R y (by simp [Op.operands, hy])), O mx (fun y hy => R y (by simp [Op.operands, hy]))]
  case call c =>
    obtain ⟨callee, args, argTypes⟩ := c
    cases callee with
    | value f =>
      simp only [execOp, resolve]
      rw [R f (by simp [Op.operands, Call.operands]), A args (fun x hx => R x (by simp [Op.operands, Call.operands]; exact .inr (by simpa using hx)))]
    | invoke f n => simp [gKind] at hk
    | builtin b =>
      simp only [execOp, resolve]
      rw [A args (fun x hx => R x (by simp [Op.operands, Call.operands]; exact (by simpa using hx)))]

theorem gOp_sound (h : Rel P w0 σ ι w) {o : Oper} {fr : List Value} {a : Act} {r : Value × Option AW} (hx : XRel ι fr a o) (e : gOp P o (ev fr) = some r) : NVal P w0 σ ι w (execOp a.eval o) r := by
  unfold gOp at e
  split at e <;> try contradiction
  rename_i hb
  simp only [Bool.and_eq_true] at hb
  split at e <;> try contradiction
  rename_i v hv
  split at e <;> try contradiction
  rename_i hg
  have e := ret_eq e; subst e
  have hcong : execOp (ev fr) o = execOp a.eval o := by
    refine exec_congr hb.1 fun x hxm => ?_
    have hgx := List.all_eq_true.1 hb.2 x hxm
    exact (gr_eq (hx x hxm) hgx).symm
  refine ⟨.value v, v, w, ι, ?_, .inl rfl, Step.refl h, gr_refl ι hg⟩
  rw [← hcong]
  exact pureRun_spec _ _ hv w

theorem method_spec (h : Rel P w0 σ ι w) {t : TypeId} {v v' x : Value} {name : String} {f : FuncId} (e : aMethod P σ t v name = some (f, x)) (hv : VRel ι v v') (n : Nat) :
    ∃ x', (method (n + 1) t v' name).run P w = .ok (f, x') w ∧ VRel ι x x' := by
  unfold aMethod at e
  split at e <;> try contradiction
  rename_i i hi
  split at e <;> try contradiction
  rename_i m hm
  split at e <;> try contradiction
  · rename_i f' el hpath hfunc hu
    cases e
    refine ⟨v', ?_, hv⟩
    simp only [method, Sem.run_bind, run_info' hi, Result.andThen_ok, hm, hpath, follow, Sem.run_pure, hfunc, receiverAt, run_underlying hu, Place.get]
  · rename_i f' el hpath hfunc hu
    split at e <;> try contradiction
    rename_i y hld
    cases e
    obtain ⟨y', b, rfl, _, hrun, hy⟩ := aLoad_spec h hld hv
    refine ⟨y', ?_, hy⟩
    have hpe : m.path.isEmpty = true := by
      have : m.path = #[] := by apply Array.ext'; simpa using hpath
      rw [this]; rfl
    simp only [method, Sem.run_bind, run_info' hi, Result.andThen_ok, hm, hpath, follow, Sem.run_pure, hfunc, receiverAt, run_underlying hu, Place.get, hpe, if_true]
    have hssa : ∀ (s s' : String), Builtin.ssaWrapNilChk_ #[t] t #[.pointer (some b), strVal s, strVal s'] = pure (.pointer (some b)) := fun _ _ => rfl
    simp only [hssa, Sem.run_pure, Result.andThen_ok, asAddr, hrun]
  · rename_i f' d hp hpath hfunc hu
    cases e
    refine ⟨v', ?_, hv⟩
    simp only [method, Sem.run_bind, run_info' hi, Result.andThen_ok, hm, hpath, follow, Sem.run_pure, hfunc, receiverAt, run_underlying hu]
    cases d <;> first | rfl | exact (hp _ rfl).elim

end Go.Ai

/- Calls and code: the interpreter is sound. -/
namespace Go.Ai
open Go.RowKit
variable {P : Program} {w0 : World} {σ : AW} {ι : Inj} {w : World} {self : Self} {sums : Sums}

theorem callMethod_spec (h : Rel P w0 σ ι w) {t : TypeId} {v v' x : Value} {name : String} {f : FuncId} (e : aMethod P σ t v name = some (f, x)) (hv : VRel ι v v') (args args' : List Value) (ha : LRel ι args args') :
    ∃ l', (callMethod (.iface t v') name args'.toArray).run P w = (callFunc f l'.toArray).run P w ∧ LRel ι (x :: args) l' := by
  obtain ⟨x', hrun, hx⟩ := method_spec h e hv (P.types.size + (Made.depth - 1))
  have hd : P.types.size + Made.depth = P.types.size + (Made.depth - 1) + 1 := by unfold Made.depth; omega
  refine ⟨x' :: args', ?_, LRel.cons hx ha⟩
  simp only [callMethod, Sem.run_bind, run_program, Result.andThen_ok, hd, hrun]
  congr 2
  apply Array.ext'
  simp

theorem target_spec (h : Rel P w0 σ ι w) {o : Oper} {fr : List Value} {a : Act} {f : FuncId} {args : List Value} (hx : XRel ι fr a o) (e : aTarget P o (ev fr) σ = some (f, args)) :
    ∃ l', (execOp a.eval o).run P w = (callFunc f l'.toArray).run P w ∧ LRel ι args l' := by
  obtain ⟨dst, op, type, pos, after, guard⟩ := o
  have R : ∀ x, x ∈ op.operands.toList → VRel ι (ev fr x) (a.eval x) := hx
  cases op with
  | call c =>
    obtain ⟨callee, cargs, argTypes⟩ := c
    have RA : LRel ι (cargs.toList.map (ev fr)) (cargs.toList.map a.eval) := LRel.map_ev _ (fun y hy => R y (by
      cases callee <;> simp [Op.operands, Call.operands] <;> (first | exact .inr (by simpa using hy) | exact (by simpa using hy))))
    have hargs : cargs.map a.eval = (cargs.toList.map a.eval).toArray := by apply Array.ext'; simp
    cases callee with
    | builtin b => cases e
    | invoke r name =>
      have hr := R r (by simp [Op.operands, Call.operands])
      simp only [aTarget] at e
      split at e <;> try contradiction
      rename_i t v hrv
      split at e <;> try contradiction
      rename_i g x hm
      cases e
      rw [hrv] at hr
      generalize hre : a.eval r = rv at hr
      cases hr with
      | iface _ _ v' hv =>
      obtain ⟨l', hrun, hl⟩ := callMethod_spec h hm hv _ _ RA
      refine ⟨l', ?_, hl⟩
      rw [← hrun]
      simp only [execOp, resolve, Sem.run_bind, Sem.run_pure, Result.andThen_ok, invoke, hre, hargs]
      have h1 : ((#[Value.iface t v'] ++ (cargs.toList.map a.eval).toArray)[0]? : Option Value) = some (.iface t v') := by simp
      have h2 : (#[Value.iface t v'] ++ (cargs.toList.map a.eval).toArray).extract 1 (#[Value.iface t v'] ++ (cargs.toList.map a.eval).toArray).size = (cargs.toList.map a.eval).toArray := by
        apply Array.ext'; simp [List.take_of_length_le]
      simp only [h1, h2]
    | value fv =>
      have hf := R fv (by simp [Op.operands, Call.operands])
      simp only [aTarget] at e
      split at e <;> try contradiction
      · rename_i g first captured hfe
        cases e
        rw [hfe] at hf
        generalize hfv : a.eval fv = fvv at hf
        cases hf with
        | func _ _ first' _ captured' hy hs1 hs2 r1 r2 =>
        have R1 : LRel ι first.toList first'.toList := ⟨by simpa using hs1, fun i x x' p q => r1 i x x' (by simpa using p) (by simpa using q)⟩
        have R2 : LRel ι captured.toList captured'.toList := ⟨by simpa using hs2, fun i x x' p q => r2 i x x' (by simpa using p) (by simpa using q)⟩
        refine ⟨first'.toList ++ cargs.toList.map a.eval ++ captured'.toList, ?_, (R1.append RA).append R2⟩
        simp only [execOp, resolve, Sem.run_bind, hfv, Deferred.ofValue, Sem.run_pure, Result.andThen_ok, invoke, hargs]
        congr 2
        apply Array.ext'
        simp
      · rename_i name first captured hfe
        rw [hfe] at hf
        generalize hfv : a.eval fv = fvv at hf
        cases hf with
        | func _ _ first' _ captured' hy hs1 hs2 r1 r2 =>
        have R1 : LRel ι first.toList first'.toList := ⟨by simpa using hs1, fun i x x' p q => r1 i x x' (by simpa using p) (by simpa using q)⟩
        have R := R1.append RA
        split at e <;> try contradiction
        rename_i recv rest hrr
        rw [hrr] at R
        obtain ⟨recv', rest', hl', hrv, hrest⟩ := R.cons_inv
        split at e <;> try contradiction
        rename_i t v
        split at e <;> try contradiction
        rename_i g x hm
        cases e
        cases hrv with
        | iface _ _ v' hv =>
        obtain ⟨l', hrun, hl⟩ := callMethod_spec h hm hv _ _ hrest
        refine ⟨l', ?_, hl⟩
        rw [← hrun]
        have hA : first' ++ cargs.map a.eval = (Value.iface t v' :: rest').toArray := by
          apply Array.ext'; rw [← hl']; simp
        simp only [execOp, resolve, Sem.run_bind, hfv, Deferred.ofValue, Sem.run_pure, Result.andThen_ok, invoke, hA]
        have h1 : ((Value.iface t v' :: rest').toArray[0]? : Option Value) = some (.iface t v') := by simp
        have h2 : (Value.iface t v' :: rest').toArray.extract 1 (Value.iface t v' :: rest').toArray.size = rest'.toArray := by apply Array.ext'; simp
        simp only [h1, h2]
      · rename_i mt name first captured hfe
        rw [hfe] at hf
        generalize hfv : a.eval fv = fvv at hf
        cases hf with
        | func _ _ first' _ captured' hy hs1 hs2 r1 r2 =>
        have R1 : LRel ι first.toList first'.toList := ⟨by simpa using hs1, fun i x x' p q => r1 i x x' (by simpa using p) (by simpa using q)⟩
        have R := R1.append RA
        split at e <;> try contradiction
        rename_i recv rest hrr
        rw [hrr] at R
        obtain ⟨recv', rest', hl', hrv, hrest⟩ := R.cons_inv
        have hA : first' ++ cargs.map a.eval = (recv' :: rest').toArray := by
          apply Array.ext'; rw [← hl']; simp
        have h1 : ((recv' :: rest').toArray[0]? : Option Value) = some recv' := by simp
        have h2 : (recv' :: rest').toArray.extract 1 (recv' :: rest').toArray.size = rest'.toArray := by apply Array.ext'; simp
        split at e <;> try contradiction
        · rename_i ms hu
          split at e <;> try contradiction
          rename_i t v
          split at e <;> try contradiction
          rename_i g x hm
          cases e
          cases hrv with
          | iface _ _ v' hv =>
          obtain ⟨l', hrun, hl⟩ := callMethod_spec h hm hv _ _ hrest
          refine ⟨l', ?_, hl⟩
          rw [← hrun]
          simp only [execOp, resolve, Sem.run_bind, hfv, Deferred.ofValue, Sem.run_pure, Result.andThen_ok, invoke, hA, h1, h2, run_underlying hu]
        · rename_i d hn hu
          split at e <;> try contradiction
          rename_i g x hm
          cases e
          obtain ⟨l', hrun, hl⟩ := callMethod_spec h hm hrv _ _ hrest
          refine ⟨l', ?_, hl⟩
          rw [← hrun]
          simp only [execOp, resolve, Sem.run_bind, hfv, Deferred.ofValue, Sem.run_pure, Result.andThen_ok, invoke, hA, h1, h2, run_underlying hu]
  | _ => cases e

/-- What code leaves. -/
def exOf : AEx → Exit
  | .normal => .normal
  | .exit id => .exit id
  | .ret => .ret

def Post (P : Program) (w0 : World) (σ : AW) (ι : Inj) (w : World) (ex : AEx) (fr' : List Value) (σ' : AW) (e : Exit) (a : Act) (w' : World) : Prop :=
  e = exOf ex ∧ a.defers = [] ∧ ∃ ι', Step P w0 σ ι w σ' ι' w' ∧ LRel ι' fr' a.tmps.toList

/-- The interpreter of code is sound. -/
def SelfSound (P : Program) (w0 : World) (self : Self) : Prop :=
  ∀ c, codeOk c = true → ∀ fr σ ex fr' σ', self c fr σ = some (ex, fr', σ') → ∀ ι w (a : Act), Rel P w0 σ ι w → LRel ι fr a.tmps.toList → a.defers = [] → Code.wp P c (Post P w0 σ ι w ex fr' σ') a w

/-- What a call leaves. -/
def CPost (P : Program) (w0 : World) (σ : AW) (ι : Inj) (w : World) (r : Value × Option AW) (e : Ending) (w' : World) : Prop :=
  ∃ v' ι', e = .returned v' ∧ Step P w0 σ ι w (r.2.getD σ) ι' w' ∧ VRel ι' r.1 v'

/-- Summaries of functions are sound. -/
def SumsSound (P : Program) (w0 : World) (sums : Sums) : Prop :=
  ∀ f s, sums f = some s → ∀ args σ r, s args σ = some r → ∀ ι w (args' : List Value), Rel P w0 σ ι w → LRel ι args args' → Calls P f args'.toArray w (CPost P w0 σ ι w r)

theorem aRes_spec (h : Rel P w0 σ ι w) {fr : List Value} {tmps : Array Value} (hfr : LRel ι fr tmps.toList) : ∀ (rs : List ResultVar) (l : List Value), aRes P fr σ rs = some l →
    ∃ l', (rs.mapM (m := Sem) fun
      | .tmp t => pure (tmps.getD t undef)
      | .cell a t => do loadVar t (← asAddr (tmps.getD a undef))).run P w = .ok l' w ∧ LRel ι l l'
  | [], l, e => by simp only [aRes] at e; cases e; exact ⟨[], by simp, LRel.nil ι⟩
  | .tmp t :: rs, l, e => by
    simp only [aRes] at e
    split at e <;> try contradiction
    rename_i l1 h1
    cases e
    obtain ⟨l', hl, hr⟩ := aRes_spec h hfr rs l1 h1
    refine ⟨tmps.getD t undef :: l', ?_, LRel.cons ?_ hr⟩
    · simp only [List.mapM_cons, Sem.run_bind, Sem.run_pure, Result.andThen_ok, hl]
    · have := hfr.getD t
      simpa [Array.getD_eq_getD_getElem?, List.getD_eq_getElem?_getD] using this
  | .cell b t :: rs, l, e => by
    simp only [aRes] at e
    split at e <;> try contradiction
    rename_i v l1 h1 h2
    cases e
    obtain ⟨l', hl, hr⟩ := aRes_spec h hfr rs l1 h2
    have hb : VRel ι (fr.getD b undef) (tmps.getD b undef) := by
      have := hfr.getD b
      simpa [Array.getD_eq_getD_getElem?, List.getD_eq_getElem?_getD] using this
    obtain ⟨v', ad, he, _, hrun, hv⟩ := aLoad_spec h h1 hb
    refine ⟨v' :: l', ?_, LRel.cons hv hr⟩
    have has : asAddr (.pointer (some ad)) = pure ad := rfl
    simp only [List.mapM_cons, Sem.run_bind, Sem.run_pure, Result.andThen_ok, hl, he, has, hrun]

theorem results_spec (h : Rel P w0 σ ι w) {fn : Func} {fr : List Value} {tmps : Array Value} (hfr : LRel ι fr tmps.toList) {l : List Value} (e : aRes P fr σ fn.results.toList = some l) :
    ∃ v', (results fn tmps).run P w = .ok v' w ∧ VRel ι (joinRes l) v' := by
  obtain ⟨l', hl, hr⟩ := aRes_spec h hfr _ _ e
  have hm : (fn.results.mapM (m := Sem) fun
      | .tmp t => pure (tmps.getD t undef)
      | .cell a t => do loadVar t (← asAddr (tmps.getD a undef))).run P w = .ok l'.toArray w := by
    rw [Array.mapM_eq_mapM_toList, Sem.run_map, hl]; rfl
  have hrun : (results fn tmps).run P w = .ok (if h : l'.toArray.size = 1 then l'.toArray[0] else .tuple l'.toArray) w := by
    unfold results
    rw [Sem.run_bind]
    exact congrArg (fun r => Result.andThen r fun (vs : Array Value) w' => Sem.run P (pure (if h : vs.size = 1 then vs[0] else .tuple vs)) w') hm
  rw [hrun]
  clear hrun hm hl e
  match l, l', hr with
  | [], [], hr => exact ⟨_, rfl, VRel.undef ι⟩
  | [x], [x'], hr => exact ⟨x', rfl, hr.head⟩
  | x :: y :: l, x' :: y' :: l', hr =>
    refine ⟨.tuple (x' :: y' :: l').toArray, by simp, ?_⟩
    simp only [joinRes]
    exact .tuple _ _ (by simpa using hr.1) (fun i a b p q => hr.2 i a b (by simpa using p) (by simpa using q))
  | [], _ :: _, hr => have := hr.1; simp at this
  | _ :: _, [], hr => have := hr.1; simp at this
  | [_], _ :: _ :: _, hr => have := hr.1; simp at this
  | _ :: _ :: _, [_], hr => have := hr.1; simp at this

/-- The program's code is fit for the interpreter. -/
def ProgOk (P : Program) : Prop := ∀ (f : FuncId) (fn : Func) (c : Code), P.funcs[f]? = some fn → fn.body = some c → codeOk c = true ∧ (fn.name == "runtime.NumGoroutine") = false
theorem progOk_spec (h : progOk P = true) : ProgOk P := by
  intro f fn c hf hc
  have hm : fn ∈ P.funcs.toList := by
    obtain ⟨hi, rfl⟩ := Array.getElem?_eq_some_iff.1 hf
    exact Array.mem_toList_iff.2 (Array.getElem_mem hi)
  have := List.all_eq_true.1 h fn hm
  rw [hc] at this
  simpa using this

theorem aCall_sound (hP : ProgOk P) (hself : SelfSound P w0 self) (hsums : SumsSound P w0 sums) (h : Rel P w0 σ ι w) {f : FuncId} {args args' : List Value} {r : Value × Option AW} (e : aCall P sums self f args σ = some r) (ha : LRel ι args args') :
    Calls P f args'.toArray w (CPost P w0 σ ι w r) ∧ ∃ fn c, P.funcs[f]? = some fn ∧ fn.body = some c := by
  unfold aCall at e
  split at e <;> try contradiction
  rename_i fn hf
  split at e <;> try contradiction
  rename_i c hc
  refine ⟨?_, fn, c, hf, hc⟩
  split at e
  · rename_i s hs
    exact hsums f s hs args σ r e ι w args' h ha
  · split at e <;> try contradiction
    rename_i ex fr σ' hne hrun
    split at e <;> try contradiction
    rename_i l hl
    have hfr0 : LRel ι (args ++ List.replicate (fn.ntmps - args.length) undef) (args'.toArray ++ Array.replicate (fn.ntmps - args'.toArray.size) undef).toList := by
      simp only [Array.toList_append, Array.toList_replicate, List.size_toArray, ← ha.1]
      refine ha.append ⟨rfl, fun i x x' p q => ?_⟩
      rw [p] at q; cases q
      have := List.mem_of_getElem? p
      rw [List.eq_of_mem_replicate this]; exact VRel.undef ι
    have hwp := hself c (hP f fn c hf hc).1 _ _ ex fr σ' hrun ι w { tmps := args'.toArray ++ Array.replicate (fn.ntmps - args'.toArray.size) undef, defers := [] } (h.withMw INF) hfr0 rfl
    refine calls_of_wp hf hc (wp_mono hwp fun e1 a1 w1 hp => ?_)
    obtain ⟨he, hd, ι', hstep, hfr'⟩ := hp
    obtain ⟨v', hv, hrel⟩ := results_spec hstep.rel hfr' hl
    have key : CPost P w0 σ ι w r (.returned v') w1 := by
      split at e
      · rename_i hb
        simp only [Bool.and_eq_true] at hb
        have e := ret_eq e; subst e
        have hbelow := Step.clean hstep (h.withMw INF) (ble_le hb.2)
        have hv' := gr_eq hrel hb.1
        exact ⟨v', ι, rfl, Step.grow h hbelow, by rw [hv']; exact gr_refl ι hb.1⟩
      · cases e
        exact ⟨v', ι', rfl, Step.ofInner INF hstep, hrel⟩
    subst he
    cases ex with
    | normal => exact ⟨hd, v', hv, key⟩
    | ret => exact ⟨hd, v', hv, key⟩
    | exit id => exact (hne id rfl).elim

theorem callFunc_enter (hN : ProgOk P) {f : FuncId} {fn : Func} {c : Code} (hf : P.funcs[f]? = some fn) (hc : fn.body = some c) (args : Array Value) (w : World) : (callFunc f args).run P w = .ok (.enter f args) w := by
  have hn := (hN f fn c hf hc).2
  simp only [callFunc, Sem.run_bind, run_program, Result.andThen_ok, hf, hn, hc, Bool.false_eq_true, if_false]
  rfl

theorem putT_rel {fr : List Value} {a : Act} (hfr : LRel ι fr a.tmps.toList) (d : Option Tmp) {v v' : Value} (hv : VRel ι v v') : LRel ι (putT fr d v) (a.put d v').tmps.toList := by
  cases d with
  | none => exact hfr
  | some t =>
    simp only [putT, Act.put, Array.toList_setIfInBounds]
    exact hfr.set t hv
theorem put_defers (a : Act) (d : Option Tmp) (v : Value) : (a.put d v).defers = a.defers := by cases d <;> rfl

theorem aOper_wp (hN : ProgOk P) (hself : SelfSound P w0 self) (hsums : SumsSound P w0 sums) (h : Rel P w0 σ ι w) {o : Oper} {fr : List Value} {a : Act} (hx : XRel ι fr a o) {r : Value × Option AW}
    (e : aOper P sums self o fr σ = some r) {K : Act → World → Prop} {Q : Exit → Act → World → Prop} (hK : ∀ v' w' ι', Step P w0 σ ι w (r.2.getD σ) ι' w' → VRel ι' r.1 v' → K (a.put o.dst v') w') : o.wp P a w K Q := by
  unfold aOper at e
  split at e <;> try contradiction
  have ofN : NVal P w0 σ ι w (execOp a.eval o) r → o.wp P a w K Q := by
    rintro ⟨n, v', w', ι', hrun, hn, hs, hv⟩
    unfold Oper.wp
    rw [hrun]
    rcases hn with rfl | ⟨rfl, rfl⟩
    · exact hK v' w' ι' hs hv
    · exact hK undef w' ι' hs hv
  split at e
  · rename_i r' he
    cases e
    exact ofN (aOp_sound h hx he)
  · split at e
    · rename_i r' he
      cases e
      exact ofN (gOp_sound h hx he)
    · split at e <;> try contradiction
      rename_i f args ht
      obtain ⟨l', hrun, hl⟩ := target_spec h hx ht
      obtain ⟨hcall, fn, c, hf, hc⟩ := aCall_sound hN hself hsums h e hl
      unfold Oper.wp
      rw [hrun, callFunc_enter hN hf hc]
      refine hcall.mono fun en w' hp => ?_
      obtain ⟨v', ι', rfl, hs, hv⟩ := hp
      exact hK v' w' ι' hs hv

theorem aOper_ok {o : Oper} {fr : List Value} {r : Value × Option AW} (e : aOper P sums self o fr σ = some r) : ∀ x ∈ o.op.operands.toList, evOk P x = true := by
  unfold aOper at e
  split at e <;> try contradiction
  rename_i hall
  exact List.all_eq_true.1 hall

theorem yielded_eq {fr : List Value} {a : Act} (hfr : LRel ι fr a.tmps.toList) (ops : Array Oper) : yielded ops a.tmps = yieldedL ops fr := by
  funext j
  unfold yielded yieldedL
  cases hd : (ops[j]?).bind (·.dst) with
  | none => simp
  | some t =>
    simp only [Option.bind_some]
    cases hx : fr[t]? with
    | none =>
      have := hfr.none hx
      rw [Array.getElem?_toList] at this
      rw [this]
    | some x =>
      obtain ⟨x', hx', hv⟩ := hfr.get hx
      rw [Array.getElem?_toList] at hx'
      rw [hx']
      cases hv <;> rfl

theorem Post.trans (h : Rel P w0 σ ι w) {σ1 : AW} {ι1 : Inj} {w1 : World} (hs : Step P w0 σ ι w σ1 ι1 w1) {ex : AEx} {fr' : List Value} {σ' : AW} {e : Exit} {a : Act} {w' : World} (hp : Post P w0 σ1 ι1 w1 ex fr' σ' e a w') :
    Post P w0 σ ι w ex fr' σ' e a w' := by
  obtain ⟨h1, h2, ι', h3, h4⟩ := hp
  exact ⟨h1, h2, ι', Step.trans h hs h3, h4⟩

theorem aSeq_sound (hN : ProgOk P) (hself : SelfSound P w0 self) (hsums : SumsSound P w0 sums) (ops : Array Oper) : ∀ (l : List Oper) (fr : List Value) (σ : AW) (fr' : List Value) (σ' : AW), aSeq P sums self ops l fr σ = some (fr', σ') →
    ∀ ι w (a : Act) (Q : Exit → Act → World → Prop), (∀ ex a1 w1, Post P w0 σ ι w .normal fr' σ' ex a1 w1 → Q ex a1 w1) → Rel P w0 σ ι w → LRel ι fr a.tmps.toList → a.defers = [] → wpList P ops Q l a w
  | [], fr, σ, fr', σ', e, ι, w, a, Q, hQ, h, hfr, hd => by
    simp only [aSeq] at e; cases e
    exact hQ _ _ _ ⟨rfl, hd, ι, Step.refl h, hfr⟩
  | o :: rest, fr, σ, fr', σ', e, ι, w, a, Q, hQ, h, hfr, hd => by
    simp only [aSeq] at e
    unfold wpList
    rw [yielded_eq hfr ops]
    split at e
    · rename_i hw
      rw [if_pos hw]
      split at e <;> try contradiction
      rename_i v u ho
      refine .inl (aOper_wp hN hself hsums h (XRel.of h hfr (aOper_ok ho)) ho fun v' w' ι' hs hv => ?_)
      exact aSeq_sound hN hself hsums ops rest _ _ _ _ e ι' w' (a.put o.dst v') Q (fun ex a1 w1 hp => hQ _ _ _ (hp.trans h hs)) hs.rel (putT_rel (hfr.mono hs.le) o.dst hv) (by rw [put_defers]; exact hd)
    · rename_i hw
      rw [if_neg (by rw [hw]; simp)]
      exact aSeq_sound hN hself hsums ops rest _ _ _ _ e ι w (a.put o.dst undef) Q hQ h (putT_rel hfr o.dst (VRel.undef ι)) (by rw [put_defers]; exact hd)

theorem aLoop_sound (hself : SelfSound P w0 self) {c : Code} (hck : codeOk c = true) : ∀ (n : Nat) (fr : List Value) (σ : AW) (ex : AEx) (fr' : List Value) (σ' : AW), aLoop self c n fr σ = some (ex, fr', σ') → ex ≠ .normal ∧
    ∀ ι w (a : Act) (Q : Exit → Act → World → Prop), (∀ e a1 w1, Post P w0 σ ι w ex fr' σ' e a1 w1 → Q e a1 w1) → Rel P w0 σ ι w → LRel ι fr a.tmps.toList → a.defers = [] → Code.rounds P c Q n a w
  | 0, _, _, _, _, _, e => by cases e
  | n + 1, fr, σ, ex, fr', σ', e => by
    simp only [aLoop] at e
    split at e
    · rename_i fr1 σ1 h1
      obtain ⟨hne, ih⟩ := aLoop_sound hself hck n fr1 σ1 ex fr' σ' e
      refine ⟨hne, fun ι w a Q hQ h hfr hd => ?_⟩
      rw [rounds_succ]
      refine wp_mono (hself c hck fr σ _ _ _ h1 ι w a h hfr hd) fun e1 a1 w1 hp => ?_
      obtain ⟨rfl, hd1, ι1, hs1, hfr1⟩ := hp
      exact ih ι1 w1 a1 Q (fun e2 a2 w2 hp2 => hQ _ _ _ (hp2.trans h hs1)) hs1.rel hfr1 hd1
    · rename_i r hne
      refine ⟨fun hx => hne fr' σ' (by rw [e, hx]), fun ι w a Q hQ h hfr hd => ?_⟩
      rw [rounds_succ]
      refine wp_mono (hself c hck fr σ _ _ _ e ι w a h hfr hd) fun e1 a1 w1 hp => ?_
      obtain ⟨rfl, hd1, ι1, hs1, hfr1⟩ := hp
      cases ex with
      | normal => exact (hne fr' σ' e).elim
      | exit id => exact hQ _ _ _ ⟨rfl, hd1, ι1, hs1, hfr1⟩
      | ret => exact hQ _ _ _ ⟨rfl, hd1, ι1, hs1, hfr1⟩

end Go.Ai

/- Regions whose order is open: the interpreter is sound. -/
namespace Go.Ai
open Go.RowKit
variable {P : Program} {w0 : World} {σ : AW} {ι : Inj} {w : World} {self : Self} {sums : Sums} {ops : Array Oper}

/-- Sets of operations that hold, with one, all that stand ahead of it. -/
def Down (ops : Array Oper) (S : Nat → Prop) : Prop := ∀ (i : Nat) (o : Oper), ops[i]? = some o → S i → ∀ e ∈ o.after.toList, Region.binds .any e = true → S e.on

theorem maskOf_spec {ms : List Nat} : ∀ (l : List Edge) (i : Nat), (maskOf ms l).testBit i = true → ∃ e ∈ l, Region.binds .any e = true ∧ (i = e.on ∨ (ms.getD e.on 0).testBit i = true)
  | [], i, h => by simp [maskOf] at h
  | e :: r, i, h => by
    simp only [maskOf] at h
    split at h
    · rename_i hb
      rw [Nat.testBit_or, Nat.testBit_or, Bool.or_eq_true, Bool.or_eq_true, Nat.testBit_two_pow] at h
      rcases h with (h | h) | h
      · exact ⟨e, by simp, hb, .inl (by simpa using (of_decide_eq_true h).symm)⟩
      · exact ⟨e, by simp, hb, .inr h⟩
      · obtain ⟨e', he', hb', hh⟩ := maskOf_spec r i h
        exact ⟨e', by simp [he'], hb', hh⟩
    · obtain ⟨e', he', hb', hh⟩ := maskOf_spec r i h
      exact ⟨e', by simp [he'], hb', hh⟩

theorem getD_append_lt {α : Type} {l : List α} {x d : α} {i : Nat} (h : i < l.length) : (l ++ [x]).getD i d = l.getD i d := by
  rw [List.getD_eq_getElem?_getD, List.getD_eq_getElem?_getD, List.getElem?_append_left h]
theorem getD_append_at {α : Type} {l : List α} {x d : α} : (l ++ [x]).getD l.length d = x := by
  rw [List.getD_eq_getElem?_getD]; simp

theorem masks_spec {S : Nat → Prop} (hS : Down ops S) : ∀ (l : List Oper) (ms : List Nat), (∀ k, l[k]? = ops[ms.length + k]?) →
    (∀ j i, (ms.getD j 0).testBit i = true → S j → S i) → ∀ j i, ((masks l ms).getD j 0).testBit i = true → S j → S i
  | [], ms, _, h, j, i, hb, hj => h j i hb hj
  | o :: r, ms, hl, h, j, i, hb, hj => by
    refine masks_spec hS r (ms ++ [maskOf ms o.after.toList]) (fun k => ?_) (fun j i hb hj => ?_) j i hb hj
    · have := hl (k + 1)
      simp only [List.getElem?_cons_succ] at this
      rw [this]; congr 1; simp; omega
    · by_cases hlt : j < ms.length
      · rw [getD_append_lt hlt] at hb; exact h j i hb hj
      · by_cases he : j = ms.length
        · subst he
          rw [getD_append_at] at hb
          obtain ⟨e, he, hbd, hh⟩ := maskOf_spec _ _ hb
          have ho : ops[ms.length]? = some o := by have := hl 0; simpa using this.symm
          have hSe := hS _ _ ho hj e he hbd
          rcases hh with rfl | hh
          · exact hSe
          · exact h _ _ hh hSe
        · rw [List.getD_eq_getElem?_getD, List.getElem?_eq_none (by simp; omega)] at hb
          simp at hb

theorem mask_spec {S : Nat → Prop} (hS : Down ops S) (j i : Nat) (hb : ((masks ops.toList []).getD j 0).testBit i = true) (hj : S j) : S i :=
  masks_spec hS ops.toList [] (by simp) (by simp) j i hb hj

/-- The frame behind the first so many operations. -/
def frameAt (ops : Array Oper) (fr : List Value) (vs : List Value) : Nat → List Value
  | 0 => fr
  | j + 1 => putT (frameAt ops fr vs j) ((ops[j]?).bind (·.dst)) (vs.getD j undef)
theorem frameAt_append {fr vs : List Value} {v : Value} : ∀ j, j ≤ vs.length → frameAt ops fr (vs ++ [v]) j = frameAt ops fr vs j
  | 0, _ => rfl
  | j + 1, h => by simp only [frameAt]; rw [frameAt_append j (by omega), getD_append_lt (by omega)]

theorem depOf_append {lv : List Nat} {x : Nat} : ∀ (l : List Edge), (∀ e ∈ l, Region.binds .any e = true → e.on < lv.length) → depOf (lv ++ [x]) l = depOf lv l
  | [], _ => rfl
  | e :: r, h => by
    simp only [depOf]
    rw [depOf_append r fun e' he' => h e' (by simp [he'])]
    split
    · rename_i hb; rw [getD_append_lt (h e (by simp) hb)]
    · rfl
theorem depOf_spec {lv : List Nat} : ∀ (l : List Edge), (∀ e ∈ l, Region.binds .any e = true → lv.getD e.on 0 ≤ depOf lv l) ∧ (depOf lv l = 0 ∨ ∃ e ∈ l, Region.binds .any e = true ∧ lv.getD e.on 0 = depOf lv l)
  | [] => ⟨by simp, .inl rfl⟩
  | e :: r => by
    obtain ⟨h1, h2⟩ := depOf_spec (lv := lv) r
    simp only [depOf]
    split
    · rename_i hb
      refine ⟨fun e' he' hb' => ?_, ?_⟩
      · rcases List.mem_cons.1 he' with rfl | he'
        · exact Nat.le_max_left _ _
        · exact Nat.le_trans (h1 e' he' hb') (Nat.le_max_right _ _)
      · rcases Nat.le_total (lv.getD e.on 0) (depOf lv r) with h | h
        · rw [Nat.max_eq_right h]
          rcases h2 with h2 | ⟨e', he', hb', hh⟩
          · exact .inl h2
          · exact .inr ⟨e', by simp [he'], hb', hh⟩
        · rw [Nat.max_eq_left h]
          exact .inr ⟨e, by simp, hb, rfl⟩
    · rename_i hb
      refine ⟨fun e' he' hb' => ?_, ?_⟩
      · rcases List.mem_cons.1 he' with rfl | he'
        · rw [hb'] at hb; cases hb
        · exact h1 e' he' hb'
      · rcases h2 with h2 | ⟨e', he', hb', hh⟩
        · exact .inl h2
        · exact .inr ⟨e', by simp [he'], hb', hh⟩

/-- What is known of operation j. -/
inductive OKop (P : Program) (sums : Sums) (self : Self) (ops : Array Oper) (fr : List Value) (s : DS) (j : Nat) (o : Oper) : Prop
  | skip (hw : Region.wanted o (yieldedL ops (frameAt ops fr s.vs j)) = false) (hv : s.vs.getD j undef = undef) (hl : s.lv.getD j 0 = depOf s.lv o.after.toList)
  | pure (hw : Region.wanted o (yieldedL ops (frameAt ops fr s.vs j)) = true) (hp : pureOp o.op = true) (he : aOper P sums self o (frameAt ops fr s.vs j) bot = some (s.vs.getD j undef, none)) (hl : s.lv.getD j 0 = depOf s.lv o.after.toList)
  | read (σb : AW) (hw : Region.wanted o (yieldedL ops (frameAt ops fr s.vs j)) = true) (hb : s.hist[depOf s.lv o.after.toList]? = some σb) (hn : σb.next ≤ INF)
      (he : aOper P sums self o (frameAt ops fr s.vs j) { σb with mw := INF } = some (s.vs.getD j undef, none)) (hl : s.lv.getD j 0 = depOf s.lv o.after.toList) (hr : j ∈ s.reads)
  | chain (l : Nat) (hc : s.cs[l]? = some j)

/-- What is known of step l of the chain. -/
def OKch (P : Program) (sums : Sums) (self : Self) (ops : Array Oper) (fr : List Value) (s : DS) (l j : Nat) : Prop :=
  ∃ o σb σ', ops[j]? = some o ∧ Region.wanted o (yieldedL ops (frameAt ops fr s.vs j)) = true ∧ s.hist[l]? = some σb ∧ s.hist[l + 1]? = some σ' ∧
    aOper P sums self o (frameAt ops fr s.vs j) { σb with mw := INF } = some (s.vs.getD j undef, some σ') ∧ depOf s.lv o.after.toList = l ∧ s.lv.getD j 0 = l + 1 ∧ s.mw ≤ σ'.mw ∧
    (σb.next ≤ σ'.mw ∨ (l + 1 ≤ s.wl ∧ ∀ r ∈ s.reads, (∃ o', ops[r]? = some o' ∧ l + 1 ≤ depOf s.lv o'.after.toList) ∨ ((masks ops.toList []).getD j 0).testBit r = true))

structure Built (P : Program) (sums : Sums) (slf : Self) (ops : Array Oper) (fr : List Value) (σ : AW) (s : DS) : Prop where
  vs : s.vs.length = s.lv.length
  hist : s.hist.length = s.cs.length + 1
  h0 : s.hist[0]? = some σ
  mw : s.mw ≤ σ.mw
  frm : s.fr = frameAt ops fr s.vs s.lv.length
  op : ∀ j o, j < s.lv.length → ops[j]? = some o → OKop P sums slf ops fr s j o
  ch : ∀ l j, s.cs[l]? = some j → j < s.lv.length ∧ OKch P sums slf ops fr s l j

/-- More has been done. -/
structure Ext (s s' : DS) : Prop where
  vs : ∃ v, s'.vs = s.vs ++ [v]
  lv : ∃ x, s'.lv = s.lv ++ [x]
  cs : ∀ (l j : Nat), s.cs[l]? = some j → s'.cs[l]? = some j
  hist : ∀ (l : Nat) (x : AW), s.hist[l]? = some x → s'.hist[l]? = some x
  reads : ∀ r, r ∈ s.reads → r ∈ s'.reads
  mw : s'.mw ≤ s.mw
  wl : s.wl ≤ s'.wl

theorem OKop.ext {fr : List Value} {s s' : DS} {j : Nat} {o : Oper} (x : Ext s s') (hvl : s.vs.length = s.lv.length) (hj : j < s.lv.length) (he : ∀ e ∈ o.after.toList, Region.binds .any e = true → e.on < s.lv.length) (h : OKop P sums self ops fr s j o) :
    OKop P sums self ops fr s' j o := by
  obtain ⟨v, hv⟩ := x.vs
  obtain ⟨y, hy⟩ := x.lv
  have f1 : frameAt ops fr s'.vs j = frameAt ops fr s.vs j := by rw [hv]; exact frameAt_append j (by omega)
  have f2 : s'.vs.getD j undef = s.vs.getD j undef := by rw [hv]; exact getD_append_lt (by omega)
  have f3 : s'.lv.getD j 0 = s.lv.getD j 0 := by rw [hy]; exact getD_append_lt hj
  have f4 : depOf s'.lv o.after.toList = depOf s.lv o.after.toList := by rw [hy]; exact depOf_append _ he
  cases h with
  | skip hw hv hl => exact .skip (by rw [f1]; exact hw) (by rw [f2]; exact hv) (by rw [f3, f4]; exact hl)
  | pure hw hp he hl => exact .pure (by rw [f1]; exact hw) hp (by rw [f1, f2]; exact he) (by rw [f3, f4]; exact hl)
  | read σb hw hb hn he hl hr => exact .read σb (by rw [f1]; exact hw) (by rw [f4]; exact x.hist _ _ hb) hn (by rw [f1, f2]; exact he) (by rw [f3, f4]; exact hl) (x.reads _ hr)
  | chain l hc => exact .chain l (x.cs _ _ hc)

theorem OKch.ext {fr : List Value} {s s' : DS} {l j : Nat} (x : Ext s s') (hvl : s.vs.length = s.lv.length) (hj : j < s.lv.length) (hE : ∀ (i : Nat) (o : Oper), ops[i]? = some o → ∀ e ∈ o.after.toList, Region.binds .any e = true → e.on < i)
    (hrl : ∀ r ∈ s.reads, r < s.lv.length) (hnew : ∀ r ∈ s'.reads, r ∈ s.reads ∨ ∃ o', ops[r]? = some o' ∧ s.wl ≤ depOf s'.lv o'.after.toList) (h : OKch P sums self ops fr s l j) : OKch P sums self ops fr s' l j := by
  obtain ⟨v, hv⟩ := x.vs
  obtain ⟨y, hy⟩ := x.lv
  obtain ⟨o, σb, σ', ho, hw, hb, hb', he, hd, hl, hm, hc⟩ := h
  have f1 : frameAt ops fr s'.vs j = frameAt ops fr s.vs j := by rw [hv]; exact frameAt_append j (by omega)
  have f2 : s'.vs.getD j undef = s.vs.getD j undef := by rw [hv]; exact getD_append_lt (by omega)
  have f3 : s'.lv.getD j 0 = s.lv.getD j 0 := by rw [hy]; exact getD_append_lt hj
  have f4 : ∀ (i : Nat) (o : Oper), i < s.lv.length → ops[i]? = some o → depOf s'.lv o.after.toList = depOf s.lv o.after.toList := fun i o hi ho => by
    rw [hy]; exact depOf_append _ fun e he hb => Nat.lt_trans (hE i o ho e he hb) hi
  refine ⟨o, σb, σ', ho, by rw [f1]; exact hw, x.hist _ _ hb, x.hist _ _ hb', by rw [f1, f2]; exact he, by rw [f4 j o hj ho]; exact hd, by rw [f3]; exact hl, Nat.le_trans x.mw hm, ?_⟩
  rcases hc with hc | ⟨hc1, hc2⟩
  · exact .inl hc
  · refine .inr ⟨Nat.le_trans hc1 x.wl, fun r hr => ?_⟩
    rcases hnew r hr with hr | ⟨o', ho', hd'⟩
    · rcases hc2 r hr with ⟨o', ho', hd'⟩ | hb
      · exact .inl ⟨o', ho', by rw [f4 r o' (hrl r hr) ho']; exact hd'⟩
      · exact .inr hb
    · exact .inl ⟨o', ho', Nat.le_trans hc1 hd'⟩

theorem build {fr : List Value} {σ : AW} (hE : ∀ (i : Nat) (o : Oper), ops[i]? = some o → ∀ e ∈ o.after.toList, Region.binds .any e = true → e.on < i) :
    ∀ (l : List Oper) (s s' : DS), (∀ k, l[k]? = ops[s.lv.length + k]?) → Built P sums self ops fr σ s → (∀ r ∈ s.reads, r < s.lv.length) → aDrawGo P sums self ops l s = some s' → Built P sums self ops fr σ s' ∧ s'.lv.length = s.lv.length + l.length
  | [], s, s', _, hb, _, e => by simp only [aDrawGo] at e; cases e; exact ⟨hb, by simp⟩
  | o :: rest, s, s', hl, hb, hrl, e => by
    have ho : ops[s.lv.length]? = some o := by have := hl 0; simpa using this.symm
    have hrest : ∀ k, rest[k]? = ops[s.lv.length + 1 + k]? := fun k => by
      have := hl (k + 1); simp only [List.getElem?_cons_succ] at this; rw [this]; congr 1; omega
    have hEo := hE _ _ ho
    -- what is common to all steps
    have common : ∀ (s1 : DS) (v : Value) (x : Nat), aDrawGo P sums self ops rest s1 = some s' → Ext s s1 → s1.vs = s.vs ++ [v] → s1.lv = s.lv ++ [x] → s1.hist.length = s1.cs.length + 1 → s1.fr = putT s.fr o.dst v → OKop P sums self ops fr s1 s.lv.length o →
        (∀ l j, s1.cs[l]? = some j → s.cs[l]? = some j ∨ (j = s.lv.length ∧ OKch P sums self ops fr s1 l j)) → (∀ r ∈ s1.reads, r ∈ s.reads ∨ (r = s.lv.length ∧ s.wl ≤ depOf s1.lv o.after.toList)) →
        Built P sums self ops fr σ s' ∧ s'.lv.length = s.lv.length + (o :: rest).length := by
      intro s1 v x e1 hx hv1 hl1 hh1 hf1 hop1 hcs1 hr1
      have hlen : s1.lv.length = s.lv.length + 1 := by rw [hl1]; simp
      have hB : Built P sums self ops fr σ s1 := {
        vs := by rw [hv1, hl1]; simp [hb.vs]
        hist := hh1
        h0 := hx.hist _ _ hb.h0
        mw := Nat.le_trans hx.mw hb.mw
        frm := by
          rw [hf1, hlen]
          simp only [frameAt]
          rw [ho, hv1, frameAt_append _ (by rw [hb.vs]; exact Nat.le_refl _), ← hb.frm]
          have : (s.vs ++ [v]).getD s.lv.length undef = v := by rw [← hb.vs]; exact getD_append_at
          rw [this]; rfl
        op := fun j oj hj hoj => by
          by_cases hjl : j < s.lv.length
          · exact OKop.ext hx hb.vs hjl (fun e he hbd => Nat.lt_trans (hE j oj hoj e he hbd) hjl) (hb.op j oj hjl hoj)
          · have : j = s.lv.length := by omega
            subst this
            rw [ho] at hoj; cases hoj
            exact hop1
        ch := fun l j hc => by
          rcases hcs1 l j hc with hc | ⟨rfl, hc⟩
          · obtain ⟨hj, hok⟩ := hb.ch l j hc
            exact ⟨by omega, OKch.ext hx hb.vs hj hE hrl (fun r hr => (hr1 r hr).imp id fun ⟨h1, h2⟩ => ⟨o, by rw [h1]; exact ho, h2⟩) hok⟩
          · exact ⟨by omega, hc⟩ }
      obtain ⟨h1, h2⟩ := build hE rest s1 s' (by rw [hlen]; exact hrest) hB (fun r hr => by
        rcases hr1 r hr with hr | ⟨rfl, _⟩
        · have := hrl r hr; omega
        · omega) e1
      exact ⟨h1, by rw [h2, hlen]; simp; omega⟩
    have hfr : s.fr = frameAt ops fr s.vs s.lv.length := hb.frm
    simp only [aDrawGo] at e
    split at e
    · rename_i hw
      refine common _ undef (depOf s.lv o.after.toList) e ⟨⟨undef, rfl⟩, ⟨_, rfl⟩, fun _ _ h => h, fun _ _ h => h, fun _ h => h, Nat.le_refl _, Nat.le_refl _⟩ rfl rfl hb.hist rfl ?_ (fun l j hc => .inl hc) (fun r hr => .inl hr)
      refine .skip ?_ ?_ ?_
      · show Region.wanted o (yieldedL ops (frameAt ops fr (s.vs ++ [undef]) s.lv.length)) = false
        rw [frameAt_append _ (by rw [hb.vs]; exact Nat.le_refl _), ← hfr]; exact hw
      · show (s.vs ++ [undef]).getD s.lv.length undef = undef
        rw [← hb.vs]; exact getD_append_at
      · show (s.lv ++ [_]).getD s.lv.length 0 = depOf (s.lv ++ [_]) o.after.toList
        rw [getD_append_at, depOf_append _ hEo]
    · rename_i hw
      split at e
      · rename_i hp
        split at e <;> try contradiction
        rename_i v hv
        refine common _ v (depOf s.lv o.after.toList) e ⟨⟨v, rfl⟩, ⟨_, rfl⟩, fun _ _ h => h, fun _ _ h => h, fun _ h => h, Nat.le_refl _, Nat.le_refl _⟩ rfl rfl hb.hist rfl ?_ (fun l j hc => .inl hc) (fun r hr => .inl hr)
        have g1 : (s.vs ++ [v]).getD s.lv.length undef = v := by rw [← hb.vs]; exact getD_append_at
        have g2 : frameAt ops fr (s.vs ++ [v]) s.lv.length = s.fr := by rw [frameAt_append _ (by rw [hb.vs]; exact Nat.le_refl _), ← hfr]
        refine .pure ?_ hp ?_ ?_
        · show Region.wanted o (yieldedL ops (frameAt ops fr (s.vs ++ [v]) s.lv.length)) = true
          rw [g2]; exact hw
        · show aOper P sums self o (frameAt ops fr (s.vs ++ [v]) s.lv.length) bot = some ((s.vs ++ [v]).getD s.lv.length undef, none)
          rw [g1, g2]; exact hv
        · show (s.lv ++ [_]).getD s.lv.length 0 = depOf (s.lv ++ [_]) o.after.toList
          rw [getD_append_at, depOf_append _ hEo]
      · split at e <;> try contradiction
        rename_i σb hwl hσb
        have hwl := ble_le hwl
        split at e <;> try contradiction
        rename_i hINF
        have hINF := ble_le hINF
        split at e <;> try contradiction
        · rename_i v hv
          refine common _ v (depOf s.lv o.after.toList) e ⟨⟨v, rfl⟩, ⟨_, rfl⟩, fun _ _ h => h, fun _ _ h => h, fun _ h => List.mem_cons_of_mem _ h, Nat.le_refl _, Nat.le_refl _⟩ rfl rfl hb.hist rfl ?_ (fun l j hc => .inl hc) (fun r hr => ?_)
          · have g1 : (s.vs ++ [v]).getD s.lv.length undef = v := by rw [← hb.vs]; exact getD_append_at
            have g2 : frameAt ops fr (s.vs ++ [v]) s.lv.length = s.fr := by rw [frameAt_append _ (by rw [hb.vs]; exact Nat.le_refl _), ← hfr]
            refine .read σb ?_ ?_ hINF ?_ ?_ ?_
            · show Region.wanted o (yieldedL ops (frameAt ops fr (s.vs ++ [v]) s.lv.length)) = true
              rw [g2]; exact hw
            · show s.hist[depOf (s.lv ++ [_]) o.after.toList]? = some σb
              rw [depOf_append _ hEo]; exact hσb
            · show aOper P sums self o (frameAt ops fr (s.vs ++ [v]) s.lv.length) _ = some ((s.vs ++ [v]).getD s.lv.length undef, none)
              rw [g1, g2]; exact hv
            · show (s.lv ++ [_]).getD s.lv.length 0 = depOf (s.lv ++ [_]) o.after.toList
              rw [getD_append_at, depOf_append _ hEo]
            · exact List.mem_cons_self ..
          · rcases List.mem_cons.1 hr with rfl | hr
            · refine .inr ⟨rfl, ?_⟩
              show s.wl ≤ depOf (s.lv ++ [_]) o.after.toList
              rw [depOf_append _ hEo]; exact hwl
            · exact .inl hr
        · rename_i v σ' hv
          split at e <;> try contradiction
          rename_i hcond
          simp only [Bool.and_eq_true, Bool.or_eq_true] at hcond
          have hdk := beq_eq hcond.1
          have hhl := hb.hist
          refine common _ v (depOf s.lv o.after.toList + 1) e ⟨⟨v, rfl⟩, ⟨_, rfl⟩, fun l j h => ?_, fun l j h => ?_, fun _ h => h, Nat.min_le_left _ _, ?_⟩ rfl rfl ?_ rfl ?_ (fun l j hc => ?_) (fun r hr => .inl hr)
          · show (s.cs ++ [s.lv.length])[l]? = some j
            rw [List.getElem?_append_left (by
              rcases Nat.lt_or_ge l s.cs.length with h' | h'
              · exact h'
              · rw [List.getElem?_eq_none h'] at h; cases h)]; exact h
          · show (s.hist ++ [σ'])[l]? = some j
            rw [List.getElem?_append_left (by
              rcases Nat.lt_or_ge l s.hist.length with h' | h'
              · exact h'
              · rw [List.getElem?_eq_none h'] at h; cases h)]; exact h
          · show s.wl ≤ (match Nat.ble σb.next σ'.mw with | true => s.wl | false => depOf s.lv o.after.toList + 1)
            split
            · exact Nat.le_refl _
            · exact Nat.le_succ_of_le hwl
          · show (s.hist ++ [σ']).length = (s.cs ++ [s.lv.length]).length + 1
            simp [hhl]
          · exact .chain s.cs.length (by show (s.cs ++ [s.lv.length])[s.cs.length]? = _; simp)
          · have hc : (s.cs ++ [s.lv.length])[l]? = some j := hc
            by_cases hlt : l < s.cs.length
            · rw [List.getElem?_append_left hlt] at hc; exact .inl hc
            · rw [List.getElem?_append_right (by omega)] at hc
              have hl0 : l = s.cs.length := by
                rcases Nat.lt_or_ge (l - s.cs.length) 1 with h' | h'
                · omega
                · rw [List.getElem?_eq_none (by simpa using h')] at hc; cases hc
              subst hl0
              simp at hc
              subst hc
              refine .inr ⟨rfl, ?_⟩
              have g1 : (s.vs ++ [v]).getD s.lv.length undef = v := by rw [← hb.vs]; exact getD_append_at
              have g2 : frameAt ops fr (s.vs ++ [v]) s.lv.length = s.fr := by rw [frameAt_append _ (by rw [hb.vs]; exact Nat.le_refl _), ← hfr]
              refine ⟨o, σb, σ', ho, ?_, ?_, ?_, ?_, ?_, ?_, Nat.min_le_right _ _, ?_⟩
              · show Region.wanted o (yieldedL ops (frameAt ops fr (s.vs ++ [v]) s.lv.length)) = true
                rw [g2]; exact hw
              · show (s.hist ++ [σ'])[s.cs.length]? = some σb
                rw [List.getElem?_append_left (by omega), ← hdk]; exact hσb
              · show (s.hist ++ [σ'])[s.cs.length + 1]? = some σ'
                rw [← hhl]; simp
              · show aOper P sums self o (frameAt ops fr (s.vs ++ [v]) s.lv.length) _ = some ((s.vs ++ [v]).getD s.lv.length undef, some σ')
                rw [g1, g2]; exact hv
              · show depOf (s.lv ++ [_]) o.after.toList = s.cs.length
                rw [depOf_append _ hEo]; exact hdk
              · show (s.lv ++ [_]).getD s.lv.length 0 = s.cs.length + 1
                rw [getD_append_at, hdk]
              · rcases hcond.2 with hcl | hrd
                · exact .inl (ble_le hcl)
                · by_cases hcl : Nat.ble σb.next σ'.mw = true
                  · exact .inl (ble_le hcl)
                  · refine .inr ⟨?_, fun r hr => .inr (List.all_eq_true.1 hrd r hr)⟩
                    show s.cs.length + 1 ≤ (match Nat.ble σb.next σ'.mw with | true => s.wl | false => depOf s.lv o.after.toList + 1)
                    simp only [Bool.not_eq_true] at hcl
                    rw [hcl]; simp only []; omega

end Go.Ai

/- Regions whose order is open: the true run in any order. -/
namespace Go.Ai
open Go.RowKit
variable {P : Program} {w0 : World} {σ : AW} {ι : Inj} {w : World} {self : Self} {sums : Sums} {ops : Array Oper}

def Inj.upto (ι : Inj) (n : Nat) : Inj := fun i => if i < n then ι i else none
theorem Inj.upto_le (ι : Inj) (n : Nat) : (ι.upto n).le ι := fun i p h => by
  unfold Inj.upto at h; split at h
  · exact h
  · cases h
theorem Inj.upto_mono (ι : Inj) {n m : Nat} (h : n ≤ m) : (ι.upto n).le (ι.upto m) := fun i p e => by
  unfold Inj.upto at *; split at e
  · rw [if_pos (by omega)]; exact e
  · cases e
theorem Inj.upto_all {ι : Inj} {n : Nat} (h : ∀ i p, ι i = some p → i < n) : ι.upto n = ι := by
  funext i
  unfold Inj.upto
  split
  · rfl
  · rename_i hn
    cases e : ι i with
    | none => rfl
    | some p => exact absurd (h i p e) hn
theorem Inj.upto_same {ι ι' : Inj} {n m : Nat} (h : ∀ i, i < m → ι' i = ι i) (hn : n ≤ m) : ι'.upto n = ι.upto n := by
  funext i
  unfold Inj.upto
  split
  · exact h i (by omega)
  · rfl

theorem Step.weaken {m1 m2 m : Nat} {σ' : AW} {ι' : Inj} {w' : World} (h : Step P w0 { σ with mw := m1 } ι w σ' ι' w') (hm : m ≤ σ'.mw) (h2 : m ≤ m2) : Step P w0 { σ with mw := m2 } ι w { σ' with mw := m } ι' w' where
  rel := h.rel.withMw _
  le := h.le
  same := h.same
  next := h.next
  mw := h2
  size := h.size
  keep := fun b hb H => h.keep b hb fun i blk p a r c d => Nat.lt_of_lt_of_le (H i blk p a r c d) hm
  fresh := fun i blk p a r c => by
    rcases h.fresh i blk p a r c with x | ⟨hi, hn | ⟨j, bj, q, aj, rj, cj, dj, mj⟩⟩
    · exact .inl x
    · exact .inr ⟨hi, .inl hn⟩
    · exact .inr ⟨hi, .inr ⟨j, bj, q, aj, rj, cj, dj, Nat.le_trans hm mj⟩⟩
  unch := fun i hi hlt => h.unch i hi (Nat.lt_of_lt_of_le hlt hm)

def dstAt (ops : Array Oper) (j : Nat) : Option Tmp := (ops[j]?).bind (·.dst)

/-- What a frame holds: what the last one wrote that writes there. -/
theorem frame_get {fr vs : List Value} : ∀ (i t : Nat), t < fr.length →
    (∃ j, j < i ∧ dstAt ops j = some t ∧ (∀ j', j < j' → j' < i → dstAt ops j' ≠ some t) ∧ (frameAt ops fr vs i)[t]? = some (vs.getD j undef)) ∨
    ((∀ j, j < i → dstAt ops j ≠ some t) ∧ (frameAt ops fr vs i)[t]? = fr[t]?)
  | 0, t, _ => .inr ⟨fun j h => by omega, rfl⟩
  | i + 1, t, ht => by
    have hlen : ∀ i, (frameAt ops fr vs i).length = fr.length := by
      intro i
      induction i with
      | zero => rfl
      | succ i ih =>
        simp only [frameAt]
        unfold putT
        split
        · simpa using ih
        · exact ih
    by_cases hd : dstAt ops i = some t
    · refine .inl ⟨i, by omega, hd, fun j' h1 h2 => by omega, ?_⟩
      simp only [frameAt]
      have : ((ops[i]?).bind (·.dst)) = some t := hd
      rw [this]
      simp only [putT]
      rw [List.getElem?_set_self (by rw [hlen]; exact ht)]
    · have hfr : (frameAt ops fr vs (i + 1))[t]? = (frameAt ops fr vs i)[t]? := by
        simp only [frameAt]
        unfold putT
        split
        · rename_i t' he
          have : t' ≠ t := fun h => hd (by rw [← h]; exact he)
          rw [List.getElem?_set_ne this]
        · rfl
      rcases frame_get i t ht with ⟨j, h1, h2, h3, h4⟩ | ⟨h1, h2⟩
      · refine .inl ⟨j, by omega, h2, fun j' a b => ?_, by rw [hfr]; exact h4⟩
        by_cases e : j' = i
        · rw [e]; exact hd
        · exact h3 j' a (by omega)
      · refine .inr ⟨fun j a => ?_, by rw [hfr]; exact h2⟩
        by_cases e : j = i
        · rw [e]; exact hd
        · exact h1 j (by omega)

theorem frame_length {fr vs : List Value} (i : Nat) : (frameAt ops fr vs i).length = fr.length := by
  induction i with
  | zero => rfl
  | succ i ih =>
    simp only [frameAt]
    unfold putT
    split
    · simpa using ih
    · exact ih

def NextAt (s : DS) (l n : Nat) : Prop := ∃ σl, s.hist[l]? = some σl ∧ σl.next = n

/-- What a temporary holds, when the operations of S are done. -/
def TRel (ops : Array Oper) (fr : List Value) (σ : AW) (s : DS) (S : Nat → Prop) (ι : Inj) (t : Nat) (x' : Value) : Prop :=
  (∃ j, S j ∧ dstAt ops j = some t ∧ (∀ j', S j' → dstAt ops j' = some t → j' ≤ j) ∧ ∃ n, NextAt s (s.lv.getD j 0) n ∧ VRel (ι.upto n) (s.vs.getD j undef) x') ∨
  ((∀ j, S j → dstAt ops j ≠ some t) ∧ ∃ x, fr[t]? = some x ∧ VRel (ι.upto σ.next) x x')

def Clean (s : DS) (m : Nat) : Prop := ∀ σb σ', s.hist[m]? = some σb → s.hist[m + 1]? = some σ' → σb.next ≤ σ'.mw

structure DInv (P : Program) (w0 : World) (ops : Array Oper) (fr : List Value) (σ : AW) (ι0 : Inj) (ws : World) (s : DS) (S : Nat → Prop) (a : Act) (w : World) (k : Nat) (ι : Inj) : Prop where
  down : Down ops S
  bound : ∀ i, S i → i < ops.size
  defers : a.defers = []
  cs : ∀ l j, s.cs[l]? = some j → (S j ↔ l < k)
  step : ∃ σk, s.hist[k]? = some σk ∧ Step P w0 σ ι0 ws { σk with mw := s.mw } ι w
  rels : ∀ l σl, l ≤ k → s.hist[l]? = some σl → (∀ m, l ≤ m → m < k → Clean s m) → Rel P w0 σl (ι.upto σl.next) w
  nexts : ∀ l l' n n', l ≤ l' → l' ≤ k → NextAt s l n → NextAt s l' n' → n ≤ n'
  size : a.tmps.toList.length = fr.length
  tr : ∀ t x', a.tmps.toList[t]? = some x' → TRel ops fr σ s S ι t x'

/-- What is known of the region as it was built. -/
structure Plan (P : Program) (sums : Sums) (slf : Self) (ops : Array Oper) (fr : List Value) (σ : AW) (s : DS) : Prop where
  built : Built P sums slf ops fr σ s
  len : s.lv.length = ops.size
  back : ∀ (i : Nat) (o : Oper), ops[i]? = some o → ∀ e ∈ o.after.toList, Region.binds .any e = true → e.on < i
  clash : ∀ (i j : Nat) (x y : Oper), i < j → ops[i]? = some x → ops[j]? = some y → clash ops x y = true → ((masks ops.toList []).getD j 0).testBit i = true

section
variable {fr : List Value} {s : DS}

theorem Plan.lvdep (B : Plan P sums self ops fr σ s) {j : Nat} {o : Oper} (ho : ops[j]? = some o) : depOf s.lv o.after.toList ≤ s.lv.getD j 0 := by
  have hj : j < s.lv.length := by
    rw [B.len]
    obtain ⟨h, _⟩ := Array.getElem?_eq_some_iff.1 ho; exact h
  cases B.built.op j o hj ho with
  | skip _ _ hl => omega
  | pure _ _ _ hl => omega
  | read _ _ _ _ _ hl _ => omega
  | chain l hc =>
    obtain ⟨_, o', _, _, ho', _, _, _, _, hd, hl, _⟩ := B.built.ch l j hc
    rw [ho] at ho'; cases ho'
    omega

/-- What stands ahead of an operation has no higher level than it builds upon. -/
theorem Plan.ahead (B : Plan P sums self ops fr σ s) {i j : Nat} {o : Oper} (ho : ops[i]? = some o) (hb : ((masks ops.toList []).getD i 0).testBit j = true) (hji : j ≠ i) : s.lv.getD j 0 ≤ depOf s.lv o.after.toList := by
  have hD : Down ops (fun m => m = i ∨ s.lv.getD m 0 ≤ depOf s.lv o.after.toList) := by
    intro m om hom hm e he hbd
    rcases hm with rfl | hm
    · rw [ho] at hom; cases hom
      exact .inr ((depOf_spec (lv := s.lv) _).1 e he hbd)
    · exact .inr (Nat.le_trans ((depOf_spec (lv := s.lv) om.after.toList).1 e he hbd) (Nat.le_trans (B.lvdep hom) hm))
  rcases mask_spec hD i j hb (.inl rfl) with h | h
  · exact (hji h).elim
  · exact h

/-- A set that holds an operation of some level holds the steps of the chain up to it. -/
theorem Plan.reach (B : Plan P sums self ops fr σ s) {S : Nat → Prop} (hS : Down ops S) (hb : ∀ i, S i → i < ops.size) : ∀ (j m : Nat), S j → s.lv.getD j 0 = m + 1 → ∃ c, s.cs[m]? = some c ∧ S c := by
  intro j
  induction j using Nat.strongRecOn with
  | _ j ih =>
    intro m hj hl
    have hjs := hb j hj
    have ho : ops[j]? = some ops[j] := by simp
    have hj' : j < s.lv.length := by rw [B.len]; exact hjs
    have viaDep : depOf s.lv ops[j].after.toList = m + 1 → ∃ c, s.cs[m]? = some c ∧ S c := by
      intro hd
      rcases (depOf_spec (lv := s.lv) ops[j].after.toList).2 with h0 | ⟨e, he, hbd, hh⟩
      · omega
      · exact ih e.on (B.back j _ ho e he hbd) m (hS j _ ho hj e he hbd) (by rw [hh, hd])
    cases B.built.op j _ hj' ho with
    | skip _ _ hl' => exact viaDep (by omega)
    | pure _ _ _ hl' => exact viaDep (by omega)
    | read _ _ _ _ _ hl' _ => exact viaDep (by omega)
    | chain l hc =>
      obtain ⟨_, o', _, _, ho', _, _, _, _, hd, hl', _⟩ := B.built.ch l j hc
      have : l = m := by omega
      subst this
      exact ⟨j, hc, hj⟩

/-- The level that an operation builds upon has been reached, when all ahead of it is done. -/
theorem Plan.depLe (B : Plan P sums self ops fr σ s) {ι0 : Inj} {ws : World} {S : Nat → Prop} {a : Act} {k : Nat} (I : DInv P w0 ops fr σ ι0 ws s S a w k ι) {i : Nat} {o : Oper} (hr : ∀ e ∈ o.after.toList, Region.binds .any e = true → S e.on) : depOf s.lv o.after.toList ≤ k := by
  rcases (depOf_spec (lv := s.lv) o.after.toList).2 with h0 | ⟨e, he, hbd, hh⟩
  · omega
  · match hd : depOf s.lv o.after.toList with
    | 0 => omega
    | m + 1 =>
      obtain ⟨c, hc, hS⟩ := B.reach I.down I.bound e.on m (hr e he hbd) (by rw [hh, hd])
      have := (I.cs m c hc).1 hS
      omega

/-- The frame of the text, at an operation whose turn it is, and the true one. -/
theorem Plan.operand (B : Plan P sums self ops fr σ s) {ι0 : Inj} {ws : World} {S : Nat → Prop} {a : Act} {k : Nat} (I : DInv P w0 ops fr σ ι0 ws s S a w k ι) {i : Nat} {o : Oper} (ho : ops[i]? = some o) (hi : ¬ S i) (hr : ∀ e ∈ o.after.toList, Region.binds .any e = true → S e.on)
    {t : Nat} (ht : t ∈ nm ops o) {n : Nat} (hn : NextAt s (depOf s.lv o.after.toList) n) : ∀ x', a.tmps.toList[t]? = some x' → ∃ x, (frameAt ops fr s.vs i)[t]? = some x ∧ VRel (ι.upto n) x x' := by
  intro x' hx'
  have hS' : Down ops (fun m => m = i ∨ S m) := by
    intro m om hom hm e he hbd
    rcases hm with rfl | hm
    · rw [ho] at hom; cases hom; exact .inr (hr e he hbd)
    · exact .inr (I.down m om hom hm e he hbd)
  have early : ∀ j, j < i → dstAt ops j = some t → S j ∧ s.lv.getD j 0 ≤ depOf s.lv o.after.toList := by
    intro j hj hd
    unfold dstAt at hd
    cases hoj : ops[j]? with
    | none => rw [hoj] at hd; cases hd
    | some oj =>
      rw [hoj] at hd
      simp only [Option.bind_some] at hd
      have hcl : Ai.clash ops oj o = true := by unfold Ai.clash; rw [hd]; simp [ht]
      have hb := B.clash j i oj o hj hoj ho hcl
      refine ⟨?_, B.ahead ho hb (by omega)⟩
      rcases mask_spec hS' i j hb (.inl rfl) with h | h
      · omega
      · exact h
  have late : ∀ j, S j → dstAt ops j = some t → j < i := by
    intro j hj hd
    rcases Nat.lt_trichotomy j i with h | h | h
    · exact h
    · subst h; exact (hi hj).elim
    · unfold dstAt at hd
      cases hoj : ops[j]? with
      | none => rw [hoj] at hd; cases hd
      | some oj =>
        rw [hoj] at hd
        simp only [Option.bind_some] at hd
        have hcl : Ai.clash ops o oj = true := by unfold Ai.clash; rw [hd]; simp [ht]
        exact (hi (mask_spec I.down j i (B.clash i j o oj h ho hoj hcl) hj)).elim
  have hdk := B.depLe I (i := i) hr
  have htl : t < fr.length := by
    rw [← I.size]
    rcases Nat.lt_or_ge t a.tmps.toList.length with h | h
    · exact h
    · rw [List.getElem?_eq_none h] at hx'; cases hx'
  rcases I.tr t x' hx' with ⟨j, hj, hd, hmax, n', hn', hv⟩ | ⟨hno, x, hx, hv⟩
  · rcases frame_get (vs := s.vs) (ops := ops) i t htl with ⟨j2, h1, h2, h3, h4⟩ | ⟨h1, h2⟩
    · have hji := late j hj hd
      have e1 := hmax j2 (early j2 h1 h2).1 h2
      have : j = j2 := by
        rcases Nat.lt_or_ge j2 j with h | h
        · exact (h3 j h hji hd).elim
        · omega
      subst this
      refine ⟨_, h4, hv.mono (Inj.upto_mono ι ?_)⟩
      exact I.nexts _ _ _ _ (early j h1 h2).2 hdk hn' hn
    · exact (h1 j (late j hj hd) hd).elim
  · rcases frame_get (vs := s.vs) (ops := ops) i t htl with ⟨j2, h1, h2, h3, h4⟩ | ⟨h1, h2⟩
    · exact (hno j2 (early j2 h1 h2).1 h2).elim
    · refine ⟨x, by rw [h2]; exact hx, hv.mono (Inj.upto_mono ι ?_)⟩
      exact I.nexts 0 _ σ.next n (Nat.zero_le _) hdk ⟨σ, B.built.h0, rfl⟩ hn

end

end Go.Ai

/- Regions whose order is open: the interpreter is sound. -/
namespace Go.Ai
open Go.RowKit
variable {P : Program} {w0 : World} {σ : AW} {ι : Inj} {w : World} {self : Self} {sums : Sums} {ops : Array Oper}

theorem pure_any {o : Oper} (hp : pureOp o.op = true) (fr : List Value) (σ τ : AW) : aOper P sums self o fr σ = aOper P sums self o fr τ := by
  obtain ⟨dst, op, type, pos, after, guard⟩ := o
  cases op <;> first | rfl | (simp [pureOp] at hp; done)

section
variable {fr : List Value} {s : DS}

theorem Plan.xrel (B : Plan P sums self ops fr σ s) {ι0 : Inj} {ws : World} {S : Nat → Prop} {a : Act} {k : Nat} (h0 : Rel P w0 σ ι0 ws) (I : DInv P w0 ops fr σ ι0 ws s S a w k ι) {i : Nat} {o : Oper} (ho : ops[i]? = some o) (hi : ¬ S i) (hr : ∀ e ∈ o.after.toList, Region.binds .any e = true → S e.on)
    {n : Nat} (hn : NextAt s (depOf s.lv o.after.toList) n) (hok : ∀ x ∈ o.op.operands.toList, evOk P x = true) : XRel (ι.upto n) (frameAt ops fr s.vs i) a o := by
  intro x hx
  have hk := hok x hx
  have hdk := B.depLe I (i := i) hr
  have hσn : σ.next ≤ n := I.nexts 0 _ σ.next n (Nat.zero_le _) hdk ⟨σ, B.built.h0, rfl⟩ hn
  cases x with
  | const v => exact gr_refl _ hk
  | func f => exact .func _ _ _ _ _ rfl rfl rfl (by simp) (by simp)
  | global g =>
    obtain ⟨σk, hσk, hst⟩ := I.step
    obtain ⟨p, hp, hb, hd⟩ := h0.glob g (ble_le hk)
    have hlt := h0.dom g p hp
    have hp' : (ι.upto n) g = some p := by
      unfold Inj.upto
      rw [if_pos (by omega)]
      exact hst.le _ _ hp
    have := VRel.ptr (ι := ι.upto n) g 0 p hp'
    rw [hb, hd] at this
    exact this
  | tmp t =>
    have ht : t ∈ nm ops o := by
      unfold nm
      exact List.mem_append_right _ (List.mem_append_left _ (List.mem_filterMap.2 ⟨.tmp t, hx, rfl⟩))
    rw [eval_getD]
    simp only [ev]
    rw [List.getD_eq_getElem?_getD, List.getD_eq_getElem?_getD]
    cases he : a.tmps.toList[t]? with
    | none =>
      have : (frameAt ops fr s.vs i)[t]? = none := by
        rw [List.getElem?_eq_none_iff] at *
        rw [frame_length, ← I.size]; exact he
      rw [this]; exact VRel.undef _
    | some x' =>
      obtain ⟨x, hx, hv⟩ := B.operand I ho hi hr ht hn x' he
      rw [hx]; exact hv

theorem Plan.wanted (B : Plan P sums self ops fr σ s) {ι0 : Inj} {ws : World} {S : Nat → Prop} {a : Act} {k : Nat} (I : DInv P w0 ops fr σ ι0 ws s S a w k ι) {i : Nat} {o : Oper} (ho : ops[i]? = some o) (hi : ¬ S i) (hr : ∀ e ∈ o.after.toList, Region.binds .any e = true → S e.on)
    {n : Nat} (hn : NextAt s (depOf s.lv o.after.toList) n) : Region.wanted o (yielded ops a.tmps) = Region.wanted o (yieldedL ops (frameAt ops fr s.vs i)) := by
  unfold Region.wanted
  cases hg : o.guard with
  | none => rfl
  | some gw =>
    obtain ⟨g, want⟩ := gw
    simp only
    congr 1
    unfold yielded yieldedL
    cases hd : (ops[g]?).bind (·.dst) with
    | none => simp
    | some t =>
      simp only [Option.bind_some]
      have ht : t ∈ nm ops o := by
        unfold nm
        refine List.mem_append_right _ (List.mem_append_right _ ?_)
        rw [hg]
        simp [hd]
      cases he : a.tmps.toList[t]? with
      | none =>
        have h1 : (frameAt ops fr s.vs i)[t]? = none := by
          rw [List.getElem?_eq_none_iff] at *
          rw [frame_length, ← I.size]; exact he
        rw [Array.getElem?_toList] at he
        rw [h1, he]
      | some x' =>
        obtain ⟨x, hx, hv⟩ := B.operand I ho hi hr ht hn x' he
        rw [Array.getElem?_toList] at he
        rw [hx, he]
        cases hv <;> rfl

/-- One more operation is done. -/
theorem Plan.next (B : Plan P sums self ops fr σ s) {ι0 : Inj} {ws : World} {S : Nat → Prop} {a : Act} {k k' : Nat} {ι' : Inj} {w' : World} {v' : Value} (I : DInv P w0 ops fr σ ι0 ws s S a w k ι) {i : Nat} {o : Oper} (ho : ops[i]? = some o) (hi : ¬ S i)
    (hr : ∀ e ∈ o.after.toList, Region.binds .any e = true → S e.on)
    (hcs : ∀ l j, s.cs[l]? = some j → ((S j ∨ j = i) ↔ l < k')) (hstep : ∃ σk, s.hist[k']? = some σk ∧ Step P w0 σ ι0 ws { σk with mw := s.mw } ι' w')
    (hrels : ∀ l σl, l ≤ k' → s.hist[l]? = some σl → (∀ m, l ≤ m → m < k' → Clean s m) → Rel P w0 σl (ι'.upto σl.next) w')
    (hnexts : ∀ l l' n n', l ≤ l' → l' ≤ k' → NextAt s l n → NextAt s l' n' → n ≤ n')
    (hsame : ∀ n, (∃ l, l ≤ k ∧ NextAt s l n) → ι'.upto n = ι.upto n) (hval : ∃ n, NextAt s (s.lv.getD i 0) n ∧ VRel (ι'.upto n) (s.vs.getD i undef) v') :
    DInv P w0 ops fr σ ι0 ws s (fun m => S m ∨ m = i) (a.put o.dst v') w' k' ι' where
  down := fun m om hom hm e he hbd => by
    rcases hm with hm | rfl
    · exact .inl (I.down m om hom hm e he hbd)
    · rw [ho] at hom; cases hom; exact .inl (hr e he hbd)
  bound := fun m hm => by
    rcases hm with hm | rfl
    · exact I.bound m hm
    · obtain ⟨h, _⟩ := Array.getElem?_eq_some_iff.1 ho; exact h
  defers := by rw [put_defers]; exact I.defers
  cs := hcs
  step := hstep
  rels := hrels
  nexts := hnexts
  size := by
    rw [← I.size]
    unfold Act.put
    split <;> simp
  tr := by
    intro t x' hx'
    have hdi : dstAt ops i = o.dst := by unfold dstAt; rw [ho]; rfl
    -- levels of what is done
    have lvk : ∀ j, S j → ∃ n, NextAt s (s.lv.getD j 0) n ∧ s.lv.getD j 0 ≤ k := by
      intro j hj
      match hl : s.lv.getD j 0 with
      | 0 => exact ⟨σ.next, ⟨σ, B.built.h0, rfl⟩, Nat.zero_le _⟩
      | m + 1 =>
        obtain ⟨c, hc, hSc⟩ := B.reach I.down I.bound j m hj hl
        have hmk := (I.cs m c hc).1 hSc
        obtain ⟨_, _, _, σ', _, _, _, hσ', _⟩ := B.built.ch m c hc
        exact ⟨σ'.next, ⟨σ', hσ', rfl⟩, hmk⟩
    by_cases hd : o.dst = some t
    · have hx : x' = v' := by
        rw [hd] at hx'
        simp only [Act.put, Array.toList_setIfInBounds] at hx'
        have ht : t < a.tmps.toList.length := by
          rcases Nat.lt_or_ge t a.tmps.toList.length with h | h
          · exact h
          · rw [List.getElem?_eq_none (by simpa using h)] at hx'; cases hx'
        rw [List.getElem?_set_self ht] at hx'
        exact (Option.some.inj hx').symm
      subst hx
      refine .inl ⟨i, .inr rfl, by rw [hdi]; exact hd, fun j' hj' hd' => ?_, hval⟩
      rcases hj' with hj' | rfl
      · rcases Nat.lt_or_ge i j' with h | h
        · exfalso
          unfold dstAt at hd'
          cases hoj : ops[j']? with
          | none => rw [hoj] at hd'; cases hd'
          | some oj =>
            rw [hoj] at hd'
            simp only [Option.bind_some] at hd'
            have hcl : Ai.clash ops o oj = true := by
              unfold Ai.clash; rw [hd]
              have : t ∈ nm ops oj := by unfold nm; rw [hd']; simp
              simp [this]
            exact hi (mask_spec I.down j' i (B.clash i j' o oj h ho hoj hcl) hj')
        · exact h
      · exact Nat.le_refl _
    · have hold : a.tmps.toList[t]? = some x' := by
        rw [← hx']
        cases hdo : o.dst with
        | none => rfl
        | some t' =>
          have hne : t' ≠ t := fun h => hd (by rw [← h]; exact hdo)
          simp only [Act.put, Array.toList_setIfInBounds]
          rw [List.getElem?_set_ne hne]
      rcases I.tr t x' hold with ⟨j, hj, hdj, hmax, n, hn, hv⟩ | ⟨hno, x, hx, hv⟩
      · refine .inl ⟨j, .inl hj, hdj, fun j' hj' hd' => ?_, n, hn, ?_⟩
        · rcases hj' with hj' | rfl
          · exact hmax j' hj' hd'
          · rw [hdi] at hd'; exact (hd hd').elim
        · obtain ⟨n2, hn2, hk2⟩ := lvk j hj
          rw [hsame n ⟨_, hk2, hn⟩]; exact hv
      · refine .inr ⟨fun j hj => ?_, x, hx, ?_⟩
        · rcases hj with hj | rfl
          · exact hno j hj
          · rw [hdi]; exact hd
        · rw [hsame σ.next ⟨0, Nat.zero_le _, σ, B.built.h0, rfl⟩]; exact hv

theorem Plan.one (B : Plan P sums self ops fr σ s) (hN : ProgOk P) (hself : SelfSound P w0 self) (hsums : SumsSound P w0 sums) {ι0 : Inj} {ws : World} {S : Nat → Prop} {a : Act} {k : Nat} (h0 : Rel P w0 σ ι0 ws) (I : DInv P w0 ops fr σ ι0 ws s S a w k ι) {i : Nat} {o : Oper} (ho : ops[i]? = some o) (hi : ¬ S i)
    (hr : ∀ e ∈ o.after.toList, Region.binds .any e = true → S e.on) {Q : Exit → Act → World → Prop} {K : Act → World → Prop}
    (hK : ∀ a' w' k' ι', DInv P w0 ops fr σ ι0 ws s (fun m => S m ∨ m = i) a' w' k' ι' → K a' w') : wpOp P ops Q i K a w := by
  have hdk := B.depLe I (i := i) hr
  have hil : i < s.lv.length := by
    rw [B.len]
    obtain ⟨h, _⟩ := Array.getElem?_eq_some_iff.1 ho; exact h
  obtain ⟨σk, hσk, hst⟩ := I.step
  have hkh : k < s.hist.length := by
    rcases Nat.lt_or_ge k s.hist.length with h | h
    · exact h
    · rw [List.getElem?_eq_none h] at hσk; cases hσk
  obtain ⟨σd, hσd⟩ : ∃ σd, s.hist[depOf s.lv o.after.toList]? = some σd := ⟨s.hist[depOf s.lv o.after.toList]'(by omega), List.getElem?_eq_getElem (by omega)⟩
  have hn : NextAt s (depOf s.lv o.after.toList) σd.next := ⟨σd, hσd, rfl⟩
  have hwant := B.wanted I ho hi hr hn
  have hnk : σd.next ≤ σk.next := I.nexts _ k _ _ hdk (Nat.le_refl _) hn ⟨σk, hσk, rfl⟩
  -- an operation that is no step of the chain
  have hnc : (∀ (l : Nat), s.cs[l]? = some i → False) → ∀ (l j : Nat), s.cs[l]? = some j → ((S j ∨ j = i) ↔ l < k) := by
    intro hno l j hc
    rw [← I.cs l j hc]
    constructor
    · rintro (h | rfl)
      · exact h
      · exact (hno l hc).elim
    · exact .inl
  have quiet : ∀ (w' : World) (v' : Value), (∀ (l : Nat), s.cs[l]? = some i → False) → s.lv.getD i 0 = depOf s.lv o.after.toList → Below w.heap.size w w' → VRel (ι.upto σd.next) (s.vs.getD i undef) v' →
      DInv P w0 ops fr σ ι0 ws s (fun m => S m ∨ m = i) (a.put o.dst v') w' k ι := by
    intro w' v' hno hl hbel hv
    refine B.next I ho hi hr (hnc hno) ⟨σk, hσk, Step.trans h0 hst (Step.grow hst.rel hbel)⟩ (fun l σl h1 h2 h3 => (I.rels l σl h1 h2 h3).grow hbel) I.nexts (fun n _ => rfl) ⟨σd.next, by rw [hl]; exact hn, hv⟩
  have noChain : ∀ (l : Nat), s.cs[l]? = some i → s.lv.getD i 0 = depOf s.lv o.after.toList → False := by
    intro l hc hl
    obtain ⟨_, o', _, _, ho', _, _, _, _, hd, hl', _⟩ := B.built.ch l i hc
    rw [ho] at ho'; cases ho'
    omega
  unfold wpOp
  rw [ho]
  simp only
  cases B.built.op i o hil ho with
  | skip hw hv hl =>
    rw [if_neg (by rw [hwant, hw]; simp)]
    exact hK _ _ k ι (quiet w undef (fun l hc => noChain l hc hl) hl (Below.refl _ w) (by rw [hv]; exact VRel.undef _))
  | pure hw hp he hl =>
    rw [if_pos (by rw [hwant]; exact hw)]
    have hx := B.xrel h0 I ho hi hr hn (aOper_ok he)
    have hσn : σ.next ≤ σd.next := I.nexts 0 _ σ.next _ (Nat.zero_le _) hdk ⟨σ, B.built.h0, rfl⟩ hn
    have hbot : Rel P w0 (⟨.leaf, σd.next, σd.next⟩ : AW) (ι.upto σd.next) w := {
      below := hst.rel.below
      glob := fun g hg => by
        obtain ⟨p, hp, hb, hd⟩ := h0.glob g hg
        have hlt := h0.dom g p hp
        exact ⟨p, by unfold Inj.upto; rw [if_pos (by omega)]; exact hst.le _ _ hp, hb, hd⟩
      blk := fun j b e => by cases e
      inj := fun j j' b b' p p' e => by cases e
      dom := fun j p e => by
        unfold Inj.upto at e; split at e
        · assumption
        · cases e }
    refine .inl (aOper_wp hN hself hsums hbot hx (by rw [pure_any hp _ _ bot]; exact he) fun v' w' ι' hs hv => ?_)
    have hι : ι' = ι.upto σd.next := by
      funext j
      by_cases hj : j < σd.next
      · exact hs.same j hj
      · have e1 : (ι.upto σd.next) j = none := by unfold Inj.upto; rw [if_neg hj]
        rw [e1]
        cases e2 : ι' j with
        | none => rfl
        | some p => exact absurd (hs.rel.dom j p e2) hj
    rw [hι] at hv
    exact hK _ _ k ι (quiet w' v' (fun l hc => noChain l hc hl) hl (Step.clean hs hbot (Nat.le_refl _)) hv)
  | read σb hw hb hINF he hl hread =>
    rw [hσd] at hb
    cases hb
    rw [if_pos (by rw [hwant]; exact hw)]
    have hx := B.xrel h0 I ho hi hr hn (aOper_ok he)
    have hclean : ∀ m, depOf s.lv o.after.toList ≤ m → m < k → Clean s m := by
      intro m h1 h2
      have hmc : m < s.cs.length := by have := B.built.hist; omega
      have hcm : s.cs[m]? = some s.cs[m] := List.getElem?_eq_getElem hmc
      obtain ⟨_, _, σb, σ', _, _, hb1, hb2, _, _, _, _, hcl⟩ := B.built.ch m _ hcm
      have hSc := (I.cs m _ hcm).2 h2
      rcases hcl with hcl | ⟨_, hrd⟩
      · intro x y hx hy
        rw [hb1] at hx; rw [hb2] at hy; cases hx; cases hy
        exact hcl
      · exfalso
        rcases hrd i hread with ⟨o', ho', hd'⟩ | hbit
        · rw [ho] at ho'; cases ho'; omega
        · exact hi (mask_spec I.down _ i hbit hSc)
    have hrel := (I.rels _ σd hdk hσd hclean).withMw INF
    refine .inl (aOper_wp hN hself hsums hrel hx he fun v' w' ι' hs hv => ?_)
    have hι : ι' = ι.upto σd.next := by
      funext j
      by_cases hj : j < σd.next
      · exact hs.same j hj
      · have e1 : (ι.upto σd.next) j = none := by unfold Inj.upto; rw [if_neg hj]
        rw [e1]
        cases e2 : ι' j with
        | none => rfl
        | some p => exact absurd (hs.rel.dom j p e2) hj
    rw [hι] at hv
    exact hK _ _ k ι (quiet w' v' (fun l hc => noChain l hc hl) hl (Step.clean hs hrel hINF) hv)
  | chain l hc =>
    obtain ⟨_, o', σb, σ', ho', hw, hb1, hb2, he, hd, hl, hmw, _⟩ := B.built.ch l i hc
    rw [ho] at ho'; cases ho'
    have hlk : l = k := by
      have h1 : ¬ l < k := fun h => hi ((I.cs l i hc).2 h)
      omega
    subst hlk
    rw [hσk] at hb1; cases hb1
    rw [hd, hσk] at hσd; cases hσd
    rw [if_pos (by rw [hwant]; exact hw)]
    have hx : XRel ι (frameAt ops fr s.vs i) a o := fun y hy => (B.xrel h0 I ho hi hr hn (aOper_ok he) y hy).mono (Inj.upto_le _ _)
    have hrel : Rel P w0 { σk with mw := INF } ι w := (hst.rel.ofMw (m := s.mw)).withMw INF
    refine .inl (aOper_wp hN hself hsums hrel hx he fun v' w' ι' hs hv => ?_)
    simp only [Option.getD_some] at hs
    have hs2 := Step.weaken (m := s.mw) (m2 := s.mw) hs hmw (Nat.le_refl _)
    have hsame : ∀ n, (∃ l', l' ≤ l ∧ NextAt s l' n) → ι'.upto n = ι.upto n := by
      rintro n ⟨l', hl', hn'⟩
      exact Inj.upto_same (m := σk.next) hs.same (I.nexts l' l n _ hl' (Nat.le_refl _) hn' ⟨σk, hσk, rfl⟩)
    have hnx : σk.next ≤ σ'.next := hs.next
    have hupto : ι'.upto σ'.next = ι' := Inj.upto_all hs.rel.dom
    refine hK _ _ (l + 1) ι' (B.next I ho hi hr (fun m j hcj => ?_) ⟨σ', hb2, Step.trans h0 hst hs2⟩ (fun m σm h1 h2 h3 => ?_) (fun m m' n n' h1 h2 h3 h4 => ?_) hsame ⟨σ'.next, by rw [hl]; exact ⟨σ', hb2, rfl⟩, by rw [hupto]; exact hv⟩)
    · constructor
      · rintro (h | rfl)
        · have := (I.cs m j hcj).1 h; omega
        · -- the same step
          obtain ⟨_, o2, _, _, ho2, _, _, _, _, hd2, _, _⟩ := B.built.ch m j hcj
          rw [ho] at ho2; cases ho2
          omega
      · intro h
        by_cases hml : m = l
        · subst hml
          rw [hc] at hcj; cases hcj; exact .inr rfl
        · exact .inl ((I.cs m j hcj).2 (by omega))
    · by_cases hml : m = l + 1
      · subst hml
        rw [hb2] at h2; cases h2
        rw [hupto]; exact hs.rel
      · have hcl := h3 l (by omega) (by omega)
        have hbel := Step.clean hs hrel (hcl σk σ' hσk hb2)
        have := (I.rels m σm (by omega) h2 (fun q a b => h3 q a (by omega))).grow hbel
        rw [hsame σm.next ⟨m, by omega, σm, h2, rfl⟩]
        exact this
    · by_cases hml : m' = l + 1
      · subst hml
        obtain ⟨x, hx1, hx2⟩ := h4
        rw [hb2] at hx1; cases hx1
        by_cases hm2 : m = l + 1
        · subst hm2
          obtain ⟨y, hy1, hy2⟩ := h3
          rw [hb2] at hy1; cases hy1
          omega
        · have := I.nexts m l n σk.next (by omega) (Nat.le_refl _) h3 ⟨σk, hσk, rfl⟩
          omega
      · exact I.nexts m m' n n' h1 (by omega) h3 h4

end

end Go.Ai

/- The interpreter is sound. -/
namespace Go.Ai
open Go.RowKit
variable {P : Program} {w0 : World} {σ : AW} {ι : Inj} {w : World} {self : Self} {sums : Sums} {ops : Array Oper}

theorem drawOk_spec (h : drawOk ops = true) : (∀ (i : Nat) (o : Oper), ops[i]? = some o → ∀ e ∈ o.after.toList, Region.binds .any e = true → e.on < i) ∧
    (∀ (i j : Nat) (x y : Oper), i < j → ops[i]? = some x → ops[j]? = some y → clash ops x y = true → ((masks ops.toList []).getD j 0).testBit i = true) := by
  have key : ∀ (j : Nat) (y : Oper), ops[j]? = some y → (y.after.toList.all fun e => !Region.binds .any e || Nat.ble (e.on + 1) j) = true ∧
      ((List.range j).all fun i => match ops[i]? with
        | some x => !clash ops x y || ((masks ops.toList []).getD j 0).testBit i
        | none => true) = true := by
    intro j y hy
    have hj : j < ops.size := by
      obtain ⟨h, _⟩ := Array.getElem?_eq_some_iff.1 hy; exact h
    have := List.all_eq_true.1 h j (List.mem_range.2 hj)
    rw [hy] at this
    exact (Bool.and_eq_true _ _).mp this
  refine ⟨fun i o ho e he hb => ?_, fun i j x y hij hx hy hc => ?_⟩
  · have := List.all_eq_true.1 (key i o ho).1 e he
    rw [hb] at this
    simp only [Bool.not_true, Bool.false_or] at this
    exact ble_le this
  · have := List.all_eq_true.1 (key j y hy).2 i (List.mem_range.2 hij)
    rw [hx] at this
    simp only [hc, Bool.not_true, Bool.false_or] at this
    exact this

theorem getD_set {l : Array Bool} {i j : Nat} (hi : i < l.size) : ((l.setIfInBounds i true).getD j false = true) ↔ (l.getD j false = true ∨ j = i) := by
  simp only [Array.getD_eq_getD_getElem?, Array.getElem?_setIfInBounds]
  by_cases h : i = j
  · subst h; simp [hi]
  · rw [if_neg h]
    constructor
    · exact .inl
    · rintro (h' | h')
      · exact h'
      · exact (h h'.symm).elim

theorem count_set : ∀ (n i : Nat) (l : Array Bool), i < n → n ≤ l.size → l.getD i false = false → ((List.range n).filter fun j => !(l.getD j false)).length = ((List.range n).filter fun j => !((l.setIfInBounds i true).getD j false)).length + 1 := by
  intro n
  induction n with
  | zero => intro i l h; omega
  | succ n ih =>
    intro i l hi hn hl
    rw [List.range_succ, List.filter_append, List.filter_append, List.length_append, List.length_append]
    by_cases h : i = n
    · subst h
      have e1 : ((List.range i).filter fun j => !(l.getD j false)) = ((List.range i).filter fun j => !((l.setIfInBounds i true).getD j false)) := by
        apply List.filter_congr
        intro j hj
        have hj := List.mem_range.1 hj
        congr 1
        simp only [Array.getD_eq_getD_getElem?, Array.getElem?_setIfInBounds]
        rw [if_neg (by omega)]
      rw [e1]
      have h1 : (l.setIfInBounds i true).getD i false = true := (getD_set (by omega)).2 (.inr rfl)
      simp only [List.filter_cons, List.filter_nil, hl, h1]
      simp
    · have := ih i l (by omega) (by omega) hl
      rw [this]
      have e2 : (l.setIfInBounds i true).getD n false = l.getD n false := by
        simp only [Array.getD_eq_getD_getElem?, Array.getElem?_setIfInBounds]
        rw [if_neg h]
      simp only [List.filter_cons, List.filter_nil, e2]
      omega

theorem any_sound (hN : ProgOk P) (hself : SelfSound P w0 self) (hsums : SumsSound P w0 sums) {fr : List Value} {s : DS} (B : Plan P sums self ops fr σ s) {ι0 : Inj} {ws : World} (h0 : Rel P w0 σ ι0 ws) {Q : Exit → Act → World → Prop}
    (hQ : ∀ a w k ι S, DInv P w0 ops fr σ ι0 ws s S a w k ι → (∀ i, i < ops.size → S i) → Q .normal a w) : ∀ (fuel : Nat) (listed : Array Bool) (a : Act) (w : World) (k : Nat) (ι : Inj), listed.size = ops.size →
    ((List.range ops.size).filter fun j => !(listed.getD j false)).length = fuel → DInv P w0 ops fr σ ι0 ws s (fun i => listed.getD i false = true) a w k ι → wpAny P .any ops Q fuel listed a w := by
  intro fuel
  have allOf : ∀ (listed : Array Bool), Region.ready .any ops listed = [] → (∀ i, i < ops.size → listed.getD i true = listed.getD i false) → ∀ i, i < ops.size → listed.getD i false = true := by
    intro listed hr hsz i
    induction i using Nat.strongRecOn with
    | _ i ih =>
      intro hi
      cases hl : listed.getD i false with
      | true => rfl
      | false =>
        exfalso
        have : i ∈ Region.ready .any ops listed := by
          unfold Region.ready
          refine List.mem_filter.2 ⟨List.mem_range.2 hi, ?_⟩
          rw [hsz i hi, hl]
          have ho : ops[i]? = some ops[i] := by simp
          rw [ho]
          simp only [Bool.not_false, Option.map_some, Option.getD_some, Bool.true_and]
          rw [Array.all_eq_true_iff_forall_mem]
          intro e he
          cases hb : Region.binds .any e with
          | false => rfl
          | true =>
            have hlt := B.back i _ ho e (Array.mem_toList_iff.2 he) hb
            simp [ih e.on hlt (by omega)]
        rw [hr] at this
        cases this
  have szD : ∀ (listed : Array Bool), listed.size = ops.size → ∀ i, i < ops.size → listed.getD i true = listed.getD i false := by
    intro listed hsz i hi
    simp only [Array.getD_eq_getD_getElem?]
    rw [Array.getElem?_eq_getElem (by omega)]
    rfl
  induction fuel with
  | zero =>
    intro listed a w k ι hsz hcount I
    have hall : ∀ i, i < ops.size → listed.getD i false = true := by
      intro i hi
      cases hl : listed.getD i false with
      | true => rfl
      | false =>
        exfalso
        have hm : i ∈ (List.range ops.size).filter fun j => !(listed.getD j false) := List.mem_filter.2 ⟨List.mem_range.2 hi, by rw [hl]; rfl⟩
        rw [List.length_eq_zero_iff.1 hcount] at hm
        cases hm
    refine ⟨?_, hQ a w k ι _ I hall⟩
    unfold Region.ready
    rw [List.filter_eq_nil_iff]
    intro i hi
    have hi := List.mem_range.1 hi
    rw [szD listed hsz i hi, hall i hi]
    simp
  | succ fuel ih =>
    intro listed a w k ι hsz hcount I
    refine ⟨fun hr => hQ a w k ι _ I (allOf listed hr (szD listed hsz)), fun i hi => ?_⟩
    unfold Region.ready at hi
    obtain ⟨hir, hcond⟩ := List.mem_filter.1 hi
    have hil := List.mem_range.1 hir
    simp only [Bool.and_eq_true, Bool.not_eq_true'] at hcond
    have hn : listed.getD i false = false := by rw [← szD listed hsz i hil]; exact hcond.1
    have ho : ops[i]? = some ops[i] := by simp
    have hr : ∀ e ∈ ops[i].after.toList, Region.binds .any e = true → listed.getD e.on false = true := by
      intro e he hb
      have h2 := hcond.2
      rw [ho] at h2
      simp only [Option.map_some, Option.getD_some] at h2
      rw [Array.all_eq_true_iff_forall_mem] at h2
      have := h2 e (Array.mem_toList_iff.1 he)
      rw [hb] at this
      simpa using this
    refine B.one hN hself hsums h0 I ho (by rw [hn]; simp) hr fun a' w' k' ι' I' => ?_
    refine ih _ a' w' k' ι' (by simp [hsz]) ?_ ?_
    · have := count_set ops.size i listed hil (by omega) hn
      omega
    · have e : (fun m => listed.getD m false = true ∨ m = i) = (fun m => (listed.setIfInBounds i true).getD m false = true) := by
        funext m
        exact propext (getD_set (by omega)).symm
      rw [e] at I'
      exact I'

theorem aDraw_sound (hN : ProgOk P) (hM : P.follows .mixedOrders = true) (hself : SelfSound P w0 self) (hsums : SumsSound P w0 sums) (hok : drawOk ops = true) {fr fr' : List Value} {σ' : AW} (e : aDraw P sums self ops fr σ = some (fr', σ')) (id : Nat) {a : Act}
    (h : Rel P w0 σ ι w) (hfr : LRel ι fr a.tmps.toList) (hd : a.defers = []) : (Code.region id ops true).wp P (Post P w0 σ ι w .normal fr' σ') a w := by
  unfold aDraw at e
  split at e <;> try contradiction
  rename_i s hs
  split at e <;> try contradiction
  rename_i σl hlast
  cases e
  obtain ⟨hback, hclash⟩ := drawOk_spec hok
  obtain ⟨hB, hlen⟩ := build (fr := fr) (σ := σ) hback ops.toList _ s (by simp)
    ⟨rfl, rfl, rfl, Nat.le_refl _, rfl, fun j o hj => by simp at hj, fun l j hc => by simp at hc⟩ (by simp) hs
  have hPl : Plan P sums self ops fr σ s := ⟨hB, by rw [hlen]; simp, hback, hclash⟩
  have hg := below_drawn w (w.drawn + 1)
  have h1 := h.grow hg
  refine wp_region_any hM (any_sound hN hself hsums hPl (ι0 := ι) (ws := { w with drawn := w.drawn + 1 }) h1 ?_ ops.size _ a _ 0 ι (by simp) ?_ ?_)
  · intro a1 w1 k ι1 S I hall
    obtain ⟨σk, hσk, hst⟩ := I.step
    have hkc : k = s.cs.length := by
      have h1 : k < s.hist.length := by
        rcases Nat.lt_or_ge k s.hist.length with h | h
        · exact h
        · rw [List.getElem?_eq_none h] at hσk; cases hσk
      have h2 := hB.hist
      rcases Nat.lt_or_ge k s.cs.length with h | h
      · exfalso
        have hc : s.cs[k]? = some s.cs[k] := List.getElem?_eq_getElem h
        have hj := hPl.len
        have := (I.cs k _ hc).1 (hall _ (by rw [← hPl.len]; exact (hB.ch k _ hc).1))
        omega
      · omega
    have hσ : σk = σl := by
      rw [List.getLast?_eq_getElem?, hB.hist] at hlast
      rw [hkc] at hσk
      simp only [Nat.add_sub_cancel] at hlast
      rw [hσk] at hlast
      exact Option.some.inj hlast
    subst hσ
    refine ⟨rfl, I.defers, ι1, Step.trans h (Step.grow h hg) hst, ?_⟩
    have hfrm := hB.frm
    rw [hfrm]
    refine ⟨by rw [frame_length, I.size], fun t x x' hx hx' => ?_⟩
    have htl : t < fr.length := by
      rw [← I.size]
      rcases Nat.lt_or_ge t a1.tmps.toList.length with h | h
      · exact h
      · rw [List.getElem?_eq_none h] at hx'; cases hx'
    rcases I.tr t x' hx' with ⟨j, hj, hdj, hmax, n, hn, hv⟩ | ⟨hno, y, hy, hv⟩
    · have hjn := I.bound j hj
      rcases frame_get (vs := s.vs) (ops := ops) s.lv.length t htl with ⟨j2, g1, g2, g3, g4⟩ | ⟨g1, g2⟩
      · have e1 := hmax j2 (hall j2 (by rw [← hPl.len]; exact g1)) g2
        have : j = j2 := by
          rcases Nat.lt_or_ge j2 j with h | h
          · exact (g3 j h (by rw [hPl.len]; exact hjn) hdj).elim
          · omega
        subst this
        rw [g4] at hx; cases hx
        exact hv.mono (Inj.upto_le _ _)
      · exact (g1 j (by rw [hPl.len]; exact hjn) hdj).elim
    · rcases frame_get (vs := s.vs) (ops := ops) s.lv.length t htl with ⟨j2, g1, g2, g3, g4⟩ | ⟨g1, g2⟩
      · exact (hno j2 (hall j2 (by rw [← hPl.len]; exact g1)) g2).elim
      · rw [g2, hy] at hx; cases hx
        exact hv.mono (Inj.upto_le _ _)
  · have : ((List.range ops.size).filter fun j => !((Array.replicate ops.size false).getD j false)) = List.range ops.size := by
      rw [List.filter_eq_self]
      intro j hj
      simp only [Array.getD_eq_getD_getElem?, Array.getElem?_replicate]
      split <;> rfl
    rw [this]; simp
  · have hno : ∀ i, (Array.replicate ops.size false).getD i false = true → False := by
      intro i hi
      simp only [Array.getD_eq_getD_getElem?, Array.getElem?_replicate] at hi
      split at hi <;> simp at hi
    have hupto : ι.upto σ.next = ι := Inj.upto_all h.dom
    exact {
      down := fun i o ho hi => (hno i hi).elim
      bound := fun i hi => (hno i hi).elim
      defers := hd
      cs := fun l j _ => ⟨fun h => (hno j h).elim, fun h => by omega⟩
      step := ⟨σ, hB.h0, by
        have := Step.weaken (m := s.mw) (m1 := σ.mw) (m2 := σ.mw) (Step.refl h1) hB.mw hB.mw
        exact this⟩
      rels := fun l σl hl hσl _ => by
        have : l = 0 := by omega
        subst this
        rw [hB.h0] at hσl; cases hσl
        rw [hupto]; exact h1
      nexts := fun l l' n n' h1 h2 h3 h4 => by
        have e1 : l' = 0 := by omega
        have e2 : l = 0 := by omega
        subst e1; subst e2
        obtain ⟨x, hx1, hx2⟩ := h3
        obtain ⟨y, hy1, hy2⟩ := h4
        rw [hx1] at hy1; cases hy1
        omega
      size := hfr.1.symm
      tr := fun t x' hx' => by
        refine .inr ⟨fun j hj => (hno j hj).elim, ?_⟩
        have htl : t < fr.length := by
          rw [hfr.1]
          rcases Nat.lt_or_ge t a.tmps.toList.length with h | h
          · exact h
          · rw [List.getElem?_eq_none h] at hx'; cases hx'
        have hx : fr[t]? = some fr[t] := List.getElem?_eq_getElem htl
        exact ⟨_, hx, by rw [hupto]; exact hfr.2 t _ x' hx hx'⟩ }

end Go.Ai

/- The interpreter is sound: code, calls, closed calls. -/
namespace Go.Ai
open Go.RowKit
variable {P : Program} {w0 : World} {σ : AW} {ι : Inj} {w : World} {self : Self} {sums : Sums}

theorem stepC_sound (hN : ProgOk P) (hM : P.follows .mixedOrders = true) (hsums : SumsSound P w0 sums) (n : Nat) (hself : SelfSound P w0 self) : SelfSound P w0 (stepC P sums n self) := by
  intro c hck fr σ ex fr' σ' e ι w a h hfr hd
  cases c with
  | skip => simp only [stepC] at e; cases e; exact wp_skip ⟨rfl, hd, ι, Step.refl h, hfr⟩
  | label l => simp only [stepC] at e; cases e; exact wp_label ⟨rfl, hd, ι, Step.refl h, hfr⟩
  | exit id => simp only [stepC] at e; cases e; exact wp_exit ⟨rfl, hd, ι, Step.refl h, hfr⟩
  | ret => simp only [stepC] at e; cases e; exact wp_ret ⟨rfl, hd, ι, Step.refl h, hfr⟩
  | region id ops draw =>
    cases draw with
    | false =>
      simp only [stepC] at e
      split at e <;> try contradiction
      rename_i fr1 σ1 hs
      cases e
      exact wp_region_list (aSeq_sound hN hself hsums ops ops.toList fr σ _ _ hs ι w a _ (fun _ _ _ hp => hp) h hfr hd)
    | true =>
      simp only [stepC] at e
      split at e <;> try contradiction
      rename_i fr1 σ1 hs
      cases e
      exact aDraw_sound hN hM hself hsums (by simpa [codeOk] using hck) hs id h hfr hd
  | seq x y =>
    simp only [codeOk, Bool.and_eq_true] at hck
    simp only [stepC] at e
    split at e
    · rename_i fr1 σ1 h1
      refine wp_seq (wp_mono (hself x hck.1 _ _ _ _ _ h1 ι w a h hfr hd) fun e1 a1 w1 hp => ?_)
      obtain ⟨rfl, hd1, ι1, hs1, hfr1⟩ := hp
      exact wp_mono (hself y hck.2 _ _ _ _ _ e ι1 w1 a1 hs1.rel hfr1 hd1) fun e2 a2 w2 hp2 => hp2.trans h hs1
    · rename_i r hne
      refine wp_seq (wp_mono (hself x hck.1 _ _ _ _ _ e ι w a h hfr hd) fun e1 a1 w1 hp => ?_)
      obtain ⟨rfl, hd1, ι1, hs1, hfr1⟩ := hp
      cases ex with
      | normal => exact (hne fr' σ' e).elim
      | exit id => exact ⟨rfl, hd1, ι1, hs1, hfr1⟩
      | ret => exact ⟨rfl, hd1, ι1, hs1, hfr1⟩
  | cond c x y =>
    simp only [codeOk, Bool.and_eq_true] at hck
    simp only [stepC] at e
    split at e <;> try contradiction
    · rename_i hok hb
      have hv := ev_rel h hfr hok
      rw [hb] at hv
      have hc : a.eval c = .bool true := by generalize a.eval c = cv at hv; cases hv; rfl
      exact wp_cond hc (hself x hck.1 _ _ _ _ _ e ι w a h hfr hd)
    · rename_i hok hb
      have hv := ev_rel h hfr hok
      rw [hb] at hv
      have hc : a.eval c = .bool false := by generalize a.eval c = cv at hv; cases hv; rfl
      exact wp_cond hc (hself y hck.2 _ _ _ _ _ e ι w a h hfr hd)
  | block id b =>
    simp only [codeOk] at hck
    simp only [stepC] at e
    split at e
    · rename_i i fr1 σ1 h1
      refine wp_block (wp_mono (hself b hck _ _ _ _ _ h1 ι w a h hfr hd) fun e1 a1 w1 hp => ?_)
      obtain ⟨rfl, hd1, ι1, hs1, hfr1⟩ := hp
      split at e
      · rename_i hi
        cases e
        simp only [exOf, Exit.inBlock, beq_eq hi, if_true]
        exact ⟨rfl, hd1, ι1, hs1, hfr1⟩
      · rename_i hi
        cases e
        have hne : i ≠ id := fun h => by rw [h, Nat.beq_refl] at hi; cases hi
        simp only [exOf, Exit.inBlock, hne, if_false]
        exact ⟨rfl, hd1, ι1, hs1, hfr1⟩
    · rename_i r hne
      refine wp_block (wp_mono (hself b hck _ _ _ _ _ e ι w a h hfr hd) fun e1 a1 w1 hp => ?_)
      obtain ⟨rfl, hd1, ι1, hs1, hfr1⟩ := hp
      cases ex with
      | normal => exact ⟨rfl, hd1, ι1, hs1, hfr1⟩
      | exit id => exact (hne id fr' σ' e).elim
      | ret => exact ⟨rfl, hd1, ι1, hs1, hfr1⟩
  | loop b =>
    simp only [codeOk] at hck
    simp only [stepC] at e
    exact wp_loop_rounds n ((aLoop_sound hself hck n fr σ ex fr' σ' e).2 ι w a _ (fun _ _ _ hp => hp) h hfr hd)
  | scope b =>
    simp only [codeOk] at hck
    simp only [stepC] at e
    refine wp_scope_straight (wp_mono (hself b hck _ _ _ _ _ e ι w a h hfr hd) fun e1 a1 w1 hp => ?_)
    obtain ⟨rfl, hd1, ι1, hs1, hfr1⟩ := hp
    cases ex <;> exact ⟨rfl, hd1, ι1, hs1, hfr1⟩
  | rangeFunc => cases e
  | goto => cases e
  | refuse => cases e

theorem run_sound (hN : ProgOk P) (hM : P.follows .mixedOrders = true) (hsums : SumsSound P w0 sums) (n : Nat) : ∀ d, SelfSound P w0 (run P sums n d)
  | 0 => fun c _ fr σ ex fr' σ' e => by cases e
  | d + 1 => stepC_sound hN hM hsums n (run_sound hN hM hsums n d)

/-- A call that the interpreter carries out. -/
theorem ai_calls (hN : ProgOk P) (hM : P.follows .mixedOrders = true) (hsums : SumsSound P w0 sums) (n d : Nat) {f : FuncId} {args args' : List Value} {r : Value × Option AW} (e : aCall P sums (run P sums n d) f args σ = some r) (h : Rel P w0 σ ι w) (ha : LRel ι args args') :
    Calls P f args'.toArray w (CPost P w0 σ ι w r) := (aCall_sound hN (run_sound hN hM hsums n d) hsums h e ha).1

def noSums : Sums := fun _ => none
theorem noSums_sound : SumsSound P w0 noSums := fun f s h => by cases h

/-- The world of which nothing is known but that there are package-level variables. -/
def blank (P : Program) : AW := ⟨.leaf, P.globals.size, INF⟩
def blankInj (P : Program) : Inj := fun g => if g < P.globals.size then some ⟨g, 0, 0, 0⟩ else none
theorem blank_rel (w : World) : Rel P w (blank P) (blankInj P) w where
  below := Below.refl _ w
  glob := fun g hg => ⟨⟨g, 0, 0, 0⟩, by unfold blankInj; rw [if_pos hg], rfl, rfl⟩
  blk := fun i b e => by cases e
  inj := fun i j b b' p p' e => by cases e
  dom := fun i p e => by
    unfold blankInj at e; split at e
    · assumption
    · cases e

/-- A closed call: the arguments name no block, nor does the result. -/
theorem ai_closed (hN : progOk P = true) (hM : P.follows .mixedOrders = true) (n d : Nat) (f : FuncId) (args : List Value) (v : Value) (hg : args.all gr = true) (e : aCall P noSums (run P noSums n d) f args (blank P) = some (v, none)) (hv : gr v = true) (w : World) :
    Calls P f args.toArray w fun e w' => e = .returned v ∧ Below w.heap.size w w' := by
  have ha : LRel (blankInj P) args args := ⟨rfl, fun i x x' p q => by
    rw [p] at q; cases q
    exact gr_refl _ (List.all_eq_true.1 hg x (List.mem_of_getElem? p))⟩
  refine (ai_calls (progOk_spec hN) hM noSums_sound n d e (blank_rel w) ha).mono fun en w' hp => ?_
  obtain ⟨v', ι', rfl, hs, hr⟩ := hp
  rw [gr_eq hr hv]
  exact ⟨rfl, hs.rel.below⟩

end Go.Ai
namespace Go.Ai
open Go.RowKit
variable {P : Program}

/-- The same, where one block more may be named, of which nothing is known. -/
def blank1 (P : Program) : AW := ⟨.leaf, P.globals.size + 1, INF⟩
def blank1Inj (P : Program) (b : Nat) : Inj := fun g => if g < P.globals.size then some ⟨g, 0, 0, 0⟩ else if g = P.globals.size then some ⟨b, 0, 0, 0⟩ else none
theorem blank1_rel (w : World) (b : Nat) : Rel P w (blank1 P) (blank1Inj P b) w where
  below := Below.refl _ w
  glob := fun g hg => ⟨⟨g, 0, 0, 0⟩, by unfold blank1Inj; rw [if_pos hg], rfl, rfl⟩
  blk := fun i b e => by cases e
  inj := fun i j b b' p p' e => by cases e
  dom := fun i p e => by
    show i < P.globals.size + 1
    unfold blank1Inj at e; split at e
    · omega
    · split at e
      · omega
      · cases e

/-- A slice of which nothing is known but its numbers. -/
theorem blank1_slice (P : Program) (b off len cap : Nat) (hl : len ≤ cap) (hc : cap < 2 ^ 64) : VRel (blank1Inj P b) (.slice (some ⟨P.globals.size, off, none⟩) len cap) (.slice (some ⟨b, off, none⟩) len cap) := by
  have h := VRel.slice (ι := blank1Inj P b) P.globals.size off off len cap cap ⟨b, 0, 0, 0⟩ (by unfold blank1Inj; rw [if_neg (by omega), if_pos rfl]) (.inl ⟨Nat.lt_of_lt_of_le hc (Nat.pow_le_pow_right (by omega) (by omega)), rfl⟩) hl (fun _ => by simp)
  exact h

/-- A call that looks into nothing of what it is handed. -/
theorem ai_blind (hN : progOk P = true) (hM : P.follows .mixedOrders = true) (n d : Nat) (f : FuncId) (b : Nat) (args args' : List Value) (v : Value) (hg : LRel (blank1Inj P b) args args') (e : aCall P noSums (run P noSums n d) f args (blank1 P) = some (v, none)) (hv : gr v = true) (w : World) :
    Calls P f args'.toArray w fun e w' => e = .returned v ∧ Below w.heap.size w w' := by
  refine (ai_calls (progOk_spec hN) hM noSums_sound n d e (blank1_rel w b) hg).mono fun en w' hp => ?_
  obtain ⟨v', ι', rfl, hs, hr⟩ := hp
  rw [gr_eq hr hv]
  exact ⟨rfl, hs.rel.below⟩

end Go.Ai

/- The last step of a law's row, behind a run that leaves all that was there as it was. -/
namespace Go.Ai
open Go.RowKit Go.WideShapes Go.ChangeShapes
section
variable {H : Type} {enc : TypeId × Value → H} {P : Program}
theorem row_post {f : Func} {s : ChangeSpec} {apart fresh handsOn again : Bool} {W W' : World} {args : Array Value} {v : Value} {ds gs : List (DataW H)} {before pa pv : List MemPlace}
    (hW : DataW.Whole enc P f.params.toList s.vars apart W args.toList ds gs before)
    (hres : ∀ (b : Nat) (sp : Nat → Bool) (hd : Bool), DataW.TrodAll enc P W' b sp hd f.resultTypes.toList (v.resultList f.resultTypes.size) (s.fn H (ds ++ gs)).results [])
    (hargs : ∀ sp : Nat → Bool, (∀ p ∈ before, sp p.block = true) → DataW.TrodAll enc P W' 0 sp true f.params.toList args.toList (s.fn H (ds ++ gs)).args pa)
    (hvars : ∀ sp : Nat → Bool, (∀ p ∈ before, sp p.block = true) → DataW.TrodVars enc P W' sp s.vars (s.fn H (ds ++ gs)).vars pv)
    (hps : before = pa ++ pv) (hb : Below W.heap.size W W')
    (hok : ∀ (j : Nat) (t : TypeId) (r : Value), f.resultTypes[j]? = some t → (v.resultList f.resultTypes.size)[j]? = some r → Value.okWide P W' .any 0 t r) :
    s.post enc P f apart fresh handsOn again W args v W' := by
  subst hps
  have hlt : ∀ p ∈ pa ++ pv, p.block < W.heap.size := hW.lt
  have hold : ∀ p ∈ pa ++ pv, (fun b => decide (b < W.heap.size)) p.block = true := fun p hp => by simpa using hlt p hp
  refine ⟨ds, gs, _, [], pa, pv, hW, hres _ _ _, hargs _ hold, hvars _ hold, World.keptBut_mono (fun p hp => ⟨hp, .inr (List.mem_append.1 hp)⟩) (hb.frame (· ∈ pa ++ pv)), fun _ => ?_⟩
  obtain ⟨_, _, _, _, _, hz, hn⟩ := hW
  refine ⟨hok, _, _, ([] ++ pa) ++ pv, ⟨[] ++ pa, pv, trodAll_append (hargs _ (fun _ _ => rfl)) (hres _ _ _), hvars _ (fun _ _ => rfl), rfl, fun b off hp => ?_, fun ha => by simpa using hn ha⟩, fun p hp _ => by simpa using hp⟩
  have hin : MemPlace.cell b off ∈ pa ++ pv := by simpa using hp
  rw [hb.frozen (hlt _ hin)]
  exact hz b off hin
end
end Go.Ai
