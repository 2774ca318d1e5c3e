/- Proved: the list of dues in memory, with its map of keys. Each theorem says its own conditions. -/
import Derived.Test.YtccmlmepcgcojaaDj
set_option linter.unusedVariables false
set_option linter.unusedSimpArgs false
namespace Go.Proofs.DU
open Go.RowKit
/-- The map's entries are the row's. -/
def Mp (es : List MapEntry) (R : List En) : Prop := (es.map fun x => (x.key, x.val)).Perm (R.map fun e => (Value.int .u64 e.k, ptr e.b))
theorem Mp.keys {es : List MapEntry} {R : List En} (h : Mp es R) : ∀ x ∈ es, ∃ e ∈ R, x.key = .int .u64 e.k ∧ x.val = ptr e.b := fun x hx => by
  have h1 : (x.key, x.val) ∈ R.map fun e => (Value.int .u64 e.k, ptr e.b) := h.mem_iff.1 (List.mem_map.2 ⟨x, hx, rfl⟩)
  obtain ⟨e, he, h2⟩ := List.mem_map.1 h1
  simp only [Prod.mk.injEq] at h2
  exact ⟨e, he, h2.1.symm, h2.2.symm⟩
theorem Mp.has {es : List MapEntry} {R : List En} (h : Mp es R) {e : En} (he : e ∈ R) : ∃ x ∈ es, x.key = .int .u64 e.k ∧ x.val = ptr e.b := by
  have h1 : (Value.int .u64 e.k, ptr e.b) ∈ es.map fun x => (x.key, x.val) := h.mem_iff.2 (List.mem_map.2 ⟨e, he, rfl⟩)
  obtain ⟨x, hx, h2⟩ := List.mem_map.1 h1
  simp only [Prod.mk.injEq] at h2
  exact ⟨x, hx, h2.1, h2.2⟩
theorem find_spec (k : Int) : ∀ (l : List MapEntry) (i : Nat), (∀ x ∈ l, ∃ a, x.key = .int .u64 a) →
    (∃ j x, Instr.findNow (.int .u64) (.int .u64 k) l i = some (some (i + j, x.val)) ∧ l[j]? = some x ∧ x.key = .int .u64 k) ∨ (Instr.findNow (.int .u64) (.int .u64 k) l i = some none ∧ ∀ x ∈ l, x.key ≠ .int .u64 k)
  | [], i, _ => .inr ⟨rfl, by simp⟩
  | x :: l, i, h => by
    obtain ⟨a, ha⟩ := h x (by simp)
    by_cases hk : k = a
    · subst hk
      refine .inl ⟨0, x, ?_, by simp, ha⟩
      simp [Instr.findNow, Instr.sameNow, ha]
    · have hs : Instr.sameNow (.int .u64) (.int .u64 k) x.key = some false := by simp [Instr.sameNow, ha, hk]
      rcases find_spec k l (i + 1) (fun y hy => h y (by simp [hy])) with ⟨j, y, h1, h2, h3⟩ | ⟨h1, h2⟩
      · exact .inl ⟨j + 1, y, by simp only [Instr.findNow, hs, h1]; congr 3; omega, by simpa using h2, h3⟩
      · refine .inr ⟨by simp only [Instr.findNow, hs, h1], fun y hy => ?_⟩
        rcases List.mem_cons.1 hy with rfl | hy
        · rw [ha]; intro e; cases e; exact hk rfl
        · exact h2 y hy
/-- A block is another object. -/
def setMap (w : World) (r : Nat) (o : Obj) : World := { w with heap := w.heap.setIfInBounds r o }
theorem setMap_at {w : World} {r : Nat} (o : Obj) (h : r < w.heap.size) : (setMap w r o).heap[r]? = some o := by
  show (w.heap.setIfInBounds r o)[r]? = _
  rw [Array.getElem?_setIfInBounds, if_pos rfl, if_pos h]
theorem setMap_ne {w : World} {r b : Nat} (o : Obj) (h : b ≠ r) : (setMap w r o).heap[b]? = w.heap[b]? := by
  show (w.heap.setIfInBounds r o)[b]? = _
  rw [Array.getElem?_setIfInBounds, if_neg (fun e => h e.symm)]
theorem setMap_size (w : World) (r : Nat) (o : Obj) : (setMap w r o).heap.size = w.heap.size := by simp [setMap]
theorem setMap_turn {F : Nat → Prop} {w : World} {r : Nat} (o : Obj) (h : F r) : Turn F w (setMap w r o) := ⟨rfl, rfl, rfl, by rw [setMap_size]; exact Nat.le_refl _, fun b _ hn => setMap_ne o (fun e => hn (e ▸ h))⟩
theorem run_getObj_map {P : Program} {w : World} {r : Nat} {es : Array MapEntry} {c : Nat} (h : w.heap[r]? = some (.map es c)) : (getObj r).run P w = .ok (.map es c) w := by
  simp [getObj, Sem.run, h]
theorem run_setObj_map {P : Program} {w : World} {r : Nat} {es es' : Array MapEntry} {c c' : Nat} (h : w.heap[r]? = some (.map es c)) : (setObj r (.map es' c')).run P w = .ok () (setMap w r (.map es' c')) := by
  simp [setObj, Sem.run, h, setMap]
theorem run_check (b : Bool) (n : Nat) (k : Int) (w : World) : (Instr.checkKey b (n + 1) 23 (.int .u64 k)).run Try.prog w = .ok () w := by
  unfold Instr.checkKey
  simp only [Sem.run_bind, run_underlying Try.underlying23, Result.andThen_ok]
  rfl
theorem run_findKey {k : Value} {l : List MapEntry} {r : Option (Nat × Value)} (hf : Instr.findNow (.int .u64) k l 0 = some r) (w : World) : (Instr.findKey 23 k l).run Try.prog w = .ok r w := by
  simp [Instr.findKey, run_underlying Try.underlying23, hf]
theorem zero54 (w : World) : (zeroValue 54).run Try.prog w = .ok (.pointer none) w := by kernel_rfl
theorem look_in {w : World} {bm : Nat} {es : Array MapEntry} {ck i : Nat} {v : Value} {k : Int} (h : w.heap[bm]? = some (.map es ck)) (hf : Instr.findNow (.int .u64) (.int .u64 k) es.toList 0 = some (some (i, v))) : (Instr.lookup 49 (.map (some bm)) (.int .u64 k) true).run Try.prog w = .ok (.tuple #[v, .bool true]) w := by
  simp only [Instr.lookup, Sem.run_bind, run_underlying Try.underlying49, Result.andThen_ok, run_getObj_map h, Sem.run_pure, run_check _ 9999, run_findKey hf, if_true]
theorem look_out {w : World} {bm : Nat} {es : Array MapEntry} {ck : Nat} {k : Int} (h : w.heap[bm]? = some (.map es ck)) (hf : Instr.findNow (.int .u64) (.int .u64 k) es.toList 0 = some none) : (Instr.lookup 49 (.map (some bm)) (.int .u64 k) true).run Try.prog w = .ok (.tuple #[.pointer none, .bool false]) w := by
  simp only [Instr.lookup, Sem.run_bind, run_underlying Try.underlying49, Result.andThen_ok, run_getObj_map h, Sem.run_pure, run_check _ 9999, run_findKey hf, zero54, if_true]
theorem put_new {w : World} {bm : Nat} {es : Array MapEntry} {ck : Nat} {k : Int} {v : Value} (h : w.heap[bm]? = some (.map es ck)) (hf : Instr.findNow (.int .u64) (.int .u64 k) es.toList 0 = some none) : (Instr.mapUpdate 49 (.map (some bm)) (.int .u64 k) v).run Try.prog w = .ok () (setMap w bm (.map (es.push { key := .int .u64 k, val := v, born := ck }) (ck + 1))) := by
  simp only [Instr.mapUpdate, Sem.run_bind, run_underlying Try.underlying49, Result.andThen_ok, run_getObj_map h, run_check _ 9999, run_findKey hf, run_setObj_map h]
theorem del_in {w : World} {bm : Nat} {es : Array MapEntry} {ck i : Nat} {v : Value} {k : Int} {t ty : TypeId} (h : w.heap[bm]? = some (.map es ck)) (hf : Instr.findNow (.int .u64) (.int .u64 k) es.toList 0 = some (some (i, v))) : (Builtin.delete_ #[49, t] ty #[.map (some bm), .int .u64 k]).run Try.prog w = .ok (.tuple #[]) (setMap w bm (.map (es.eraseIdxIfInBounds i) ck)) := by
  simp [Builtin.delete_, run_underlying Try.underlying49, run_getObj_map h, run_check _ 9999, run_findKey hf, run_setObj_map h]
def kt (e : En) : Int × Int := (e.k, e.t)
/-- The list of dues: what the document has. G: its blocks. -/
structure Due (G : Nat → Prop) (bd bm : Nat) (rv : Value) (es : Array MapEntry) (ck : Nat) (R : List En) (L : List (Int × Int)) (W : World) : Prop where
  gm : G bm
  st : St (fun b => G b ∧ b ≠ bm) bd bm rv R W
  map : W.heap[bm]? = some (.map es ck)
  mp : Mp es.toList R
  keys : (L.map (·.1)).Nodup
  heap : Heap R R.length
  perm : (R.map kt).Perm L
def D (G : Nat → Prop) (bd : Nat) (L : List (Int × Int)) (W : World) : Prop := ∃ bm rv es ck R, Due G bd bm rv es ck R L W
variable {G : Nat → Prop} {bd bm : Nat} {rv : Value} {es : Array MapEntry} {ck : Nat} {R : List En} {L : List (Int × Int)} {W W' w : World}
theorem Due.nodup (h : Due G bd bm rv es ck R L W) : (R.map (·.k)).Nodup := by
  have h1 : (R.map kt).map (·.1) = R.map (·.k) := by rw [List.map_map]; rfl
  rw [← h1]
  exact ((h.perm.map (·.1)).nodup_iff).2 h.keys
theorem nodup_inj {R : List En} (h : (R.map (·.k)).Nodup) {a b : En} (ha : a ∈ R) (hb : b ∈ R) (e : a.k = b.k) : a = b := by
  obtain ⟨i, hi⟩ := List.getElem?_of_mem ha
  obtain ⟨j, hj⟩ := List.getElem?_of_mem hb
  have h1 : (R.map (·.k))[i]? = some a.k := by rw [List.getElem?_map, hi]; rfl
  have h2 : (R.map (·.k))[j]? = some a.k := by rw [List.getElem?_map, hj, e]; rfl
  have hil := (List.getElem?_eq_some_iff.1 h1).1
  have hjl := (List.getElem?_eq_some_iff.1 h2).1
  have := (List.getElem_inj (h₀ := hil) (h₁ := hjl) h).1 (by rw [(List.getElem?_eq_some_iff.1 h1).2, (List.getElem?_eq_some_iff.1 h2).2])
  subst this
  rw [hi] at hj
  exact Option.some.inj hj
/-- A look at the map. -/
theorem Due.look (h : Due G bd bm rv es ck R L W) (k : Int) : (∃ (i : Nat) (e : En) (j : Nat) (x : MapEntry), Instr.findNow (.int .u64) (.int .u64 k) es.toList 0 = some (some (j, ptr e.b)) ∧ es.toList[j]? = some x ∧ x.key = .int .u64 k ∧ x.val = ptr e.b ∧ R[i]? = some e ∧ e.k = k ∧ (k, e.t) ∈ L) ∨ (Instr.findNow (.int .u64) (.int .u64 k) es.toList 0 = some none ∧ (∀ e ∈ R, e.k ≠ k) ∧ ∀ x ∈ L, x.1 ≠ k) := by
  have hk : ∀ x ∈ es.toList, ∃ a, x.key = .int .u64 a := fun x hx => let ⟨e, _, h1, _⟩ := h.mp.keys x hx; ⟨e.k, h1⟩
  rcases find_spec k es.toList 0 hk with ⟨j, x, h1, h2, h3⟩ | ⟨h1, h2⟩
  · obtain ⟨e, he, h4, h5⟩ := h.mp.keys x (List.mem_of_getElem? h2)
    have hek : e.k = k := by rw [h3] at h4; cases h4; rfl
    obtain ⟨i, hi⟩ := List.getElem?_of_mem he
    refine .inl ⟨i, e, j, x, by rw [h1, h5, Nat.zero_add], h2, h3, h5, hi, hek, ?_⟩
    have : kt e ∈ R.map kt := List.mem_map.2 ⟨e, he, rfl⟩
    have := h.perm.mem_iff.1 this
    rw [← hek]; exact this
  · have hR : ∀ e ∈ R, e.k ≠ k := fun e he hek => by
      obtain ⟨x, hx, h3, _⟩ := h.mp.has he
      rw [hek] at h3
      exact h2 x hx h3
    refine .inr ⟨h1, hR, fun x hx e => ?_⟩
    obtain ⟨y, hy, h3⟩ := List.mem_map.1 (h.perm.mem_iff.2 hx)
    refine hR y hy ?_
    rw [← e, ← h3]; rfl
/-- A map's block is turned, or blocks are laid. -/
theorem St.kept {F : Nat → Prop} (h : St F bd bm rv R W) {q : Nat} (hq : W.heap[q]? = some (.map es ck)) (hk : ∀ b, b < W.heap.size → b ≠ q → W'.heap[b]? = W.heap[b]?) : St F bd bm rv R W' := by
  have k : ∀ {b : Nat} {c : Array Value} {t : TypeId} {f : Nat × Nat}, W.heap[b]? = some (.cells c t f) → W'.heap[b]? = some (.cells c t f) := fun {b c t f} hb => by
    rw [hk b (Array.getElem?_eq_some_iff.1 hb).1 (fun e => by subst e; rw [hq] at hb; cases hb)]
    exact hb
  refine ⟨k h.hd, ⟨h.row.1, ?_⟩, fun i e he => k (h.ent i e he), h.fd, h.fr, h.fe⟩
  rcases h.row.2 with h' | ⟨g, cap, cur, hv, h1, h2, h3⟩
  · exact .inl h'
  · exact .inr ⟨g, cap, cur, hv, h1, k h2, h3⟩
end Go.Proofs.DU
