/- Proved: looks at the program's map of names, and what the disk's least functions come to. Each theorem says its own conditions. -/
import Derived.Test.YteleocgomdhcfaaKv
set_option linter.unusedVariables false
set_option linter.unusedSimpArgs false
namespace Go.Proofs.DK
open Go.RowKit
variable {G : Nat → Prop} {bd bm : Nat} {es : Array MapEntry} {ck : Nat} {R : List En} {S : Ds} {W W' w : World}
theorem ba_beq (a b : ByteArray) : (a == b) = decide (a = b) := by
  cases a; cases b; rename_i x y
  show (x == y) = _
  by_cases h : x = y
  · subst h; simp
  · simp [h]
theorem find_spec (s : ByteArray) : ∀ (l : List MapEntry) (i : Nat), (∀ x ∈ l, ∃ a, x.key = .string a) →
    (∃ j x, Instr.findNow .string (.string s) l i = some (some (i + j, x.val)) ∧ l[j]? = some x ∧ x.key = .string s) ∨ (Instr.findNow .string (.string s) l i = some none ∧ ∀ x ∈ l, x.key ≠ .string s)
  | [], i, _ => .inr ⟨rfl, by simp⟩
  | x :: l, i, h => by
    obtain ⟨a, ha⟩ := h x (by simp)
    by_cases hk : s = a
    · subst hk
      refine .inl ⟨0, x, ?_, by simp, ha⟩
      simp [Instr.findNow, Instr.sameNow, ha, ba_beq]
    · have hs : Instr.sameNow .string (.string s) x.key = some false := by
        simp only [Instr.sameNow, ha, ba_beq]
        simp [hk]
      rcases find_spec s l (i + 1) (fun y hy => h y (by simp [hy])) with ⟨j, y, h1, h2, h3⟩ | ⟨h1, h2⟩
      · exact .inl ⟨j + 1, y, by simp only [Instr.findNow, hs, h1]; congr 3; omega, by simpa using h2, h3⟩
      · refine .inr ⟨by simp only [Instr.findNow, hs, h1], fun y hy => ?_⟩
        rcases List.mem_cons.1 hy with rfl | hy
        · rw [ha]; intro e; cases e; exact hk rfl
        · exact h2 y hy
theorem Dk.keys (h : Dk G bd bm es ck R S W) : ∀ x ∈ es.toList, ∃ e ∈ R, x.key = .string (bs e.f.n) ∧ x.val = ptr e.b := fun x hx => by
  have h1 := h.mp.mem_iff.1 (List.mem_map.2 ⟨x, hx, rfl⟩)
  obtain ⟨e, he, h2⟩ := List.mem_map.1 h1
  simp only [Prod.mk.injEq] at h2
  exact ⟨e, he, h2.1.symm, h2.2.symm⟩
theorem Dk.has (h : Dk G bd bm es ck R S W) {e : En} (he : e ∈ R) : ∃ x ∈ es.toList, x.key = .string (bs e.f.n) ∧ x.val = ptr e.b := by
  have h1 := h.mp.mem_iff.2 (List.mem_map.2 ⟨e, he, rfl⟩)
  obtain ⟨x, hx, h2⟩ := List.mem_map.1 h1
  simp only [Prod.mk.injEq] at h2
  exact ⟨x, hx, h2.1, h2.2⟩
/-- A look at the map. -/
theorem Dk.look (h : Dk G bd bm es ck R S W) (n : List UInt8) : (∃ (e : En) (j : Nat) (x : MapEntry), Instr.findNow .string (.string (bs n)) es.toList 0 = some (some (j, ptr e.b)) ∧ es.toList[j]? = some x ∧ x.key = .string (bs n) ∧ x.val = ptr e.b ∧ e ∈ R ∧ e.f.n = n ∧ lookF S.fs n = some e.f) ∨ (Instr.findNow .string (.string (bs n)) es.toList 0 = some none ∧ (∀ e ∈ R, e.f.n ≠ n) ∧ lookF S.fs n = none) := by
  have hk : ∀ x ∈ es.toList, ∃ a, x.key = .string a := fun x hx => let ⟨e, _, h1, _⟩ := h.keys x hx; ⟨_, h1⟩
  rcases find_spec (bs n) es.toList 0 hk with ⟨j, x, h1, h2, h3⟩ | ⟨h1, h2⟩
  · obtain ⟨e, he, h4, h5⟩ := h.keys x (List.mem_of_getElem? h2)
    have hen : e.f.n = n := by rw [h3] at h4; exact (bs_inj (Value.string.inj h4)).symm
    have hl := h.srt.look (h.perm.mem_iff.1 (List.mem_map.2 ⟨e, he, rfl⟩))
    rw [hen] at hl
    exact .inl ⟨e, j, x, by rw [h1, h5, Nat.zero_add], h2, h3, h5, he, hen, hl⟩
  · have hR : ∀ e ∈ R, e.f.n ≠ n := fun e he hek => by
      obtain ⟨x, hx, h3, _⟩ := h.has he
      rw [hek] at h3
      exact h2 x hx h3
    refine .inr ⟨h1, hR, ?_⟩
    cases hl : lookF S.fs n with
    | none => rfl
    | some f =>
      obtain ⟨hf, hn⟩ := look_some hl
      obtain ⟨e, he, rfl⟩ := List.mem_map.1 (h.perm.mem_iff.2 hf)
      exact absurd hn (hR e he)
/-- A block is another object. -/
def setMap (w : World) (r : Nat) (o : Obj) : World := { w with heap := w.heap.setIfInBounds r o }
theorem setMap_at {w : World} {r : Nat} (o : Obj) (h : r < w.heap.size) : (setMap w r o).heap[r]? = some o := by
  show (w.heap.setIfInBounds r o)[r]? = _
  rw [Array.getElem?_setIfInBounds, if_pos rfl, if_pos h]
theorem setMap_ne {w : World} {r b : Nat} (o : Obj) (h : b ≠ r) : (setMap w r o).heap[b]? = w.heap[b]? := by
  show (w.heap.setIfInBounds r o)[b]? = _
  rw [Array.getElem?_setIfInBounds, if_neg (fun e => h e.symm)]
theorem setMap_size (w : World) (r : Nat) (o : Obj) : (setMap w r o).heap.size = w.heap.size := by simp [setMap]
theorem setMap_turn {F : Nat → Prop} {w : World} {r : Nat} (o : Obj) (h : F r) : Turn F w (setMap w r o) := ⟨rfl, rfl, rfl, by rw [setMap_size]; exact Nat.le_refl _, fun b _ hn => setMap_ne o (fun e => hn (e ▸ h))⟩
theorem run_getObj_map {P : Program} {w : World} {r : Nat} {es : Array MapEntry} {c : Nat} (h : w.heap[r]? = some (.map es c)) : (getObj r).run P w = .ok (.map es c) w := by
  simp [getObj, Sem.run, h]
theorem run_setObj_map {P : Program} {w : World} {r : Nat} {es es' : Array MapEntry} {c c' : Nat} (h : w.heap[r]? = some (.map es c)) : (setObj r (.map es' c')).run P w = .ok () (setMap w r (.map es' c')) := by
  simp [setObj, Sem.run, h, setMap]
theorem run_check (b : Bool) (n : Nat) (s : ByteArray) (w : World) : (Instr.checkKey b (n + 1) 9 (.string s)).run Try.prog w = .ok () w := by
  unfold Instr.checkKey
  simp only [Sem.run_bind, run_underlying Try.underlying9, Result.andThen_ok]
  rfl
theorem run_findKey {k : Value} {l : List MapEntry} {r : Option (Nat × Value)} (hf : Instr.findNow .string k l 0 = some r) (w : World) : (Instr.findKey 9 k l).run Try.prog w = .ok r w := by
  simp [Instr.findKey, run_underlying Try.underlying9, hf]
theorem zero69 (w : World) : (zeroValue 69).run Try.prog w = .ok (.pointer none) w := by kernel_rfl
theorem look_in {w : World} {bm : Nat} {es : Array MapEntry} {ck i : Nat} {v : Value} {s : ByteArray} (h : w.heap[bm]? = some (.map es ck)) (hf : Instr.findNow .string (.string s) es.toList 0 = some (some (i, v))) : (Instr.lookup 54 (.map (some bm)) (.string s) true).run Try.prog w = .ok (.tuple #[v, .bool true]) w := by
  simp only [Instr.lookup, Sem.run_bind, run_underlying Try.underlying54, Result.andThen_ok, run_getObj_map h, Sem.run_pure, run_check _ 9999, run_findKey hf, if_true]
theorem look_out {w : World} {bm : Nat} {es : Array MapEntry} {ck : Nat} {s : ByteArray} (h : w.heap[bm]? = some (.map es ck)) (hf : Instr.findNow .string (.string s) es.toList 0 = some none) : (Instr.lookup 54 (.map (some bm)) (.string s) true).run Try.prog w = .ok (.tuple #[.pointer none, .bool false]) w := by
  simp only [Instr.lookup, Sem.run_bind, run_underlying Try.underlying54, Result.andThen_ok, run_getObj_map h, Sem.run_pure, run_check _ 9999, run_findKey hf, zero69, if_true]
theorem look_in0 {w : World} {bm : Nat} {es : Array MapEntry} {ck i : Nat} {v : Value} {s : ByteArray} (h : w.heap[bm]? = some (.map es ck)) (hf : Instr.findNow .string (.string s) es.toList 0 = some (some (i, v))) : (Instr.lookup 54 (.map (some bm)) (.string s) false).run Try.prog w = .ok v w := by
  simp only [Instr.lookup, Sem.run_bind, run_underlying Try.underlying54, Result.andThen_ok, run_getObj_map h, Sem.run_pure, run_check _ 9999, run_findKey hf, Bool.false_eq_true, if_false]
theorem look_out0 {w : World} {bm : Nat} {es : Array MapEntry} {ck : Nat} {s : ByteArray} (h : w.heap[bm]? = some (.map es ck)) (hf : Instr.findNow .string (.string s) es.toList 0 = some none) : (Instr.lookup 54 (.map (some bm)) (.string s) false).run Try.prog w = .ok (.pointer none) w := by
  simp only [Instr.lookup, Sem.run_bind, run_underlying Try.underlying54, Result.andThen_ok, run_getObj_map h, Sem.run_pure, run_check _ 9999, run_findKey hf, zero69, Bool.false_eq_true, if_false]
theorem put_new {w : World} {bm : Nat} {es : Array MapEntry} {ck : Nat} {s : ByteArray} {v : Value} (h : w.heap[bm]? = some (.map es ck)) (hf : Instr.findNow .string (.string s) es.toList 0 = some none) : (Instr.mapUpdate 54 (.map (some bm)) (.string s) v).run Try.prog w = .ok () (setMap w bm (.map (es.push { key := .string s, val := v, born := ck }) (ck + 1))) := by
  simp only [Instr.mapUpdate, Sem.run_bind, run_underlying Try.underlying54, Result.andThen_ok, run_getObj_map h, run_check _ 9999, run_findKey hf, run_setObj_map h]
theorem del_in {w : World} {bm : Nat} {es : Array MapEntry} {ck i : Nat} {v : Value} {s : ByteArray} {t ty : TypeId} (h : w.heap[bm]? = some (.map es ck)) (hf : Instr.findNow .string (.string s) es.toList 0 = some (some (i, v))) : (Builtin.delete_ #[54, t] ty #[.map (some bm), .string s]).run Try.prog w = .ok (.tuple #[]) (setMap w bm (.map (es.eraseIdxIfInBounds i) ck)) := by
  simp [Builtin.delete_, run_underlying Try.underlying54, run_getObj_map h, run_check _ 9999, run_findKey hf, run_setObj_map h]
/-- The disk's own block is another one. -/
theorem Dk.head {S' : Ds} (h : Dk G bd bm es ck R S W) (hfs : S'.fs = S.fs) (hd : W'.heap[bd]? = some (.cells #[.int .i64 S'.room, .map (some bm), .bool S'.down, .int .i64 S'.falls, .bool S'.fused, .int .i64 S'.fuse, .int .i64 S'.part] 56 (0, 0))) (hk : ∀ b, b ≠ bd → W'.heap[b]? = W.heap[b]?) : Dk G bd bm es ck R S' W' := by
  have hne : ∀ {b : Nat} {o : Obj}, W.heap[b]? = some o → (∀ c, o ≠ .cells c 56 (0, 0)) → W'.heap[b]? = some o := fun {b o} hb ho => (hk b (fun e => by subst e; rw [h.hd] at hb; cases hb; exact ho _ rfl)).trans hb
  refine ⟨h.gd, h.gm, hd, hne h.map (fun c e => by cases e), h.mp, by rw [hfs]; exact h.perm, by rw [hfs]; exact h.srt, fun e he => ?_, h.apart, h.st⟩
  obtain ⟨h1, h2, h3, h4⟩ := h.ent e he
  refine ⟨h1, hne h2 (fun c e => by cases e), h3.keep fun g hg hl => ?_, h4⟩
  obtain ⟨cur, hc⟩ := h3.lt g hg
  rw [hc]
  exact hne hc (fun c e => by cases e)
theorem Turn.put {F : Nat → Prop} {W W' : World} {p : Addr} {v : Value} (h : Turn F W W') (hF : F p.block) : Turn F W (W'.setCell p v) := h.trans (Turn.set W' p v hF) fun _ _ h => h
theorem Dk.cells (h : Dk G bd bm es ck R S W) : W.cell? ⟨bd, 0, none⟩ = some (.int .i64 S.room) ∧ W.cell? ⟨bd, 1, none⟩ = some (.map (some bm)) ∧ W.cell? ⟨bd, 2, none⟩ = some (.bool S.down) ∧ W.cell? ⟨bd, 3, none⟩ = some (.int .i64 S.falls) ∧ W.cell? ⟨bd, 4, none⟩ = some (.bool S.fused) ∧ W.cell? ⟨bd, 5, none⟩ = some (.int .i64 S.fuse) ∧ W.cell? ⟨bd, 6, none⟩ = some (.int .i64 S.part) ∧ ∀ o, W.frozen? ⟨bd, o, none⟩ = false :=
  ⟨cellof h.hd 0, cellof h.hd 1, cellof h.hd 2, cellof h.hd 3, cellof h.hd 4, cellof h.hd 5, cellof h.hd 6, fun o => frozenof h.hd o⟩
theorem c11 (w : World) (h : D G bd S w) : Calls Try.prog 11 #[ptr bd] w fun e w' => e = .returned (.bool (!S.down)) ∧ w = w' := by
  obtain ⟨bm, es, ck, R, h⟩ := h
  obtain ⟨y0, y1, y2, y3, y4, y5, y6, yf⟩ := h.cells
  unfold ptr
  clear h
  go_enter Try.func11, Try.ntmps11
  go_wp2
  go_ret
  exact ⟨rfl, rfl⟩
theorem c22 (w : World) (h : D G bd S w) : Calls Try.prog 22 #[ptr bd] w fun e w' => e = .returned (.int .i64 S.falls) ∧ w = w' := by
  obtain ⟨bm, es, ck, R, h⟩ := h
  obtain ⟨y0, y1, y2, y3, y4, y5, y6, yf⟩ := h.cells
  unfold ptr
  clear h
  go_enter Try.func22, Try.ntmps22
  go_wp2
  go_ret
  exact ⟨rfl, rfl⟩
/-- A method of the disk: its answer, and the disk behind it. -/
def Did (G : Nat → Prop) (bd : Nat) (v : Value) (S' : Ds) (w : World) (e : Ending) (w' : World) : Prop := e = .returned v ∧ ∃ G' : Nat → Prop, (∀ b, G' b → G b ∨ w.heap.size ≤ b) ∧ D G' bd S' w' ∧ Turn G w w'
theorem Did.same {v : Value} (h : D G bd S w) : Did G bd v S w (.returned v) w := ⟨rfl, G, fun b h => .inl h, h, Turn.refl _ _⟩
set_option maxHeartbeats 1000000 in
theorem c10 (w : World) (h : D G bd S w) (h0 : 0 ≤ S.falls) (h1 : S.falls ≤ 100000) : Calls Try.prog 10 #[ptr bd] w (Did G bd (.tuple #[]) S.crash w) := by
  obtain ⟨bm, es, ck, R, h⟩ := h
  obtain ⟨y0, y1, y2, y3, y4, y5, y6, yf⟩ := h.cells
  have HH := Lib.hid h
  unfold ptr
  clear h
  have hc : S.crash = { S with down := true, falls := if S.down then S.falls else S.falls + 1, fused := false, fuse := 0, part := 0 } := rfl
  cases hd : S.down
  · rw [hd] at y2
    rw [hd, if_neg (by decide)] at hc
    have hcr := hc
    have HC := Lib.hid hc
    clear hc hcr
    go_enter Try.func10, Try.ntmps10
    go_wp2
    go_end0
    refine ⟨rfl, G, fun b h => .inl h, ⟨bm, es, ck, R, HH.out.head (by rw [HC.out]) ?_ fun b hb => ?_⟩, ?_⟩
    · rw [HC.out]
      have h7 := setCell_at (o := 6) (.int .i64 0) (setCell_at (o := 5) (.int .i64 0) (setCell_at (o := 4) (.bool false) (setCell_at (o := 2) (.bool true) (setCell_at (o := 3) (.int .i64 (S.falls + 1)) HH.out.hd))))
      simp only [List.setIfInBounds_toArray, List.set_cons_zero, List.set_cons_succ] at h7
      exact h7
    · rw [setCell_ne _ hb, setCell_ne _ hb, setCell_ne _ hb, setCell_ne _ hb, setCell_ne _ hb]
    · iterate 5 refine Turn.put ?_ HH.out.gd
      exact Turn.refl _ _
  · rw [hd] at y2
    rw [hd, if_pos rfl] at hc
    have HC := Lib.hid hc
    clear hc
    go_enter Try.func10, Try.ntmps10
    go_wp2
    go_end0
    refine ⟨rfl, G, fun b h => .inl h, ⟨bm, es, ck, R, HH.out.head (by rw [HC.out]) ?_ fun b hb => ?_⟩, ?_⟩
    · rw [HC.out]
      have h7 := setCell_at (o := 6) (.int .i64 0) (setCell_at (o := 5) (.int .i64 0) (setCell_at (o := 4) (.bool false) (setCell_at (o := 2) (.bool true) HH.out.hd)))
      simp only [List.setIfInBounds_toArray, List.set_cons_zero, List.set_cons_succ] at h7
      exact h7
    · rw [setCell_ne _ hb, setCell_ne _ hb, setCell_ne _ hb, setCell_ne _ hb]
    · iterate 4 refine Turn.put ?_ HH.out.gd
      exact Turn.refl _ _
set_option maxHeartbeats 1000000 in
theorem c16 (n k : Int) (w : World) (h : D G bd S w) : Calls Try.prog 16 #[ptr bd, .int .i64 n, .int .i64 k] w (Did G bd (.tuple #[]) (S.light n k) w) := by
  obtain ⟨bm, es, ck, R, h⟩ := h
  obtain ⟨y0, y1, y2, y3, y4, y5, y6, yf⟩ := h.cells
  have HH := Lib.hid h
  unfold ptr
  clear h
  go_enter Try.func16, Try.ntmps16
  go_wp2
  go_end0
  refine ⟨rfl, G, fun b h => .inl h, ⟨bm, es, ck, R, HH.out.head rfl ?_ fun b hb => ?_⟩, ?_⟩
  · have h7 := setCell_at (o := 6) (.int .i64 (max k 0)) (setCell_at (o := 5) (.int .i64 (max n 0)) (setCell_at (o := 4) (.bool true) HH.out.hd))
    simp only [List.setIfInBounds_toArray, List.set_cons_zero, List.set_cons_succ] at h7
    exact h7
  · rw [setCell_ne _ hb, setCell_ne _ hb, setCell_ne _ hb]
  · iterate 3 refine Turn.put ?_ HH.out.gd
    exact Turn.refl _ _
theorem c15 (n : List UInt8) (w : World) (h : D G bd S w) : Calls Try.prog 15 #[ptr bd, .string (bs n)] w fun e w' => e = .returned (.int .i64 (match lookF S.fs n with | none => 0 | some f => (f.s : Int))) ∧ w = w' := by
  obtain ⟨bm, es, ck, R, h⟩ := h
  obtain ⟨y0, y1, y2, y3, y4, y5, y6, yf⟩ := h.cells
  rcases h.look n with ⟨e, j, x, h1, h2, h3, h4, h5, h6, h7⟩ | ⟨h1, h2, h3⟩
  · have hl := look_in0 h.map h1
    obtain ⟨_, h8, _, _⟩ := h.ent e h5
    have z1 := cellof h8 1
    simp only [List.getElem?_toArray, List.getElem?_cons_zero, List.getElem?_cons_succ] at z1
    rw [h7]
    unfold ptr at hl ⊢
    clear h h1 h2 h3 h4 h5 h6 h7 h8
    go_enter Try.func15, Try.ntmps15
    go_wp2
    go_ret
    exact ⟨rfl, rfl⟩
  · have hl := look_out0 h.map h1
    rw [h3]
    unfold ptr
    clear h h1 h2 h3
    go_enter Try.func15, Try.ntmps15
    go_wp2
    go_ret
    exact ⟨rfl, rfl⟩
/-- An act begins. -/
theorem c34 (w : World) (h : D G bd S w) (hd : S.down = false) (h0 : 0 ≤ S.falls) (h1 : S.falls ≤ 100000) (h2 : 0 ≤ S.fuse) (h3 : S.fuse ≤ 9223372036854775807) : Calls Try.prog 34 #[ptr bd] w (Did G bd (.bool (decide (S.how = 1))) S.begin w) := by
  have K := Lib.hid (fun w' (h : D G bd S w') => c10 w' h h0 h1)
  have HD := Lib.hid h
  obtain ⟨bm, es, ck, R, h⟩ := h
  obtain ⟨y0, y1, y2, y3, y4, y5, y6, yf⟩ := h.cells
  have HH := Lib.hid h
  clear h
  unfold ptr at K ⊢
  rcases how_cases S with ⟨_, e⟩ | ⟨e, _, e2, e3⟩ | ⟨e, _, e2⟩
  · rw [hd] at e; cases e
  · have eb : S.begin = S.crash := by simp [Ds.begin, hd, e2, e3]
    rw [e, eb, decide_eq_true rfl]
    have hz : S.fuse = 0 := by omega
    rw [e2] at y4
    rw [hz] at y5
    clear e eb e2 e3
    go_enter Try.func34, Try.ntmps34
    go_wp2_with (go_at_call 10; (refine (K.out _ HD.out).mono ?_); rintro e w2 ⟨rfl, hr⟩; have HR := Lib.hid hr; clear hr)
    go_ret
    exact ⟨rfl, HR.out⟩
  · rw [e, decide_eq_false (by decide)]
    cases hf : S.fused
    · have eb : S.begin = S := by simp [Ds.begin, hd, hf]
      rw [eb]
      rw [hf] at y4
      clear e e2 eb
      go_enter Try.func34, Try.ntmps34
      go_wp2
      go_ret
      exact Did.same HD.out
    · have hp : 0 < S.fuse := by
        rcases e2 with h | h
        · rw [hf] at h; cases h
        · exact h
      have eb : S.begin = { S with fuse := S.fuse - 1 } := by simp [Ds.begin, hd, hf, hp]
      rw [eb]
      rw [hf] at y4
      clear e e2 eb
      go_enter Try.func34, Try.ntmps34
      go_wp2
      go_ret
      refine ⟨rfl, G, fun b h => .inl h, ⟨bm, es, ck, R, HH.out.head rfl ?_ fun b hb => ?_⟩, ?_⟩
      · have h7 := setCell_at (o := 5) (.int .i64 (S.fuse - 1)) HH.out.hd
        simp only [List.setIfInBounds_toArray, List.set_cons_zero, List.set_cons_succ] at h7
        exact h7
      · rw [setCell_ne _ hb]
      · exact Turn.put (Turn.refl _ _) HH.out.gd
end Go.Proofs.DK
