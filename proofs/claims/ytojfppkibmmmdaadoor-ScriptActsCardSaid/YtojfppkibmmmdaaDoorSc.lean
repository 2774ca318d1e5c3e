/- Proved: what the script's 'act' comes to, for each kind; each theorem says its own conditions. -/
import Derived.Test.YtojfppkibmmmdaaDoorSb
import Derived.KernelRfl
set_option linter.unusedVariables false
set_option linter.unusedSimpArgs false
namespace Go.Proofs.SA
open Go.RowKit
/-- An act in plain words: the field by half of its byte, the pattern by its number. -/
structure PA where
  kind : Nat
  who : Nat
  nn : Nat
  kk : Nat
  topic : Nat
  fld : Option Nat
  pat : Option Nat
  byt : List Nat
  keep : List Nat
def B (l : List Nat) : List Value := l.map fun (x : Nat) => Value.int .u8 (x : Int)
theorem B_len (l : List Nat) : (B l).length = l.length := by simp [B]
abbrev Pats := (Nat → Prop) → Nat → World → Value → Value → Prop
def PatIs (PP : Pats) (ok : Nat → Prop) (W : World) (v6 v7 : Value) : Option Nat → Prop
  | none => v6 = .slice none 0 0 ∧ v7 = .int .u64 0
  | some j => (∃ a l c m, v6 = .slice a l c ∧ v7 = .int .u64 m) ∧ PP ok j W v6 v7
def BytIs (ok : Nat → Prop) (W : World) (v : Value) (l : List Nat) : Prop := (∃ c, v = .slice none 0 c ∧ l = []) ∨ ∃ b o cap, v = .slice (some ⟨b, o, none⟩) l.length cap ∧ (0 < l.length → ok b ∧ b < W.heap.size) ∧ ∀ (j : Nat) (x : Value), (B l)[j]? = some x → W.cell? ((⟨b, o, none⟩ : Addr).add j) = some x
def KeepIs (ok : Nat → Prop) (W : World) (v : Value) (l : List Nat) : Prop := (l = [] ∧ v = .slice none 0 0) ∨ ∃ a b c k : Nat, l = [a, b, c] ∧ v = .slice (some ⟨k, 0, none⟩) 3 3 ∧ ok k ∧ k < W.heap.size ∧ W.cell? ⟨k, 0, none⟩ = some (.int .i64 a) ∧ W.cell? ⟨k, 1, none⟩ = some (.int .i64 b) ∧ W.cell? ⟨k, 2, none⟩ = some (.int .i64 c)
structure Still (PP : Pats) : Prop where
  mono : ∀ ok j W W' v6 v7, PP ok j W v6 v7 → Go.Ai.Keeps ok W W' → PP ok j W' v6 v7
  weaken : ∀ ok ok' j W v6 v7, PP ok j W v6 v7 → (∀ b, b < W.heap.size → ok b → ok' b) → PP ok' j W v6 v7
section
variable {PP : Pats} {ok ok' : Nat → Prop} {W W' : World}
theorem PatIs.mono (hP : Still PP) {v6 v7 : Value} {o : Option Nat} (h : PatIs PP ok W v6 v7 o) (hB : Go.Ai.Keeps ok W W') : PatIs PP ok W' v6 v7 o := by
  cases o with
  | none => exact h
  | some j => exact ⟨h.1, hP.mono _ _ _ _ _ _ h.2 hB⟩
theorem PatIs.weaken (hP : Still PP) {v6 v7 : Value} {o : Option Nat} (h : PatIs PP ok W v6 v7 o) (hl : ∀ b, b < W.heap.size → ok b → ok' b) : PatIs PP ok' W v6 v7 o := by
  cases o with
  | none => exact h
  | some j => exact ⟨h.1, hP.weaken _ _ _ _ _ _ h.2 hl⟩
theorem PatIs.form {v6 v7 : Value} {o : Option Nat} (h : PatIs PP ok W v6 v7 o) : ∃ a l c m, v6 = .slice a l c ∧ v7 = .int .u64 m := by
  cases o with
  | none => exact ⟨_, _, _, _, h.1, h.2⟩
  | some j => exact h.1
theorem BytIs.mono {v : Value} {l : List Nat} (h : BytIs ok W v l) (hB : Go.Ai.Keeps ok W W') : BytIs ok W' v l := by
  rcases h with h | ⟨b, o, cap, rfl, h1, h2⟩
  · exact .inl h
  · refine .inr ⟨b, o, cap, rfl, fun hp => ⟨(h1 hp).1, Nat.lt_of_lt_of_le (h1 hp).2 hB.1⟩, fun j x hx => ?_⟩
    have hj : j < (B l).length := (List.getElem?_eq_some_iff.1 hx).1
    rw [B_len] at hj
    have := h2 j x hx
    rw [Addr.add_lit] at this ⊢
    exact (hB.cell (h1 (by omega)).2 (h1 (by omega)).1 _).trans this
theorem BytIs.weaken {v : Value} {l : List Nat} (h : BytIs ok W v l) (hl : ∀ b, b < W.heap.size → ok b → ok' b) : BytIs ok' W v l := by
  rcases h with h | ⟨b, o, cap, rfl, h1, h2⟩
  · exact .inl h
  · exact .inr ⟨b, o, cap, rfl, fun hp => ⟨hl _ (h1 hp).2 (h1 hp).1, (h1 hp).2⟩, h2⟩
theorem BytIs.slice {v : Value} {l : List Nat} (h : BytIs ok W v l) : ∃ a n c, v = .slice a n c := by
  rcases h with ⟨c, rfl, _⟩ | ⟨b, o, cap, rfl, _⟩ <;> exact ⟨_, _, _, rfl⟩
theorem KeepIs.mono {v : Value} {l : List Nat} (h : KeepIs ok W v l) (hB : Go.Ai.Keeps ok W W') : KeepIs ok W' v l := by
  rcases h with h | ⟨a, b, c, k, rfl, rfl, ho, hk, h0, h1, h2⟩
  · exact .inl h
  · exact .inr ⟨a, b, c, k, rfl, rfl, ho, Nat.lt_of_lt_of_le hk hB.1, (hB.cell hk ho _).trans h0, (hB.cell hk ho _).trans h1, (hB.cell hk ho _).trans h2⟩
theorem KeepIs.weaken {v : Value} {l : List Nat} (h : KeepIs ok W v l) (hl : ∀ b, b < W.heap.size → ok b → ok' b) : KeepIs ok' W v l := by
  rcases h with h | ⟨a, b, c, k, rfl, rfl, ho, hk, h0⟩
  · exact .inl h
  · exact .inr ⟨a, b, c, k, rfl, rfl, hl _ hk ho, hk, h0⟩
theorem KeepIs.slice {v : Value} {l : List Nat} (h : KeepIs ok W v l) : ∃ a n c, v = .slice a n c := by
  rcases h with ⟨_, rfl⟩ | ⟨a, b, c, k, _, rfl, _⟩ <;> exact ⟨_, _, _, rfl⟩
end
def heads (a : PA) (v5 v6 v7 v8 v9 : Value) : List Value := [.int .u8 (a.kind : Int), .int .u32 (a.who : Int), .int .u32 (a.nn : Int), .int .u32 (a.kk : Int), .int .u8 (a.topic : Int), v5, v6, v7, v8, v9]
def ActIs (PP : Pats) (ok : Nat → Prop) (W : World) (cs : List Value) (a : PA) : Prop := ∃ v5 v6 v7 v8 v9, cs = heads a v5 v6 v7 v8 v9 ∧ FldIs ok W v5 a.fld ∧ PatIs PP ok W v6 v7 a.pat ∧ BytIs ok W v8 a.byt ∧ KeepIs ok W v9 a.keep
theorem ActIs.mono {PP : Pats} (hP : Still PP) {ok : Nat → Prop} {W W' : World} {cs : List Value} {a : PA} (h : ActIs PP ok W cs a) (hB : Go.Ai.Keeps ok W W') : ActIs PP ok W' cs a := by
  obtain ⟨v5, v6, v7, v8, v9, e, h1, h2, h3, h4⟩ := h
  exact ⟨v5, v6, v7, v8, v9, e, h1.mono hB, h2.mono hP hB, h3.mono hB, h4.mono hB⟩
theorem ActIs.weaken {PP : Pats} (hP : Still PP) {ok ok' : Nat → Prop} {W : World} {cs : List Value} {a : PA} (h : ActIs PP ok W cs a) (hl : ∀ b, b < W.heap.size → ok b → ok' b) : ActIs PP ok' W cs a := by
  obtain ⟨v5, v6, v7, v8, v9, e, h1, h2, h3, h4⟩ := h
  exact ⟨v5, v6, v7, v8, v9, e, h1.weaken hl, h2.weaken hP hl, h3.weaken hl, h4.weaken hl⟩
/-- The act of a kind and of three bytes; the bytes of a raw one come later. -/
def actC (c w n x : Nat) : PA where
  kind := c
  who := w
  nn := if c = 3 ∨ c = 13 then n % 8 else if c = 7 ∨ c = 12 then n else 0
  kk := if c = 4 ∨ c = 5 ∨ c = 6 then n else if c = 7 then x else 0
  topic := if c = 1 then n % 4 else 0
  fld := if c = 1 then fldOf x else none
  pat := if c = 2 then some (n % 32) else none
  byt := []
  keep := if c = 9 then [n, x, n + x] else []
theorem keeps_set {ok : Nat → Prop} {W W' : World} (h : Go.Ai.Keeps ok W W') {p : Addr} (hp : ¬ ok p.block) (u : Value) : Go.Ai.Keeps ok W (W'.setCell p u) :=
  ⟨by rw [World.size_setCell]; exact h.1, fun b hb ho => (Below.heap_setCell _ _ _ _ (fun e => hp (e ▸ ho))).trans (h.2 b hb ho)⟩
theorem blk_cells {W w2 : World} {c : Array Value} {t : TypeId} {o : Obj} (hB : Below ((W.alloc (.cells c t)).alloc o).heap.size ((W.alloc (.cells c t)).alloc o) w2) (j : Nat) : w2.cell? ⟨W.heap.size, j, none⟩ = c[j]? := by
  rw [(bcell hB).1 _ _ (by simp; omega)]
  have h1 : (W.alloc (.cells c t)).heap[W.heap.size]? = some (.cells c t) := heap_alloc_new W _
  have h2 : ((W.alloc (.cells c t)).alloc o).heap[W.heap.size]? = some (.cells c t) := (((Below.refl _ (W.alloc (.cells c t))).alloc (Nat.le_refl _) o).block _ (by simp)).trans h1
  exact cell_of_heap h2 j
def ActOut (PP : Pats) (a : PA) (w : World) (e : Ending) (w' : World) : Prop := ∃ cs : List Value, e = .returned (.agg cs.toArray) ∧ ActIs PP (w.heap.size ≤ ·) w' cs a ∧ Below w.heap.size w w'
def PatGot (PP : Pats) (j : Nat) (w : World) (e : Ending) (w' : World) : Prop := ∃ a l c m, e = .returned (.agg #[.slice a l c, .int .u64 m]) ∧ PP (w.heap.size ≤ ·) j w' (.slice a l c) (.int .u64 m) ∧ Below w.heap.size w w'
theorem tab_mono {w w' : World} (h : Tab w) (h0 : 0 < w.heap.size) (hB : Below w.heap.size w w') : Tab w' := fun i v e => ((bcell hB).1 _ _ h0).trans (h i v e)
theorem byt_none (ok : Nat → Prop) (W : World) : BytIs ok W (.slice none 0 0) [] := .inl ⟨0, rfl, rfl⟩
theorem keep_none (ok : Nat → Prop) (W : World) : KeepIs ok W (.slice none 0 0) [] := .inl ⟨rfl, rfl⟩
theorem keep_new {ok : Nat → Prop} {W' W : World} {o : Obj} (a b c k : Nat) (ho : ok k) (hk : k = W.heap.size) (hW : W' = W.alloc o) (h : o = .cells #[.int .i64 a, .int .i64 b, .int .i64 c] 3) : KeepIs ok W' (.slice (some ⟨k, 0, none⟩) 3 3) [a, b, c] := by
  subst hk hW h
  have e := cell_of_heap (fz := (0, 0)) (heap_alloc_new W (.cells #[.int .i64 (a : Int), .int .i64 (b : Int), .int .i64 (c : Int)] 3))
  exact .inr ⟨a, b, c, _, rfl, rfl, ho, by simp, e 0, e 1, e 2⟩
theorem act_end {PP : Pats} {a : PA} {w w' : World} {u0 u1 u2 u3 u4 : Int} {v5 v6 v7 v8 v9 : Value} (h0 : u0 = (a.kind : Int)) (h1 : u1 = (a.who : Int)) (h2 : u2 = (a.nn : Int)) (h3 : u3 = (a.kk : Int)) (h4 : u4 = (a.topic : Int)) (h5 : FldIs (w.heap.size ≤ ·) w' v5 a.fld) (h6 : PatIs PP (w.heap.size ≤ ·) w' v6 v7 a.pat) (h8 : BytIs (w.heap.size ≤ ·) w' v8 a.byt) (h9 : KeepIs (w.heap.size ≤ ·) w' v9 a.keep) (hB : Below w.heap.size w w') :
    ActOut PP a w (.returned (.agg #[.int .u8 u0, .int .u32 u1, .int .u32 u2, .int .u32 u3, .int .u8 u4, v5, v6, v7, v8, v9])) w' := by
  subst h0 h1 h2 h3 h4
  exact ⟨_, rfl, ⟨v5, v6, v7, v8, v9, rfl, h5, h6, h8, h9⟩, hB⟩
set_option maxRecDepth 100000 in
set_option maxHeartbeats 1000000 in
theorem c19_1 (PP : Pats) (HS : Still PP) (k w n x : Nat) (W : World) (hk : k < 256) (hw : w < 256) (hn : n < 256) (hx : x < 256) (C36 : ∀ W', Below W.heap.size W W' → Calls Tryd.prog 36 #[.int .u8 k] W' fun e w' => e = .returned (.int .u8 ((1 : Nat) : Int)) ∧ W' = w')
    (C13 : ∀ W', Calls Tryd.prog 13 #[.int .u8 n] W' (PatGot PP (n % 32) W')) : Calls Tryd.prog 19 #[.int .u8 k, .int .u8 w, .int .u8 n, .int .u8 x] W (ActOut PP (actC 1 w n x) W) := by
  have C36' := C36 (W.alloc (.cells #[.int .u8 0, .int .u32 0, .int .u32 0, .int .u32 0, .int .u8 0, .slice none 0 0, .slice none 0 0, .int .u64 0, .slice none 0 0, .slice none 0 0] 36)) ((Below.refl _ _).alloc (Nat.le_refl _) _)
  have C37 := fun W' => c37 n x W' hn hx
  clear C36
  go_enter Tryd.func19, Tryd.ntmps19
  go_wp2_with (first
    | (go_at_call 36; refine C36'.mono ?_; rintro e w1 ⟨rfl, rfl⟩)
    | (go_at_call 37; refine (C37 _).mono ?_; rintro e w2 ⟨v, rfl, hf, hB⟩; obtain ⟨p5, l5, m5, rfl⟩ := hf.slice; obtain ⟨hc, hz⟩ := bcell hB; have hs : W.heap.size + 1 < w2.heap.size := (by have := hB.size; simp at this; omega))
    | (go_at_call 13; refine (C13 _).mono ?_; rintro e w2 ⟨a, l, c, m, rfl, hp, hB⟩; obtain ⟨hc, hz⟩ := bcell hB; have hs : W.heap.size + 1 < w2.heap.size := (by have := hB.size; simp at this; omega)))
  exact bodyPost_ret (v := .agg #[.int .u8 1, .int .u32 (w : Int), .int .u32 0, .int .u32 0, .int .u8 ((n : Int) % 4), .slice p5 l5 m5, .slice none 0 0, .int .u64 0, .slice none 0 0, .slice none 0 0]) (by simp [results, Tryd.results19, go_sem, blk_cells hB, hc, hz]) rfl (act_end rfl rfl (by simp [actC]) (by simp [actC]) (by simp [actC]) ((FldIs.mono (FldIs.weaken hf (fun b hb ho => by simp at ho; show W.heap.size + 1 < b; omega)) (keeps_set (keeps_set (keeps_set (keeps_set (keeps_set (keeps_set (keeps_set (keeps_set (keeps_set (keeps_set (keeps_set (keeps_set (Go.Ai.Keeps.refl _ w2) (by simp <;> omega) _) (by simp <;> omega) _) (by simp <;> omega) _) (by simp <;> omega) _) (by simp <;> omega) _) (by simp <;> omega) _) (by simp <;> omega) _) (by simp <;> omega) _) (by simp <;> omega) _) (by simp <;> omega) _) (by simp <;> omega) _) (by simp <;> omega) _)).weaken (fun b hb ho => by have : W.heap.size + 1 < b := ho; show W.heap.size ≤ b; omega)) (⟨rfl, rfl⟩) (byt_none _ _) (keep_none _ _) (((((((((((((((b2 W _ _).trans (hB.mono (by simp; omega))).setCell (by simp; try omega) _).setCell (by simp; try omega) _).setCell (by simp; try omega) _).setCell (by simp; try omega) _).setCell (by simp; try omega) _).setCell (by simp; try omega) _).setCell (by simp; try omega) _).setCell (by simp; try omega) _).setCell (by simp; try omega) _).setCell (by simp; try omega) _).setCell (by simp; try omega) _).setCell (by simp; try omega) _)))
set_option maxRecDepth 100000 in
set_option maxHeartbeats 1000000 in
theorem c19_2 (PP : Pats) (HS : Still PP) (k w n x : Nat) (W : World) (hk : k < 256) (hw : w < 256) (hn : n < 256) (hx : x < 256) (C36 : ∀ W', Below W.heap.size W W' → Calls Tryd.prog 36 #[.int .u8 k] W' fun e w' => e = .returned (.int .u8 ((2 : Nat) : Int)) ∧ W' = w')
    (C13 : ∀ W', Calls Tryd.prog 13 #[.int .u8 n] W' (PatGot PP (n % 32) W')) : Calls Tryd.prog 19 #[.int .u8 k, .int .u8 w, .int .u8 n, .int .u8 x] W (ActOut PP (actC 2 w n x) W) := by
  have C36' := C36 (W.alloc (.cells #[.int .u8 0, .int .u32 0, .int .u32 0, .int .u32 0, .int .u8 0, .slice none 0 0, .slice none 0 0, .int .u64 0, .slice none 0 0, .slice none 0 0] 36)) ((Below.refl _ _).alloc (Nat.le_refl _) _)
  have C37 := fun W' => c37 n x W' hn hx
  clear C36
  go_enter Tryd.func19, Tryd.ntmps19
  go_wp2_with (first
    | (go_at_call 36; refine C36'.mono ?_; rintro e w1 ⟨rfl, rfl⟩)
    | (go_at_call 37; refine (C37 _).mono ?_; rintro e w2 ⟨v, rfl, hf, hB⟩; obtain ⟨p5, l5, m5, rfl⟩ := hf.slice; obtain ⟨hc, hz⟩ := bcell hB; have hs : W.heap.size + 1 < w2.heap.size := (by have := hB.size; simp at this; omega))
    | (go_at_call 13; refine (C13 _).mono ?_; rintro e w2 ⟨a, l, c, m, rfl, hp, hB⟩; obtain ⟨hc, hz⟩ := bcell hB; have hs : W.heap.size + 1 < w2.heap.size := (by have := hB.size; simp at this; omega)))
  exact bodyPost_ret (v := .agg #[.int .u8 2, .int .u32 (w : Int), .int .u32 0, .int .u32 0, .int .u8 0, .slice none 0 0, .slice a l c, .int .u64 m, .slice none 0 0, .slice none 0 0]) (by simp [results, Tryd.results19, go_sem, blk_cells hB, hc, hz]) rfl (act_end rfl rfl (by simp [actC]) (by simp [actC]) (by simp [actC]) (rfl) (⟨⟨_, _, _, _, rfl, rfl⟩, HS.weaken _ _ _ _ _ _ (HS.mono _ _ _ _ _ _ (HS.weaken _ (W.heap.size + 1 < ·) _ _ _ _ hp (fun b hb ho => by simp at ho; show W.heap.size + 1 < b; omega)) (keeps_set (keeps_set (keeps_set (keeps_set (keeps_set (keeps_set (keeps_set (keeps_set (keeps_set (keeps_set (keeps_set (keeps_set (Go.Ai.Keeps.refl _ w2) (by simp <;> omega) _) (by simp <;> omega) _) (by simp <;> omega) _) (by simp <;> omega) _) (by simp <;> omega) _) (by simp <;> omega) _) (by simp <;> omega) _) (by simp <;> omega) _) (by simp <;> omega) _) (by simp <;> omega) _) (by simp <;> omega) _) (by simp <;> omega) _)) (fun b hb ho => by have : W.heap.size + 1 < b := ho; show W.heap.size ≤ b; omega)⟩) (byt_none _ _) (keep_none _ _) (((((((((((((((b2 W _ _).trans (hB.mono (by simp; omega))).setCell (by simp; try omega) _).setCell (by simp; try omega) _).setCell (by simp; try omega) _).setCell (by simp; try omega) _).setCell (by simp; try omega) _).setCell (by simp; try omega) _).setCell (by simp; try omega) _).setCell (by simp; try omega) _).setCell (by simp; try omega) _).setCell (by simp; try omega) _).setCell (by simp; try omega) _).setCell (by simp; try omega) _)))
set_option maxRecDepth 100000 in
set_option maxHeartbeats 1000000 in
theorem c19_3 (PP : Pats) (HS : Still PP) (k w n x : Nat) (W : World) (hk : k < 256) (hw : w < 256) (hn : n < 256) (hx : x < 256) (C36 : ∀ W', Below W.heap.size W W' → Calls Tryd.prog 36 #[.int .u8 k] W' fun e w' => e = .returned (.int .u8 ((3 : Nat) : Int)) ∧ W' = w')
    (C13 : ∀ W', Calls Tryd.prog 13 #[.int .u8 n] W' (PatGot PP (n % 32) W')) : Calls Tryd.prog 19 #[.int .u8 k, .int .u8 w, .int .u8 n, .int .u8 x] W (ActOut PP (actC 3 w n x) W) := by
  have C36' := C36 (W.alloc (.cells #[.int .u8 0, .int .u32 0, .int .u32 0, .int .u32 0, .int .u8 0, .slice none 0 0, .slice none 0 0, .int .u64 0, .slice none 0 0, .slice none 0 0] 36)) ((Below.refl _ _).alloc (Nat.le_refl _) _)
  have C37 := fun W' => c37 n x W' hn hx
  clear C36
  go_enter Tryd.func19, Tryd.ntmps19
  go_wp2_with (first
    | (go_at_call 36; refine C36'.mono ?_; rintro e w1 ⟨rfl, rfl⟩)
    | (go_at_call 37; refine (C37 _).mono ?_; rintro e w2 ⟨v, rfl, hf, hB⟩; obtain ⟨p5, l5, m5, rfl⟩ := hf.slice; obtain ⟨hc, hz⟩ := bcell hB; have hs : W.heap.size + 1 < w2.heap.size := (by have := hB.size; simp at this; omega))
    | (go_at_call 13; refine (C13 _).mono ?_; rintro e w2 ⟨a, l, c, m, rfl, hp, hB⟩; obtain ⟨hc, hz⟩ := bcell hB; have hs : W.heap.size + 1 < w2.heap.size := (by have := hB.size; simp at this; omega)))
  exact bodyPost_ret (v := .agg #[.int .u8 3, .int .u32 (w : Int), .int .u32 ((n : Int) % 8), .int .u32 0, .int .u8 0, .slice none 0 0, .slice none 0 0, .int .u64 0, .slice none 0 0, .slice none 0 0]) (by simp [results, Tryd.results19, go_sem]) rfl (act_end rfl rfl (by simp [actC]) (by simp [actC]) (by simp [actC]) (rfl) (⟨rfl, rfl⟩) (byt_none _ _) (keep_none _ _) (b2 _ _ _))
set_option maxRecDepth 100000 in
set_option maxHeartbeats 1000000 in
theorem c19_4 (PP : Pats) (HS : Still PP) (k w n x : Nat) (W : World) (hk : k < 256) (hw : w < 256) (hn : n < 256) (hx : x < 256) (C36 : ∀ W', Below W.heap.size W W' → Calls Tryd.prog 36 #[.int .u8 k] W' fun e w' => e = .returned (.int .u8 ((4 : Nat) : Int)) ∧ W' = w')
    (C13 : ∀ W', Calls Tryd.prog 13 #[.int .u8 n] W' (PatGot PP (n % 32) W')) : Calls Tryd.prog 19 #[.int .u8 k, .int .u8 w, .int .u8 n, .int .u8 x] W (ActOut PP (actC 4 w n x) W) := by
  have C36' := C36 (W.alloc (.cells #[.int .u8 0, .int .u32 0, .int .u32 0, .int .u32 0, .int .u8 0, .slice none 0 0, .slice none 0 0, .int .u64 0, .slice none 0 0, .slice none 0 0] 36)) ((Below.refl _ _).alloc (Nat.le_refl _) _)
  have C37 := fun W' => c37 n x W' hn hx
  clear C36
  go_enter Tryd.func19, Tryd.ntmps19
  go_wp2_with (first
    | (go_at_call 36; refine C36'.mono ?_; rintro e w1 ⟨rfl, rfl⟩)
    | (go_at_call 37; refine (C37 _).mono ?_; rintro e w2 ⟨v, rfl, hf, hB⟩; obtain ⟨p5, l5, m5, rfl⟩ := hf.slice; obtain ⟨hc, hz⟩ := bcell hB; have hs : W.heap.size + 1 < w2.heap.size := (by have := hB.size; simp at this; omega))
    | (go_at_call 13; refine (C13 _).mono ?_; rintro e w2 ⟨a, l, c, m, rfl, hp, hB⟩; obtain ⟨hc, hz⟩ := bcell hB; have hs : W.heap.size + 1 < w2.heap.size := (by have := hB.size; simp at this; omega)))
  exact bodyPost_ret (v := .agg #[.int .u8 4, .int .u32 (w : Int), .int .u32 0, .int .u32 (n : Int), .int .u8 0, .slice none 0 0, .slice none 0 0, .int .u64 0, .slice none 0 0, .slice none 0 0]) (by simp [results, Tryd.results19, go_sem]) rfl (act_end rfl rfl (by simp [actC]) (by simp [actC]) (by simp [actC]) (rfl) (⟨rfl, rfl⟩) (byt_none _ _) (keep_none _ _) (b2 _ _ _))
set_option maxRecDepth 100000 in
set_option maxHeartbeats 1000000 in
theorem c19_5 (PP : Pats) (HS : Still PP) (k w n x : Nat) (W : World) (hk : k < 256) (hw : w < 256) (hn : n < 256) (hx : x < 256) (C36 : ∀ W', Below W.heap.size W W' → Calls Tryd.prog 36 #[.int .u8 k] W' fun e w' => e = .returned (.int .u8 ((5 : Nat) : Int)) ∧ W' = w')
    (C13 : ∀ W', Calls Tryd.prog 13 #[.int .u8 n] W' (PatGot PP (n % 32) W')) : Calls Tryd.prog 19 #[.int .u8 k, .int .u8 w, .int .u8 n, .int .u8 x] W (ActOut PP (actC 5 w n x) W) := by
  have C36' := C36 (W.alloc (.cells #[.int .u8 0, .int .u32 0, .int .u32 0, .int .u32 0, .int .u8 0, .slice none 0 0, .slice none 0 0, .int .u64 0, .slice none 0 0, .slice none 0 0] 36)) ((Below.refl _ _).alloc (Nat.le_refl _) _)
  have C37 := fun W' => c37 n x W' hn hx
  clear C36
  go_enter Tryd.func19, Tryd.ntmps19
  go_wp2_with (first
    | (go_at_call 36; refine C36'.mono ?_; rintro e w1 ⟨rfl, rfl⟩)
    | (go_at_call 37; refine (C37 _).mono ?_; rintro e w2 ⟨v, rfl, hf, hB⟩; obtain ⟨p5, l5, m5, rfl⟩ := hf.slice; obtain ⟨hc, hz⟩ := bcell hB; have hs : W.heap.size + 1 < w2.heap.size := (by have := hB.size; simp at this; omega))
    | (go_at_call 13; refine (C13 _).mono ?_; rintro e w2 ⟨a, l, c, m, rfl, hp, hB⟩; obtain ⟨hc, hz⟩ := bcell hB; have hs : W.heap.size + 1 < w2.heap.size := (by have := hB.size; simp at this; omega)))
  exact bodyPost_ret (v := .agg #[.int .u8 5, .int .u32 (w : Int), .int .u32 0, .int .u32 (n : Int), .int .u8 0, .slice none 0 0, .slice none 0 0, .int .u64 0, .slice none 0 0, .slice none 0 0]) (by simp [results, Tryd.results19, go_sem]) rfl (act_end rfl rfl (by simp [actC]) (by simp [actC]) (by simp [actC]) (rfl) (⟨rfl, rfl⟩) (byt_none _ _) (keep_none _ _) (b2 _ _ _))
set_option maxRecDepth 100000 in
set_option maxHeartbeats 1000000 in
theorem c19_6 (PP : Pats) (HS : Still PP) (k w n x : Nat) (W : World) (hk : k < 256) (hw : w < 256) (hn : n < 256) (hx : x < 256) (C36 : ∀ W', Below W.heap.size W W' → Calls Tryd.prog 36 #[.int .u8 k] W' fun e w' => e = .returned (.int .u8 ((6 : Nat) : Int)) ∧ W' = w')
    (C13 : ∀ W', Calls Tryd.prog 13 #[.int .u8 n] W' (PatGot PP (n % 32) W')) : Calls Tryd.prog 19 #[.int .u8 k, .int .u8 w, .int .u8 n, .int .u8 x] W (ActOut PP (actC 6 w n x) W) := by
  have C36' := C36 (W.alloc (.cells #[.int .u8 0, .int .u32 0, .int .u32 0, .int .u32 0, .int .u8 0, .slice none 0 0, .slice none 0 0, .int .u64 0, .slice none 0 0, .slice none 0 0] 36)) ((Below.refl _ _).alloc (Nat.le_refl _) _)
  have C37 := fun W' => c37 n x W' hn hx
  clear C36
  go_enter Tryd.func19, Tryd.ntmps19
  go_wp2_with (first
    | (go_at_call 36; refine C36'.mono ?_; rintro e w1 ⟨rfl, rfl⟩)
    | (go_at_call 37; refine (C37 _).mono ?_; rintro e w2 ⟨v, rfl, hf, hB⟩; obtain ⟨p5, l5, m5, rfl⟩ := hf.slice; obtain ⟨hc, hz⟩ := bcell hB; have hs : W.heap.size + 1 < w2.heap.size := (by have := hB.size; simp at this; omega))
    | (go_at_call 13; refine (C13 _).mono ?_; rintro e w2 ⟨a, l, c, m, rfl, hp, hB⟩; obtain ⟨hc, hz⟩ := bcell hB; have hs : W.heap.size + 1 < w2.heap.size := (by have := hB.size; simp at this; omega)))
  exact bodyPost_ret (v := .agg #[.int .u8 6, .int .u32 (w : Int), .int .u32 0, .int .u32 (n : Int), .int .u8 0, .slice none 0 0, .slice none 0 0, .int .u64 0, .slice none 0 0, .slice none 0 0]) (by simp [results, Tryd.results19, go_sem]) rfl (act_end rfl rfl (by simp [actC]) (by simp [actC]) (by simp [actC]) (rfl) (⟨rfl, rfl⟩) (byt_none _ _) (keep_none _ _) (b2 _ _ _))
set_option maxRecDepth 100000 in
set_option maxHeartbeats 1000000 in
theorem c19_7 (PP : Pats) (HS : Still PP) (k w n x : Nat) (W : World) (hk : k < 256) (hw : w < 256) (hn : n < 256) (hx : x < 256) (C36 : ∀ W', Below W.heap.size W W' → Calls Tryd.prog 36 #[.int .u8 k] W' fun e w' => e = .returned (.int .u8 ((7 : Nat) : Int)) ∧ W' = w')
    (C13 : ∀ W', Calls Tryd.prog 13 #[.int .u8 n] W' (PatGot PP (n % 32) W')) : Calls Tryd.prog 19 #[.int .u8 k, .int .u8 w, .int .u8 n, .int .u8 x] W (ActOut PP (actC 7 w n x) W) := by
  have C36' := C36 (W.alloc (.cells #[.int .u8 0, .int .u32 0, .int .u32 0, .int .u32 0, .int .u8 0, .slice none 0 0, .slice none 0 0, .int .u64 0, .slice none 0 0, .slice none 0 0] 36)) ((Below.refl _ _).alloc (Nat.le_refl _) _)
  have C37 := fun W' => c37 n x W' hn hx
  clear C36
  go_enter Tryd.func19, Tryd.ntmps19
  go_wp2_with (first
    | (go_at_call 36; refine C36'.mono ?_; rintro e w1 ⟨rfl, rfl⟩)
    | (go_at_call 37; refine (C37 _).mono ?_; rintro e w2 ⟨v, rfl, hf, hB⟩; obtain ⟨p5, l5, m5, rfl⟩ := hf.slice; obtain ⟨hc, hz⟩ := bcell hB; have hs : W.heap.size + 1 < w2.heap.size := (by have := hB.size; simp at this; omega))
    | (go_at_call 13; refine (C13 _).mono ?_; rintro e w2 ⟨a, l, c, m, rfl, hp, hB⟩; obtain ⟨hc, hz⟩ := bcell hB; have hs : W.heap.size + 1 < w2.heap.size := (by have := hB.size; simp at this; omega)))
  exact bodyPost_ret (v := .agg #[.int .u8 7, .int .u32 (w : Int), .int .u32 (n : Int), .int .u32 (x : Int), .int .u8 0, .slice none 0 0, .slice none 0 0, .int .u64 0, .slice none 0 0, .slice none 0 0]) (by simp [results, Tryd.results19, go_sem]) rfl (act_end rfl rfl (by simp [actC]) (by simp [actC]) (by simp [actC]) (rfl) (⟨rfl, rfl⟩) (byt_none _ _) (keep_none _ _) (b2 _ _ _))
set_option maxRecDepth 100000 in
set_option maxHeartbeats 1000000 in
theorem c19_8 (PP : Pats) (HS : Still PP) (k w n x : Nat) (W : World) (hk : k < 256) (hw : w < 256) (hn : n < 256) (hx : x < 256) (C36 : ∀ W', Below W.heap.size W W' → Calls Tryd.prog 36 #[.int .u8 k] W' fun e w' => e = .returned (.int .u8 ((8 : Nat) : Int)) ∧ W' = w')
    (C13 : ∀ W', Calls Tryd.prog 13 #[.int .u8 n] W' (PatGot PP (n % 32) W')) : Calls Tryd.prog 19 #[.int .u8 k, .int .u8 w, .int .u8 n, .int .u8 x] W (ActOut PP (actC 8 w n x) W) := by
  have C36' := C36 (W.alloc (.cells #[.int .u8 0, .int .u32 0, .int .u32 0, .int .u32 0, .int .u8 0, .slice none 0 0, .slice none 0 0, .int .u64 0, .slice none 0 0, .slice none 0 0] 36)) ((Below.refl _ _).alloc (Nat.le_refl _) _)
  have C37 := fun W' => c37 n x W' hn hx
  clear C36
  go_enter Tryd.func19, Tryd.ntmps19
  go_wp2_with (first
    | (go_at_call 36; refine C36'.mono ?_; rintro e w1 ⟨rfl, rfl⟩)
    | (go_at_call 37; refine (C37 _).mono ?_; rintro e w2 ⟨v, rfl, hf, hB⟩; obtain ⟨p5, l5, m5, rfl⟩ := hf.slice; obtain ⟨hc, hz⟩ := bcell hB; have hs : W.heap.size + 1 < w2.heap.size := (by have := hB.size; simp at this; omega))
    | (go_at_call 13; refine (C13 _).mono ?_; rintro e w2 ⟨a, l, c, m, rfl, hp, hB⟩; obtain ⟨hc, hz⟩ := bcell hB; have hs : W.heap.size + 1 < w2.heap.size := (by have := hB.size; simp at this; omega)))
  exact bodyPost_ret (v := .agg #[.int .u8 8, .int .u32 (w : Int), .int .u32 0, .int .u32 0, .int .u8 0, .slice none 0 0, .slice none 0 0, .int .u64 0, .slice none 0 0, .slice none 0 0]) (by simp [results, Tryd.results19, go_sem]) rfl (act_end rfl rfl (by simp [actC]) (by simp [actC]) (by simp [actC]) (rfl) (⟨rfl, rfl⟩) (byt_none _ _) (keep_none _ _) (b2 _ _ _))
set_option maxRecDepth 100000 in
set_option maxHeartbeats 1000000 in
theorem c19_9 (PP : Pats) (HS : Still PP) (k w n x : Nat) (W : World) (hk : k < 256) (hw : w < 256) (hn : n < 256) (hx : x < 256) (C36 : ∀ W', Below W.heap.size W W' → Calls Tryd.prog 36 #[.int .u8 k] W' fun e w' => e = .returned (.int .u8 ((9 : Nat) : Int)) ∧ W' = w')
    (C13 : ∀ W', Calls Tryd.prog 13 #[.int .u8 n] W' (PatGot PP (n % 32) W')) : Calls Tryd.prog 19 #[.int .u8 k, .int .u8 w, .int .u8 n, .int .u8 x] W (ActOut PP (actC 9 w n x) W) := by
  have C36' := C36 (W.alloc (.cells #[.int .u8 0, .int .u32 0, .int .u32 0, .int .u32 0, .int .u8 0, .slice none 0 0, .slice none 0 0, .int .u64 0, .slice none 0 0, .slice none 0 0] 36)) ((Below.refl _ _).alloc (Nat.le_refl _) _)
  have C37 := fun W' => c37 n x W' hn hx
  clear C36
  go_enter Tryd.func19, Tryd.ntmps19
  go_wp2_with (first
    | (go_at_call 36; refine C36'.mono ?_; rintro e w1 ⟨rfl, rfl⟩)
    | (go_at_call 37; refine (C37 _).mono ?_; rintro e w2 ⟨v, rfl, hf, hB⟩; obtain ⟨p5, l5, m5, rfl⟩ := hf.slice; obtain ⟨hc, hz⟩ := bcell hB; have hs : W.heap.size + 1 < w2.heap.size := (by have := hB.size; simp at this; omega))
    | (go_at_call 13; refine (C13 _).mono ?_; rintro e w2 ⟨a, l, c, m, rfl, hp, hB⟩; obtain ⟨hc, hz⟩ := bcell hB; have hs : W.heap.size + 1 < w2.heap.size := (by have := hB.size; simp at this; omega)))
  exact bodyPost_ret (v := .agg #[.int .u8 9, .int .u32 (w : Int), .int .u32 0, .int .u32 0, .int .u8 0, .slice none 0 0, .slice none 0 0, .int .u64 0, .slice none 0 0, .slice (some ⟨W.heap.size + 1 + 1, 0, none⟩) 3 3]) (by simp [results, Tryd.results19, go_sem]) rfl (act_end rfl rfl (by simp [actC]) (by simp [actC]) (by simp [actC]) (rfl) (⟨rfl, rfl⟩) (byt_none _ _) (keep_new n x (n + x) _ (by omega) (by simp) rfl (by simp)) (b3 _ _ _ _))
set_option maxRecDepth 100000 in
set_option maxHeartbeats 1000000 in
theorem c19_10 (PP : Pats) (HS : Still PP) (k w n x : Nat) (W : World) (hk : k < 256) (hw : w < 256) (hn : n < 256) (hx : x < 256) (C36 : ∀ W', Below W.heap.size W W' → Calls Tryd.prog 36 #[.int .u8 k] W' fun e w' => e = .returned (.int .u8 ((10 : Nat) : Int)) ∧ W' = w')
    (C13 : ∀ W', Calls Tryd.prog 13 #[.int .u8 n] W' (PatGot PP (n % 32) W')) : Calls Tryd.prog 19 #[.int .u8 k, .int .u8 w, .int .u8 n, .int .u8 x] W (ActOut PP (actC 10 w n x) W) := by
  have C36' := C36 (W.alloc (.cells #[.int .u8 0, .int .u32 0, .int .u32 0, .int .u32 0, .int .u8 0, .slice none 0 0, .slice none 0 0, .int .u64 0, .slice none 0 0, .slice none 0 0] 36)) ((Below.refl _ _).alloc (Nat.le_refl _) _)
  have C37 := fun W' => c37 n x W' hn hx
  clear C36
  go_enter Tryd.func19, Tryd.ntmps19
  go_wp2_with (first
    | (go_at_call 36; refine C36'.mono ?_; rintro e w1 ⟨rfl, rfl⟩)
    | (go_at_call 37; refine (C37 _).mono ?_; rintro e w2 ⟨v, rfl, hf, hB⟩; obtain ⟨p5, l5, m5, rfl⟩ := hf.slice; obtain ⟨hc, hz⟩ := bcell hB; have hs : W.heap.size + 1 < w2.heap.size := (by have := hB.size; simp at this; omega))
    | (go_at_call 13; refine (C13 _).mono ?_; rintro e w2 ⟨a, l, c, m, rfl, hp, hB⟩; obtain ⟨hc, hz⟩ := bcell hB; have hs : W.heap.size + 1 < w2.heap.size := (by have := hB.size; simp at this; omega)))
  exact bodyPost_ret (v := .agg #[.int .u8 10, .int .u32 (w : Int), .int .u32 0, .int .u32 0, .int .u8 0, .slice none 0 0, .slice none 0 0, .int .u64 0, .slice none 0 0, .slice none 0 0]) (by simp [results, Tryd.results19, go_sem]) rfl (act_end rfl rfl (by simp [actC]) (by simp [actC]) (by simp [actC]) (rfl) (⟨rfl, rfl⟩) (byt_none _ _) (keep_none _ _) (b2 _ _ _))
set_option maxRecDepth 100000 in
set_option maxHeartbeats 1000000 in
theorem c19_11 (PP : Pats) (HS : Still PP) (k w n x : Nat) (W : World) (hk : k < 256) (hw : w < 256) (hn : n < 256) (hx : x < 256) (C36 : ∀ W', Below W.heap.size W W' → Calls Tryd.prog 36 #[.int .u8 k] W' fun e w' => e = .returned (.int .u8 ((11 : Nat) : Int)) ∧ W' = w')
    (C13 : ∀ W', Calls Tryd.prog 13 #[.int .u8 n] W' (PatGot PP (n % 32) W')) : Calls Tryd.prog 19 #[.int .u8 k, .int .u8 w, .int .u8 n, .int .u8 x] W (ActOut PP (actC 11 w n x) W) := by
  have C36' := C36 (W.alloc (.cells #[.int .u8 0, .int .u32 0, .int .u32 0, .int .u32 0, .int .u8 0, .slice none 0 0, .slice none 0 0, .int .u64 0, .slice none 0 0, .slice none 0 0] 36)) ((Below.refl _ _).alloc (Nat.le_refl _) _)
  have C37 := fun W' => c37 n x W' hn hx
  clear C36
  go_enter Tryd.func19, Tryd.ntmps19
  go_wp2_with (first
    | (go_at_call 36; refine C36'.mono ?_; rintro e w1 ⟨rfl, rfl⟩)
    | (go_at_call 37; refine (C37 _).mono ?_; rintro e w2 ⟨v, rfl, hf, hB⟩; obtain ⟨p5, l5, m5, rfl⟩ := hf.slice; obtain ⟨hc, hz⟩ := bcell hB; have hs : W.heap.size + 1 < w2.heap.size := (by have := hB.size; simp at this; omega))
    | (go_at_call 13; refine (C13 _).mono ?_; rintro e w2 ⟨a, l, c, m, rfl, hp, hB⟩; obtain ⟨hc, hz⟩ := bcell hB; have hs : W.heap.size + 1 < w2.heap.size := (by have := hB.size; simp at this; omega)))
  exact bodyPost_ret (v := .agg #[.int .u8 11, .int .u32 (w : Int), .int .u32 0, .int .u32 0, .int .u8 0, .slice none 0 0, .slice none 0 0, .int .u64 0, .slice none 0 0, .slice none 0 0]) (by simp [results, Tryd.results19, go_sem]) rfl (act_end rfl rfl (by simp [actC]) (by simp [actC]) (by simp [actC]) (rfl) (⟨rfl, rfl⟩) (byt_none _ _) (keep_none _ _) (b2 _ _ _))
set_option maxRecDepth 100000 in
set_option maxHeartbeats 1000000 in
theorem c19_12 (PP : Pats) (HS : Still PP) (k w n x : Nat) (W : World) (hk : k < 256) (hw : w < 256) (hn : n < 256) (hx : x < 256) (C36 : ∀ W', Below W.heap.size W W' → Calls Tryd.prog 36 #[.int .u8 k] W' fun e w' => e = .returned (.int .u8 ((12 : Nat) : Int)) ∧ W' = w')
    (C13 : ∀ W', Calls Tryd.prog 13 #[.int .u8 n] W' (PatGot PP (n % 32) W')) : Calls Tryd.prog 19 #[.int .u8 k, .int .u8 w, .int .u8 n, .int .u8 x] W (ActOut PP (actC 12 w n x) W) := by
  have C36' := C36 (W.alloc (.cells #[.int .u8 0, .int .u32 0, .int .u32 0, .int .u32 0, .int .u8 0, .slice none 0 0, .slice none 0 0, .int .u64 0, .slice none 0 0, .slice none 0 0] 36)) ((Below.refl _ _).alloc (Nat.le_refl _) _)
  have C37 := fun W' => c37 n x W' hn hx
  clear C36
  go_enter Tryd.func19, Tryd.ntmps19
  go_wp2_with (first
    | (go_at_call 36; refine C36'.mono ?_; rintro e w1 ⟨rfl, rfl⟩)
    | (go_at_call 37; refine (C37 _).mono ?_; rintro e w2 ⟨v, rfl, hf, hB⟩; obtain ⟨p5, l5, m5, rfl⟩ := hf.slice; obtain ⟨hc, hz⟩ := bcell hB; have hs : W.heap.size + 1 < w2.heap.size := (by have := hB.size; simp at this; omega))
    | (go_at_call 13; refine (C13 _).mono ?_; rintro e w2 ⟨a, l, c, m, rfl, hp, hB⟩; obtain ⟨hc, hz⟩ := bcell hB; have hs : W.heap.size + 1 < w2.heap.size := (by have := hB.size; simp at this; omega)))
  exact bodyPost_ret (v := .agg #[.int .u8 12, .int .u32 (w : Int), .int .u32 (n : Int), .int .u32 0, .int .u8 0, .slice none 0 0, .slice none 0 0, .int .u64 0, .slice none 0 0, .slice none 0 0]) (by simp [results, Tryd.results19, go_sem]) rfl (act_end rfl rfl (by simp [actC]) (by simp [actC]) (by simp [actC]) (rfl) (⟨rfl, rfl⟩) (byt_none _ _) (keep_none _ _) (b2 _ _ _))
set_option maxRecDepth 100000 in
set_option maxHeartbeats 1000000 in
theorem c19_13 (PP : Pats) (HS : Still PP) (k w n x : Nat) (W : World) (hk : k < 256) (hw : w < 256) (hn : n < 256) (hx : x < 256) (C36 : ∀ W', Below W.heap.size W W' → Calls Tryd.prog 36 #[.int .u8 k] W' fun e w' => e = .returned (.int .u8 ((13 : Nat) : Int)) ∧ W' = w')
    (C13 : ∀ W', Calls Tryd.prog 13 #[.int .u8 n] W' (PatGot PP (n % 32) W')) : Calls Tryd.prog 19 #[.int .u8 k, .int .u8 w, .int .u8 n, .int .u8 x] W (ActOut PP (actC 13 w n x) W) := by
  have C36' := C36 (W.alloc (.cells #[.int .u8 0, .int .u32 0, .int .u32 0, .int .u32 0, .int .u8 0, .slice none 0 0, .slice none 0 0, .int .u64 0, .slice none 0 0, .slice none 0 0] 36)) ((Below.refl _ _).alloc (Nat.le_refl _) _)
  have C37 := fun W' => c37 n x W' hn hx
  clear C36
  go_enter Tryd.func19, Tryd.ntmps19
  go_wp2_with (first
    | (go_at_call 36; refine C36'.mono ?_; rintro e w1 ⟨rfl, rfl⟩)
    | (go_at_call 37; refine (C37 _).mono ?_; rintro e w2 ⟨v, rfl, hf, hB⟩; obtain ⟨p5, l5, m5, rfl⟩ := hf.slice; obtain ⟨hc, hz⟩ := bcell hB; have hs : W.heap.size + 1 < w2.heap.size := (by have := hB.size; simp at this; omega))
    | (go_at_call 13; refine (C13 _).mono ?_; rintro e w2 ⟨a, l, c, m, rfl, hp, hB⟩; obtain ⟨hc, hz⟩ := bcell hB; have hs : W.heap.size + 1 < w2.heap.size := (by have := hB.size; simp at this; omega)))
  exact bodyPost_ret (v := .agg #[.int .u8 13, .int .u32 (w : Int), .int .u32 ((n : Int) % 8), .int .u32 0, .int .u8 0, .slice none 0 0, .slice none 0 0, .int .u64 0, .slice none 0 0, .slice none 0 0]) (by simp [results, Tryd.results19, go_sem]) rfl (act_end rfl rfl (by simp [actC]) (by simp [actC]) (by simp [actC]) (rfl) (⟨rfl, rfl⟩) (byt_none _ _) (keep_none _ _) (b2 _ _ _))
end Go.Proofs.SA
