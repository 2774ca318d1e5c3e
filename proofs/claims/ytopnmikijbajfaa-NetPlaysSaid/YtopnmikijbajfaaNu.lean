/- Proved: what the law's 'does' comes to at a send. Each theorem says its own conditions. -/
import Derived.Test.YtopnmikijbajfaaNt
set_option linter.unusedVariables false
set_option linter.unusedSimpArgs false
namespace Go.Proofs.NT
open Go.RowKit Go.Ai
theorem zero5 (w : World) : (zeroValue 5).run Try.prog w = .ok (.int .u8 0) w := run_zero' (by kernel_rfl) w
/-- A row cleared. -/
theorem clear_own {g n c : Nat} {w : World} (h : ∀ j, j < n → (w.cell? ⟨g, j, none⟩).isSome = true ∧ w.frozen? ⟨g, j, none⟩ = false) : ∃ w', (∀ ty, (Builtin.clear_ #[28] ty #[.slice (some ⟨g, 0, none⟩) n c]).run Try.prog w = .ok (.tuple #[]) w') ∧ Turn (fun b => b = g) w w' := by
  rcases Nat.eq_zero_or_pos n with rfl | hn
  · exact ⟨w, fun ty => by simp [Builtin.clear_, run_underlying Try.underlying28, zero5], Turn.refl _ _⟩
  · exact ⟨_, fun ty => Lib.run_clear_slice w 28 5 ty (.int .u8 0) Try.underlying28 zero5 rfl rfl g 0 n c hn (fun j hj => by rw [Nat.zero_add]; exact (h j hj).1) (fun j hj => by rw [Nat.zero_add]; exact (h j hj).2), turn_sets g _ _ _⟩
abbrev boxW (w : World) (kd a b : Int) (p : Option Addr) (l c : Nat) (k : Int) : World := w.alloc (.cells #[.int .i64 kd, .int .u32 a, .int .u32 b, .slice p l c, .int .i64 k] 32)
theorem boxW_below (w : World) (kd a b : Int) (p : Option Addr) (l c : Nat) (k : Int) : Below w.heap.size w (boxW w kd a b p l c k) := (Below.refl _ w).alloc (Nat.le_refl _) _
/-- An append whose run is known, at a plain region's list. -/
theorem wpList_app_run {ops : Array Oper} {rest : List Oper} {o : Oper} {a : Act} {w : World} {Q : Exit → Act → World → Prop} (hgd : o.guard = none) (s x : Operand) (t : TypeId)
    (ho : o.op = .call { callee := .builtin .append, args := #[s, x], argTypes := #[t, t] }) (v u : Value) (hs : a.eval s = v) (hx : a.eval x = u) {r : Value} {w' : World}
    (hr : (Builtin.append_ #[t, t] o.type #[v, u]).run Try.prog w = .ok r w') (h : wpList Try.prog ops Q rest (a.put o.dst r) w') : wpList Try.prog ops Q (o :: rest) a w :=
  wpList_plain hgd fun _ hK => by
    unfold Oper.wp execOp
    simp only [ho, resolve, invoke, builtin, Sem.run_bind, Sem.run_pure, Result.andThen_ok, List.map_toArray, List.map_cons, List.map_nil, hs, hx, hr]
    exact hK _ _ h
theorem info5 : (Try.prog.info? 5).map (fun i => (i.zero, i.size, i.bytes)) = some (some (.int .u8 0), 1, 1) := by kernel_rfl
theorem own_empty5 (w : World) (N : Nat) (hN : N ≤ w.heap.size) : (w.alloc (.cells #[] 5)).ownsRow N 5 1 (.slice (some ⟨w.heap.size, 0, none⟩) 0 0) 0 [] :=
  ⟨rfl, .inr ⟨w.heap.size, 0, #[], rfl, hN, heap_alloc_new w _, Nat.le_refl _, Nat.zero_le _, rfl, rfl⟩⟩
/-- The copy that the law keeps of an operation's bytes. -/
theorem app_own (w0 : World) (s : List UInt8) (p : Option Addr) (c : Nat) (hb : BIn w0 (.slice p s.length c) s) (hs : s.length ≤ 6000) : ∃ g cap W2, (Builtin.append_ #[28, 28] 28 #[.slice (some ⟨w0.heap.size, 0, none⟩) 0 0, .slice p s.length c]).run Try.prog (w0.alloc (.cells #[] 5)) = .ok (.slice (some ⟨g, 0, none⟩) s.length cap) W2 ∧
    g < W2.heap.size ∧ w0.heap.size ≤ g ∧ Below w0.heap.size w0 W2 ∧ BIn W2 (.slice (some ⟨g, 0, none⟩) s.length cap) s ∧ ∀ j, j < s.length → (W2.cell? ⟨g, j, none⟩).isSome = true ∧ W2.frozen? ⟨g, j, none⟩ = false := by
  have hB0 : Below w0.heap.size w0 (w0.alloc (.cells #[] 5)) := (Below.refl _ w0).alloc (Nat.le_refl _) _
  rcases Nat.eq_zero_or_pos s.length with h0 | hpos
  · obtain rfl : s = [] := List.eq_nil_of_length_eq_zero h0
    refine ⟨w0.heap.size, 0, w0.alloc (.cells #[] 5), ?_, by simp, Nat.le_refl _, hB0, .inl ⟨_, _, rfl, rfl⟩, fun j hj => by simp at hj⟩
    cases p <;> simp [Builtin.append_, run_underlying Try.underlying28, Builtin.lenOf, Builtin.firstCells, loadCells, loadCellsFrom, storeCells, go_sem]
  · obtain ⟨i0, hi0, hz0, hz1, hz2⟩ := info_parts info5
    rcases hb with ⟨_, _, _, rfl⟩ | ⟨b, o, cap, e, h1, h2⟩
    · simp at hpos
    cases e
    obtain ⟨g, cap, w', hr, h2', h3, h4, h5⟩ := run_append_lies (P := Try.prog) (w0.alloc (.cells #[] 5)) 28 28 w0.heap.size 5 i0 _ 1 1 Try.underlying28 hi0 hz0 hz1 hz2 rfl (by omega) _ 0 [] (own_empty5 w0 _ (Nat.le_refl _)) ⟨b, o, none⟩ s.length c (B s) (by simp [B]) (fun j u hu => by
      rw [Addr.add_lit]
      exact (hB0.cell (p := ⟨b, o + j, none⟩) (h1 hpos)).trans (h2 j u hu)) (by simp [B, Value.oneCell']) hpos (by unfold maxLen; omega) (by omega) (by simp) (w0.heap.size + 1) (by simp)
    simp only [Nat.zero_add, List.nil_append] at hr h2'
    have hrow := World.ownsRow.cells h2' (g := g) rfl
    refine ⟨g, cap, w', hr, h5, h4.elim (fun h => by cases h; exact Nat.le_refl _) (fun h => by omega), hB0.grown h3 (by simp) (fun k e => by cases e; exact Nat.le_refl _), .inr ⟨g, 0, cap, rfl, fun _ => h5, fun j x hx => ?_⟩, fun j hj => ⟨?_, ?_⟩⟩
    · have := hrow j x hx
      rwa [Addr.add_lit] at this
    · have hj' : j < (B s).length := by rw [B_len]; exact hj
      have := hrow j _ (List.getElem?_eq_getElem hj')
      rw [Addr.add_lit, Nat.zero_add] at this
      rw [this]; rfl
    · rcases h2'.2 with ⟨e, _⟩ | ⟨g', _, cur, e, _, hh, _⟩
      · cases e
      · cases e; simp [World.frozen?, hh]
set_option maxRecDepth 100000 in
set_option maxHeartbeats 4000000 in
theorem does_0 (W0 : World) (bn : Nat) (v : Value) (L : List Ml) (w : World) (a b k : Int) (s : List UInt8) (p : Option Addr) (c : Nat) (h : Both W0.heap.size bn v L w) (hW : Below W0.heap.size W0 w) (hb : BIn W0 (.slice p s.length c) s) (hs6 : s.length ≤ 6000) :
    Calls Try.prog 15 #[nptr bn, v, .agg #[.int .i64 0, .int .u32 a, .int .u32 b, .slice p s.length c, .int .i64 k]] w (DoesOut W0.heap.size bn w) := by
  have HBoth := Lib.hid h
  obtain ⟨⟨F, N, hn, hF, hr, hN⟩, hl, hs⟩ := h
  have hB := boxW_below w 0 a b p s.length c k
  have hFw : ∀ b, F b → b < w.heap.size := fun b hb => by have := (hF b hb).2; omega
  have hnF : ∀ g, w.heap.size ≤ g → ¬ F g := fun g hg h => by have := hFw _ h; omega
  have hsz : (boxW w 0 a b p s.length c k).heap.size = w.heap.size + 1 := by simp
  have hws := hW.size
  obtain ⟨g, cap, W2, happ, hgW, hg1, hB2, hbin2, hcells⟩ := app_own (boxW w 0 a b p s.length c k) s p c (hb.mono (hW.trans (hB.mono hws))) hs6
  rw [hsz] at happ hg1 hB2
  have hn2 := (hn.below hB).below (by rw [hsz]; exact hB2)
  have hR2 := (hr.below hB).below (by rw [hsz]; exact hB2)
  have hBW2 : Below w.heap.size w W2 := hB.trans (hB2.mono (by omega))
  have hblk : W2.heap[w.heap.size]? = some (.cells #[.int .i64 0, .int .u32 a, .int .u32 b, .slice p s.length c, .int .i64 k] 32 (0, 0)) := (hB2.block w.heap.size (by omega)).trans (heap_alloc_new w _)
  have x0 := cell_of_heap hblk 0; have x1 := cell_of_heap hblk 1; have x2 := cell_of_heap hblk 2; have x3 := cell_of_heap hblk 3; have x4 := cell_of_heap hblk 4
  simp only [List.getElem?_toArray, List.getElem?_cons_succ, List.getElem?_cons_zero] at x0 x1 x2 x3 x4
  have HB := Lib.hid hBW2; have HBLK := Lib.hid hblk; have HR2 := Lib.hid hR2; have HF := Lib.hid hF; have HS := Lib.hid hs; have HBO := Lib.hid hb; have HW := Lib.hid hW; have HNF := Lib.hid hnF; have HFW := Lib.hid hFw
  rcases Nat.lt_or_ge L.length 512 with hlt | hge
  · have K9 := c9 a b s _ (by omega) hbin2 hlt hn2
    have hclr : ∀ w3, Turn F W2 w3 → ∃ w5, (∀ ty, (Builtin.clear_ #[28] ty #[.slice (some ⟨g, 0, none⟩) s.length cap]).run Try.prog w3 = .ok (.tuple #[]) w5) ∧ Turn (fun b => b = g) w3 w5 := fun w3 ht => clear_own fun j hj => by
      have hb := ht.block g hgW (hnF g (by omega))
      rw [World.cell?_of_block (a := ⟨g, j, none⟩) hb, World.frozen?_of_block (a := ⟨g, j, none⟩) hb]
      exact hcells j hj
    have HCLR := Lib.hid hclr
    have hK14 : ∀ w3 w5, Turn F W2 w3 → Turn (fun b => b = g) w3 w5 → Below W0.heap.size W0 w5 ∧ RefAt N w5 v L ∧ w5.heap[w.heap.size]? = some (.cells #[.int .i64 0, .int .u32 a, .int .u32 b, .slice p s.length c, .int .i64 k] 32 (0, 0)) := fun w3 w5 h3 h5 => by
      have e3 := h3.size
      have hgN : ∀ g', v.ownBlock = some g' → g' < w.heap.size := fun g' e => (World.ownsRow.lt hr g' e).2
      refine ⟨?_, own_keeps (ok := fun b => b < w.heap.size) (hR2.turn h3 (fun b hb => (hF b hb).2)) (h5.keeps fun b _ ho e => by omega) hgN, (h5.block _ (by omega) (by omega)).trans ((h3.block _ (by omega) (hnF _ (Nat.le_refl _))).trans hblk)⟩
      refine h5.below (h3.below (hW.trans (hBW2.mono hws)) (fun b hb => (hF b hb).1) (by have := hBW2.size; omega)) (fun b e => by omega) (by have := hBW2.size; omega)
    have HK := Lib.hid hK14
    have K14 := fun (W : World) (h : RefAt N W v L) (hb : BIn W (.slice p s.length c) s) => c14 v L N a b s _ W h hlt hb (by omega)
    obtain ⟨pv, cv, rfl⟩ := own_slice hr
    have K22 := fun W => c22a pv L.length cv k W hl
    clear hn hF hr hB hs hblk hR2 hW hb hnF hFw hBW2 hn2 hclr hK14 hB2 hbin2 hcells
    generalize hSL : s.length = sl at *
    go_enter Try.func15, Try.ntmps15
    go_wp2_with (first
      | (go_at_call 22; refine (K22 _).mono ?_; rintro e w2 ⟨rfl, rfl⟩)
      | (at_builtin; refine wpList_app_run rfl _ _ 28 rfl _ _ rfl rfl happ ?_)
      | (go_at_call 9; refine K9.mono ?_; rintro e w3 ⟨rfl, hn3, ht3⟩; obtain ⟨w5, hclr, ht5⟩ := HCLR.out w3 ht3; obtain ⟨hB5, hR5, h5b⟩ := HK.out w3 w5 ht3 ht5; clear x0 x1 x2 x3 x4; have x0 := cell_of_heap h5b 0; have x1 := cell_of_heap h5b 1; have x2 := cell_of_heap h5b 2; have x3 := cell_of_heap h5b 3; have x4 := cell_of_heap h5b 4; simp only [List.getElem?_toArray, List.getElem?_cons_succ, List.getElem?_cons_zero] at x0 x1 x2 x3 x4; have K14 := K14 w5 hR5 (HBO.out.mono hB5); have HN3 := Lib.hid hn3; have HT3 := Lib.hid ht3; have HT5 := Lib.hid ht5; clear hn3 ht3 ht5 h5b hB5 hR5)
      | (go_at_call 14; refine K14.mono ?_; rintro e w6 ⟨v6, rfl, hr6, hB6⟩; have HR6 := Lib.hid hr6; have HB6 := Lib.hid hB6; clear hr6 hB6))
    refine bodyPost_ret (v := .tuple #[.bool true, v6]) (by simp [results, Try.results15, go_sem]) rfl ⟨_, _, rfl, Both.step (HN3.out.keeps (HT5.out.keeps fun b _ ho e => ?_)) (fun b hb => ?_) (Below.refl _ _) HR6.out HB6.out ?_ ?_, ?_⟩
    · subst e
      rcases ho with ho | ho
      · exact HNF.out b (by omega) ho
      · omega
    · have := HB.out.size
      rcases hb with hb | hb
      · exact (HF.out b hb).1
      · omega
    · simp; omega
    · intro m hm
      rcases List.mem_append.1 hm with hm | hm
      · exact HS.out m hm
      · simp at hm; subst hm; rw [hSL]; exact hs6
    · exact Turn.trans (F' := (W0.heap.size ≤ ·)) (Turn.trans (F' := (W0.heap.size ≤ ·)) (Turn.trans (F' := (W0.heap.size ≤ ·)) (Turn.of HB.out) (HT3.out.more fun b hb => (HF.out b hb).1) (fun b _ h => h)) (HT5.out.more fun b e => by omega) (fun b _ h => h)) (Turn.of HB6.out) (fun b _ h => h)
  · have K9 := c9f a b s _ (by omega) hbin2 hge hl hn2
    obtain ⟨w5, hclr, ht5⟩ := clear_own (c := cap) hcells
    have hB5 : Below w.heap.size w w5 := ht5.below hBW2 (fun b e => by omega) (by have := hBW2.size; omega)
    have h5b := (ht5.block w.heap.size (by omega) (by omega)).trans hblk
    have y0 := cell_of_heap h5b 0; have y1 := cell_of_heap h5b 1; have y2 := cell_of_heap h5b 2; have y3 := cell_of_heap h5b 3; have y4 := cell_of_heap h5b 4
    simp only [List.getElem?_toArray, List.getElem?_cons_succ, List.getElem?_cons_zero] at y0 y1 y2 y3 y4
    have K14 := c14f v L N a b s _ w5 (hr.below hB5) (by omega) (hb.mono (hW.trans (hB5.mono hws))) (by omega)
    have HB5 := Lib.hid hB5
    obtain ⟨pv, cv, rfl⟩ := own_slice hr
    have K22 := fun W => c22a pv L.length cv k W hl
    clear hn hF hr hB hs hblk hR2 hW hb hnF hFw hBW2 hn2 hB2 hbin2 hcells hB5 h5b ht5
    generalize hSL : s.length = sl at *
    go_enter Try.func15, Try.ntmps15
    go_wp2_with (first
      | (go_at_call 22; refine (K22 _).mono ?_; rintro e w2 ⟨rfl, rfl⟩)
      | (at_builtin; refine wpList_app_run rfl _ _ 28 rfl _ _ rfl rfl happ ?_)
      | (go_at_call 9; refine K9.mono ?_; rintro e w3 ⟨rfl, rfl⟩)
      | (go_at_call 14; refine K14.mono ?_; rintro e w6 ⟨rfl, rfl⟩))
    exact bodyPost_ret (v := .tuple #[.bool true, .slice pv L.length cv]) (by simp [results, Try.results15, go_sem]) rfl ⟨_, L, rfl, HBoth.out.below HB5.out, Turn.of HB5.out⟩
end Go.Proofs.NT
