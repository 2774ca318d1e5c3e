/- Proved: 'CtlNil' answers true for every input, and leaves what it was handed as it was. Conditions: none. -/
import Derived.Test.YtblgkhghoppanaaGreatRows
import Derived.WalkKit
import Derived.ProofKit
import Derived.OpenShut
import Derived.Test.YtblgkhghoppanaaGreatAd
import Derived.WalkMore
import Derived.Deep.AppendSrc
import Derived.Lib.SmallJoins
namespace Go.Proofs.YtblgkhghoppanaaGreat.ctlNil
open Go.ChangeShapes Go.WideShapes Go.ChangeAt Go.RowKit
set_option linter.unusedVariables false
set_option linter.unusedSimpArgs false

theorem progOk' : Go.Ai.progOk Tryz.prog = true := by kernel_rfl
theorem outer (a : Array Value) (h : a.toList.length = 1) : ∃ v0, a = #[v0] := by
  obtain ⟨l⟩ := a
  match l, h with
  | [v0], _ => exact ⟨v0, rfl⟩
theorem own : ownKnob Tryz.prog.godebug = none := by kernel_rfl
theorem laidOut' : laidOutB Tryz.prog = true := by kernel_rfl

abbrev argv (a b c : Int) (v : Value) : Value := .agg #[.int .u8 a, .int .u32 b, .int .u64 c, v]
def Gives (v : Value) (w : World) (e : Ending) (w' : World) : Prop := e = .returned v ∧ Below w.heap.size w w'
def GivesOwn (a b c : Int) (w : World) (e : Ending) (w' : World) : Prop := ∃ s, e = .returned (argv a b c s) ∧ Below w.heap.size w w'
theorem load_row {P : Program} (w W : World) (blk off l : Nat) (hW : ∀ i, i < l → W.cell? ⟨blk, off + i, none⟩ = w.cell? ⟨blk, off + i, none⟩) (hr : ∀ i, i < l → ∃ x : Int, w.cell? ⟨blk, off + i, none⟩ = some (.int .u8 x)) :
    Sem.run P (loadCellsFrom ⟨blk, off, none⟩ 0 l #[]) W = .ok ((List.range l).map fun i => (w.cell? ⟨blk, off + i, none⟩).getD undef).toArray W := by
  have h := run_firstCells_some (P := P) W 1 l ⟨blk, off, none⟩ l l ((List.range l).map fun i => (w.cell? ⟨blk, off + i, none⟩).getD undef) (by simp) (fun j u hu => by
    rw [List.getElem?_map] at hu
    by_cases hj : j < l
    · rw [List.getElem?_range hj] at hu
      simp only [Option.map_some, Option.some.injEq] at hu
      obtain ⟨x, hx⟩ := hr j hj
      rw [Addr.add_lit, hW j hj, ← hu, hx]; rfl
    · rw [List.getElem?_eq_none (by simpa using hj)] at hu; cases hu)
  simpa [Builtin.firstCells, loadCells] using h
theorem next_small (l : Nat) (h : l ≤ 5000) : Builtin.nextslicecap l 0 ≤ 281474976710656 := by
  unfold Builtin.nextslicecap
  split <;> first | omega | (split <;> omega)
set_option maxHeartbeats 1000000 in
theorem c12s (a b c : Int) (blk off l cap : Nat) (w : World) (hb : blk < w.heap.size) (h1 : 1 ≤ l) (h2 : l ≤ 5000) (hr : ∀ i, i < l → ∃ x : Int, w.cell? ⟨blk, off + i, none⟩ = some (.int .u8 x)) :
    Calls Tryz.prog 12 #[argv a b c (.slice (some ⟨blk, off, none⟩) l cap)] w (GivesOwn a b c w) := by
  have hld := load_row (P := Tryz.prog) w ((((w.alloc (.cells #[.int .u8 a, .int .u32 b, .int .u64 c, .slice (some ⟨blk, off, none⟩) l cap] 26)).alloc (.cells #[.int .u8 0, .int .u32 0, .int .u64 0, .slice none 0 0] 26)).alloc (.cells #[] 5)).drew) blk off l
    (fun i hi => by
      show (((w.alloc _).alloc _).alloc _).cell? _ = _
      rw [Below.cell ((((Below.refl w.heap.size w).alloc (Nat.le_refl _) _).alloc (by simp) _).alloc (by simp; omega) _) (p := ⟨blk, off + i, none⟩) hb]) hr
  have hns : ¬ (281474976710656 < Builtin.nextslicecap l 0 * Tryz.t5.bytes) := by
    have := next_small l h2
    have e : Tryz.t5.bytes = 1 := by kernel_rfl
    rw [e]; omega
  clear hr
  generalize ((List.range l).map fun i => (w.cell? ⟨blk, off + i, none⟩).getD undef).toArray = news at hld
  go_enter Tryz.func12, Tryz.ntmps12
  go_wp2
  exact bodyPost_ret (v := argv a b c (.slice (some ⟨w.heap.size + 1 + 1 + 1, 0, none⟩) l ((Question.appendCap l 0 5).cut (w.tape w.drawn (Question.appendCap l 0 5))))) (by simp [results, Tryz.results12, go_sem]) rfl
    ⟨_, rfl, (((((Below.refl _ w).alloc (Nat.le_refl _) _).alloc (by simp) _).alloc (by simp; omega) _).alloc (by simp; omega) _).drew⟩
theorem c12n (a b c : Int) (w : World) : Calls Tryz.prog 12 #[argv a b c (.slice none 0 0)] w (GivesOwn a b c w) := by
  go_enter Tryz.func12, Tryz.ntmps12
  go_wp2
  exact bodyPost_ret (v := argv a b c (.slice (some ⟨w.heap.size + 1 + 1, 0, none⟩) 0 0)) (by simp [results, Tryz.results12, go_sem]) rfl
    ⟨_, rfl, ((((Below.refl _ w).alloc (Nat.le_refl _) _).alloc (by simp) _).alloc (by simp; omega) _)⟩
theorem c12z (a b c : Int) (blk off cap : Nat) (w : World) : Calls Tryz.prog 12 #[argv a b c (.slice (some ⟨blk, off, none⟩) 0 cap)] w (GivesOwn a b c w) := by
  go_enter Tryz.func12, Tryz.ntmps12
  go_wp2
  exact bodyPost_ret (v := argv a b c (.slice (some ⟨w.heap.size + 1 + 1, 0, none⟩) 0 0)) (by simp [results, Tryz.results12, go_sem]) rfl
    ⟨_, rfl, ((((Below.refl _ w).alloc (Nat.le_refl _) _).alloc (by simp) _).alloc (by simp; omega) _)⟩
theorem c9 (a b c : Int) (p : Option Addr) (l cap : Nat) (w : World) : Calls Tryz.prog 9 #[argv a b c (.slice p l cap)] w (Gives (.bool (decide (5000 < (l : Int)))) w) := by
  go_enter Tryz.func9, Tryz.ntmps9
  go_wp2
  go_ret
  exact ⟨rfl, (Below.refl _ w).alloc (Nat.le_refl _) _⟩
theorem c10 (w : World) : Calls Tryz.prog 10 #[] w (Gives (.bool true) w) :=
  Go.Ai.ai_test progOk' (Checked.mixed Tryz.checked) 1000 200 10 [] rfl [] (fun ts => Go.Ai.fast_true (by kernel_rfl)) w (Go.Ai.tabled_nil _)
abbrev zsub : Value := .agg #[.int .u32 0, .int .u64 0, .slice none 0 0, .int .u64 0, .slice none 0 0, .bool false, .int .u64 0, .slice none 0 0, .int .u64 0]
set_option maxHeartbeats 1000000 in
theorem c22 (n : Int) (w : World) : Calls Tryz.prog 22 #[.pointer none, .int .u32 n] w (Gives (.tuple #[zsub, .bool false]) w) := by
  go_enter Tryz.func22, Tryz.ntmps22
  go_wp2
  exact bodyPost_ret (v := .tuple #[zsub, .bool false]) (by simp [results, Tryz.results22, go_sem]) rfl ⟨rfl, ((Below.refl _ w).alloc (Nat.le_refl _) _)⟩
set_option maxHeartbeats 1000000 in
theorem c19 (a b c : Int) (v : Value) (w : World) : Calls Tryz.prog 19 #[.pointer none, argv a b c v] w (Gives (.int .i64 1) w) := by
  go_enter Tryz.func19, Tryz.ntmps19
  go_wp2
  go_ret
  exact ⟨rfl, (Below.refl _ w).alloc (Nat.le_refl _) _⟩
set_option maxHeartbeats 1000000 in
theorem c20 (a b c : Int) (v : Value) (w : World) : Calls Tryz.prog 20 #[.pointer none, argv a b c v] w (Gives (.int .i64 1) w) := by
  go_enter Tryz.func20, Tryz.ntmps20
  go_wp2_with (go_at_call 19; refine (c19 a b c v _).mono ?_; rintro e w1 ⟨rfl, h1⟩)
  go_ret
  exact ⟨rfl, ((Below.refl _ w).alloc (Nat.le_refl _) _).trans (h1.mono (by simp))⟩
theorem c29 (w : World) : Calls Tryz.prog 29 #[.pointer none] w (Gives (.slice none 0 0) w) := by
  go_enter Tryz.func29, Tryz.ntmps29
  go_wp2
  go_ret
  exact ⟨rfl, Below.refl _ w⟩
theorem c25 (n : Int) (w : World) : Calls Tryz.prog 25 #[.pointer none, .int .u32 n] w (Gives (.int .u64 0) w) := by
  go_enter Tryz.func25, Tryz.ntmps25
  go_wp2
  go_ret
  exact ⟨rfl, Below.refl _ w⟩
theorem c26 (w : World) : Calls Tryz.prog 26 #[.pointer none] w (Gives (.int .u64 0) w) := by
  go_enter Tryz.func26, Tryz.ntmps26
  go_wp2
  go_ret
  exact ⟨rfl, Below.refl _ w⟩
set_option maxHeartbeats 1000000 in
theorem c27 (w : World) : Calls Tryz.prog 27 #[.pointer none] w (Gives (.slice none 0 0) w) := by
  go_enter Tryz.func27, Tryz.ntmps27
  go_wp2
  go_ret
  exact ⟨rfl, Below.refl _ w⟩
theorem bcell {W w1 : World} (hb : Below W.heap.size W w1) : (∀ b o, b < W.heap.size → w1.cell? ⟨b, o, none⟩ = W.cell? ⟨b, o, none⟩) ∧ (∀ b o, b < W.heap.size → w1.frozen? ⟨b, o, none⟩ = W.frozen? ⟨b, o, none⟩) :=
  ⟨fun b o h => hb.cell (p := ⟨b, o, none⟩) h, fun b o h => hb.frozen (p := ⟨b, o, none⟩) h⟩
set_option maxHeartbeats 4000000 in
set_option maxRecDepth 100000 in
theorem law_great (a b c : Int) (p : Option Addr) (l cap : Nat) (hl : 5000 < l) (w : World) : Calls Tryz.prog 7 #[argv a b c (.slice p l cap)] w (Gives (.bool true) w) := by
  go_enter Tryz.func7, Tryz.ntmps7
  go_wp2_with (first
    | (go_at_call 9; refine (c9 a b c p l cap _).mono ?_; rintro e w1 ⟨rfl, h1⟩; have hB1 : Below w.heap.size w w1 := ((Below.refl _ w).alloc (Nat.le_refl _) _).trans (h1.mono (by simp)))
    | (go_at_call 10; refine (c10 _).mono ?_; rintro e w2 ⟨rfl, h2⟩; have hB2 : Below w.heap.size w w2 := hB1.trans (h2.mono hB1.size)))
  go_ret
  exact ⟨rfl, hB2⟩
set_option maxHeartbeats 8000000 in
set_option maxRecDepth 100000 in
theorem law_small (a b c : Int) (p : Option Addr) (l cap : Nat) (hl : l ≤ 5000) (w : World) (hown : ∀ w', Below w.heap.size w w' → Calls Tryz.prog 12 #[argv a b c (.slice p l cap)] w' (GivesOwn a b c w')) :
    Calls Tryz.prog 7 #[argv a b c (.slice p l cap)] w (Gives (.bool true) w) := by
  go_enter Tryz.func7, Tryz.ntmps7
  go_wp2_with (first
    | (go_at_call 9; refine (c9 a b c p l cap _).mono ?_; rintro e w1 ⟨rfl, h1⟩; obtain ⟨hc1, hf1⟩ := bcell h1
       have hB1 : Below w.heap.size w w1 := ((Below.refl _ w).alloc (Nat.le_refl _) _).trans (h1.mono (by simp)); have hz1 : w.heap.size < w1.heap.size := (by have := h1.size; simp at this; omega))
    | (go_at_call 22; refine (c22 b _).mono ?_; rintro e w2 ⟨rfl, h2⟩; obtain ⟨hc2, hf2⟩ := bcell h2
       have hB2 : Below w.heap.size w w2 := hB1.trans (h2.mono hB1.size); have hz2 : w.heap.size < w2.heap.size := (by have := h2.size; omega))
    | (go_at_call 10; refine (c10 _).mono ?_; rintro e w3 ⟨rfl, h3⟩; obtain ⟨hc3, hf3⟩ := bcell h3
       have hB3 : Below w.heap.size w w3 := ((hB2.alloc hB2.size _).trans (h3.mono (by have := hB2.size; simp; omega))); have hz3 : w.heap.size < w3.heap.size := (by have := h3.size; simp at this; omega))
    | (go_at_call 12; refine (hown _ hB3).mono ?_; rintro e w4 ⟨s4, rfl, h4⟩; obtain ⟨hc4, hf4⟩ := bcell h4
       have hB4 : Below w.heap.size w w4 := hB3.trans (h4.mono hB3.size); have hz4 : w.heap.size < w4.heap.size := (by have := h4.size; omega))
    | (go_at_call 19; refine (c19 a b c s4 _).mono ?_; rintro e w5 ⟨rfl, h5⟩; obtain ⟨hc5, hf5⟩ := bcell h5
       have hB5 : Below w.heap.size w w5 := hB4.trans (h5.mono hB4.size); have hz5 : w.heap.size < w5.heap.size := (by have := h5.size; omega))
    | (go_at_call 12; refine (hown _ hB5).mono ?_; rintro e w6 ⟨s6, rfl, h6⟩; obtain ⟨hc6, hf6⟩ := bcell h6
       have hB6 : Below w.heap.size w w6 := hB5.trans (h6.mono hB5.size); have hz6 : w.heap.size < w6.heap.size := (by have := h6.size; omega))
    | (go_at_call 20; refine (c20 a b c s6 _).mono ?_; rintro e w7 ⟨rfl, h7⟩; obtain ⟨hc7, hf7⟩ := bcell h7
       have hB7 : Below w.heap.size w w7 := hB6.trans (h7.mono hB6.size); have hz7 : w.heap.size < w7.heap.size := (by have := h7.size; omega))
    | (go_at_call 29; refine (c29 _).mono ?_; rintro e w8 ⟨rfl, h8⟩; obtain ⟨hc8, hf8⟩ := bcell h8
       have hB8 : Below w.heap.size w w8 := hB7.trans (h8.mono hB7.size); have hz8 : w.heap.size < w8.heap.size := (by have := h8.size; omega))
    | (go_at_call 25; refine (c25 b _).mono ?_; rintro e w9 ⟨rfl, h9⟩; obtain ⟨hc9, hf9⟩ := bcell h9
       have hB9 : Below w.heap.size w w9 := hB8.trans (h9.mono hB8.size); have hz9 : w.heap.size < w9.heap.size := (by have := h9.size; omega))
    | (go_at_call 26; refine (c26 _).mono ?_; rintro e w10 ⟨rfl, h10⟩; obtain ⟨hc10, hf10⟩ := bcell h10
       have hB10 : Below w.heap.size w w10 := hB9.trans (h10.mono hB9.size); have hz10 : w.heap.size < w10.heap.size := (by have := h10.size; omega))
    | (go_at_call 27; refine (c27 _).mono ?_; rintro e w11 ⟨rfl, h11⟩; obtain ⟨hc11, hf11⟩ := bcell h11
       have hB11 : Below w.heap.size w w11 := hB10.trans (h11.mono hB10.size); have hz11 : w.heap.size < w11.heap.size := (by have := h11.size; omega)))
  go_ret
  exact ⟨rfl, hB11⟩

set_option maxRecDepth 100000 in
theorem walk {H : Type} {enc : TypeId × Value → H} {base : Nat} (v0 : Value) {W : World} {ds : List (DataW H)} {p : List MemPlace} (h0 : Value.okWide Tryz.prog W .any base 26 v0) (hA : DataW.TrodAll enc Tryz.prog W 0 (fun _ => true) true #[26].toList #[v0].toList ds p) :
    Calls Tryz.prog 7 #[v0] W fun e W' => e = .returned (.bool true) ∧ Below W.heap.size W W' := by
  obtain ⟨d0, rfl, hT⟩ : ∃ d0, ds = [d0] ∧ ∃ p0, DataW.Trod enc Tryz.prog W 0 (fun _ => true) true 26 v0 d0 p0 := by
    match ds, hA with
    | [d0], ⟨p0, q, h1, _, _⟩ => exact ⟨d0, rfl, p0, h1⟩
  obtain ⟨p0, hT⟩ := hT
  obtain ⟨x0, x1, x2, x3, y0, y1, y2, y3, m, rfl, rfl, rfl, hy0, hy1, hy2, hy3⟩ := Go.Joins.open_agg4 Tryz.underlying26 (by kernel_rfl) (by kernel_rfl) h0 hT
  obtain ⟨cs, he, hl, hc⟩ := Go.Ai.okWide_struct (ts := [5, 22, 23, 24]) Tryz.underlying26 (by kernel_rfl) (by kernel_rfl) h0
  have hcs : cs = [x0, x1, x2, x3] := by
    have := Value.agg.inj he
    have := congrArg Array.toList this
    simpa using this.symm
  subst hcs
  obtain ⟨u0, e0, k0⟩ := hc 0 x0 rfl; cases e0
  obtain ⟨u1, e1, k1⟩ := hc 1 x1 rfl; cases e1
  obtain ⟨u2, e2, k2⟩ := hc 2 x2 rfl; cases e2
  obtain ⟨u3, e3, k3⟩ := hc 3 x3 rfl; cases e3
  obtain ⟨a, rfl, _⟩ := Go.Ai.cell_int Tryz.underlying5 k0
  obtain ⟨b, rfl, _⟩ := Go.Ai.cell_int Tryz.underlying22 k1
  obtain ⟨c, rfl, _⟩ := Go.Ai.cell_int Tryz.underlying23 k2
  have five : Tryz.prog.cellsOf 5 = 1 := by kernel_rfl
  rcases open_ints Tryz.underlying24 Tryz.underlying5 five hy3 with ⟨h, _⟩ | ⟨⟨blk, off, sub⟩, l, cap, zs, h, _, hlc, hcm, hzl, _, hcell, _⟩
  · obtain rfl : x3 = .slice none 0 0 := by simpa using h
    exact law_small a b c none 0 0 (by omega) W (fun w' _ => c12n a b c w')
  · obtain rfl : x3 = .slice (some ⟨blk, off, sub⟩) l cap := by simpa using h
    have hs : sub = none := by
      rcases Go.Ai.cell_slice Tryz.underlying24 k3 with h | ⟨b', o', l', c', h, _⟩
      · cases h
      · cases h; rfl
    subst hs
    by_cases hl5 : 5000 < l
    · exact law_great a b c _ l cap hl5 W
    · refine law_small a b c _ l cap (by omega) W (fun w' hB => ?_)
      rcases Nat.eq_zero_or_pos l with rfl | hpos
      · exact c12z a b c blk off cap w'
      · have hz : zs.length = cap := by simpa using hzl
        have hrd : ∀ i, i < l → ∃ x : Int, W.cell? ⟨blk, off + i, none⟩ = some (.int .u8 x) := fun i hi => ⟨_, by rw [← Addr.add_lit]; exact hcell i (by omega)⟩
        have hblk : blk < W.heap.size := by
          obtain ⟨x, hx⟩ := hrd 0 hpos
          exact World.block_lt_of_cell? W _ hx
        refine c12s a b c blk off l cap w' (Nat.lt_of_lt_of_le hblk hB.size) hpos (by omega) fun i hi => ?_
        rw [hB.cell (p := ⟨blk, off + i, none⟩) hblk]
        exact hrd i hi

set_option maxRecDepth 100000 in
theorem lifted (os : Os) (started : os.Started) (H : Type) (enc : TypeId × Value → H) :
    ReturnsInHanded {} Tryz.checked os 7 .any (Rows.ctlNilSpec.pre6 enc Tryz.prog Tryz.f7 Rows.ctlNilRow.domain false) (Rows.ctlNilSpec.post enc Tryz.prog Tryz.f7 false true false false) := by
  refine returnsInHanded_of_change (C := Tryz.checked) own started (by kernel_rfl) Tryz.func7
    (ChangeSpec.witness6 (enc := enc) (C := Tryz.checked) false ⟨#[], #[.agg #[.int .u8 0, .int .u32 0, .int .u64 0, .slice none 0 0]], []⟩ 8 (by kernel_rfl) (by kernel_rfl) (by kernel_rfl) (by kernel_rfl)) ?_
  intro W base args ds gs before hval0 hW _ _
  have hval : ∀ (j : Nat) t v, Tryz.f7.params[j]? = some t → args[j]? = some v → Value.okWide Tryz.prog W .any base t v := hval0
  have hW' : DataW.Whole enc Tryz.prog Tryz.f7.params.toList Rows.ctlNilSpec.vars false W args.toList ds gs before := hW
  clear hval0 hW
  have hsize : args.toList.length = 1 := by
    obtain ⟨p, q, hA0, _⟩ := hW'
    have hA : DataW.TrodAll enc Tryz.prog W 0 (fun _ => true) true Tryz.f7.params.toList args.toList ds p := hA0
    rw [Tryz.params7] at hA
    exact (Go.Ai.trodAll_len hA).1
  obtain ⟨v0, rfl⟩ : ∃ v0, args = #[v0] := outer args hsize
  rw [Tryz.params7] at hval
  obtain ⟨pA, qA, hA0, _⟩ := id hW'
  rw [Tryz.params7] at hA0
  refine (walk v0 (hval 0 26 v0 rfl rfl) hA0).mono fun e W' ⟨he, hw⟩ => ?_
  refine ⟨_, he, Go.Ai.row_true (P := Tryz.prog) (f := Tryz.f7) (s := Rows.ctlNilSpec) (tb := 4) laidOut' (by kernel_rfl) rfl (fun ds h => ?_) (by kernel_rfl) Tryz.underlying4 hW' hw⟩
  rw [Tryz.params7] at h
  match ds, h with
  | [d0], _ => rfl

theorem over : Rows.ctlNilRow.holds Tryz.pinned (OpenSpec.ofChange Rows.ctlNilSpec) :=
  OpenClaim.holds_of_wide 7 Tryz.f7 rfl rfl rfl rfl rfl rfl rfl ⟨rfl, rfl, rfl, rfl, rfl⟩ rfl rfl rfl rfl rfl (by kernel_rfl) Tryz.func7 (by kernel_rfl)
    (of_decide_eq_true (by kernel_rfl)) (by unfold Func.isWrapper; first | (rw [if_pos (by decide +kernel)]; kernel_rfl) | (rw [if_neg (by decide +kernel)]; exact ⟨rfl, rfl⟩))
    (fun os started H enc _ => lifted os started H enc)

/-- ████ THE STATEMENT ████ -/
theorem proved : Rows.CtlNilSaid :=
  over
#print axioms proved
end Go.Proofs.YtblgkhghoppanaaGreat.ctlNil
