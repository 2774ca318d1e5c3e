/- Proved: what an event by its values' bits comes to, in the seat of EvlogNil; each theorem says its own conditions. -/
import Derived.Test.YtalfcgcikadjfaaGreatDoorProg
import Derived.Test.YtalfcgcikadjfaaGreatDoorAd
import Derived.WalkKit
import Derived.ProofKit
import Derived.OpenShut
import Derived.BigQuiet
import Derived.ChangeSame
import Derived.Deep.AppendLies
import Derived.Deep.QuietTactic
import Derived.Deep.RegionHeld3
import Derived.Deep.RegionLaw
import Derived.Test.YtalfcgcikadjfaaGreatDoorChecked
import Derived.Lib.Hide
import Derived.LoopN
import Derived.OwnWalk
import Derived.WalkMore
import Derived.Lib.SmallJoins
set_option linter.unusedVariables false
set_option linter.unusedSimpArgs false
namespace Go.Proofs.EV
open Go.ChangeShapes Go.WideShapes Go.ChangeAt Go.RowKit
theorem progOk' : Go.Ai.progOk Tryz.prog = true := by kernel_rfl
theorem bcell {W w1 : World} (hb : Below W.heap.size W w1) : (∀ b o, b < W.heap.size → w1.cell? ⟨b, o, none⟩ = W.cell? ⟨b, o, none⟩) ∧ (∀ b o, b < W.heap.size → w1.frozen? ⟨b, o, none⟩ = W.frozen? ⟨b, o, none⟩) :=
  ⟨fun b o h => hb.cell (p := ⟨b, o, none⟩) h, fun b o h => hb.frozen (p := ⟨b, o, none⟩) h⟩
theorem run_store_float (P : Program) (w : World) (a : Addr) (k : FloatKind) (n : Nat) (m : Mode) : (store a (.float k n) m).run P w = stored P w a (.float k n) m := run_store P w a _ m rfl
theorem h32 (n : Int) (w : World) : (callFunc 70 #[.int .u64 n]).run Tryz.prog w = .ok (.value (.float .f64 n.toNat)) w := Go.Ai.pureRun_spec (callFunc 70 #[.int .u64 n]) _ (by kernel_rfl) w
attribute [local go_sem] run_store_float
set_option maxRecDepth 100000 in
theorem c24 (k n b : Int) (s : ByteArray) (w : World) : Calls Tryz.prog 31 #[.agg #[.int .u8 k, .int .i64 n, .int .u64 b, .string s]] w fun e w' => e = .returned (.agg #[.int .u8 k, .int .i64 n, .float .f64 b.toNat, .string s]) ∧ Below w.heap.size w w' := by
  have e32 := fun w => h32 b w
  go_enter Tryz.func31, Tryz.ntmps31
  go_wp2
  go_region_held3 (fun w' => w'.cell? ⟨w.heap.size, 0, none⟩ = some (.int .u8 k) ∧ w'.cell? ⟨w.heap.size, 1, none⟩ = some (.int .i64 n) ∧ w'.cell? ⟨w.heap.size, 2, none⟩ = some (.int .u64 b) ∧ w'.cell? ⟨w.heap.size, 3, none⟩ = some (.string s)) (go_keep) (fail)
  all_goals go_wp2
  exact bodyPost_ret (v := .agg #[.int .u8 k, .int .i64 n, .float .f64 b.toNat, .string s]) (by simp [results, Tryz.results31, go_sem]) rfl ⟨rfl, (((Below.refl _ w).alloc (Nat.le_refl _) _).alloc (by simp) _).drew⟩
/-- The cells of a field that came in. -/
def RawAt (w : World) (b o : Nat) : Prop := ∃ (k n q : Int) (s : ByteArray), w.cell? ⟨b, o, none⟩ = some (.int .u8 k) ∧ w.cell? ⟨b, o + 1, none⟩ = some (.int .i64 n) ∧ w.cell? ⟨b, o + 2, none⟩ = some (.int .u64 q) ∧ w.cell? ⟨b, o + 3, none⟩ = some (.string s)
/-- The cells of fields of the program's own. -/
def Vals (xs : List Value) : Prop := ∀ i, i * 4 < xs.length → ∃ (k n : Int) (q : Nat) (s : ByteArray), xs[i * 4]? = some (.int .u8 k) ∧ xs[i * 4 + 1]? = some (.int .i64 n) ∧ xs[i * 4 + 2]? = some (.float .f64 q) ∧ xs[i * 4 + 3]? = some (.string s)
def EvOut (t : Int) (w : World) (e : Ending) (w' : World) : Prop := ∃ v n xs, e = .returned (.agg #[.int .u8 t, v]) ∧ n ≤ 30 ∧ w'.ownsRow w.heap.size 93 4 v n xs ∧ Vals xs ∧ Below w.heap.size w w'
def R13 (t : Int) (w W0 : World) (fl : Nat) (i : Value) (wr : World) : Prop := ∃ (k n : Nat) (v : Value) (xs : List Value), i = .int .i64 k ∧ k ≤ fl ∧ n ≤ k ∧ n ≤ 30 ∧ wr.cell? ⟨w.heap.size + 1 + 1, 0, none⟩ = some (.int .u8 t) ∧ wr.cell? ⟨w.heap.size + 1 + 1, 1, none⟩ = some v ∧ wr.frozen? ⟨w.heap.size + 1 + 1, 1, none⟩ = false ∧ wr.ownsRow (w.heap.size + 1 + 1 + 1) 93 4 v n xs ∧ Vals xs ∧ Below (w.heap.size + 1 + 1) W0 wr ∧ w.heap.size + 1 + 1 + 1 ≤ wr.heap.size
theorem info84 : (Tryz.prog.info? 93).map (fun i => (i.zero, i.size, i.bytes)) = some (some (.agg #[.int .u8 0, .int .i64 0, .float .f64 0, .string ⟨#[]⟩]), 4, 40) := by kernel_rfl
theorem own_below {w w' : World} {base e size n : Nat} {v : Value} {xs : List Value} (h : w.ownsRow base e size v n xs) (hb : Below w.heap.size w w') : w'.ownsRow base e size v n xs := by
  refine ⟨h.1, ?_⟩
  rcases h.2 with h | ⟨g, cap, cur, rfl, h1, h2, h3⟩
  · exact .inl h
  · exact .inr ⟨g, cap, cur, rfl, h1, (hb.block g (Array.getElem?_eq_some_iff.1 h2).1).trans h2, h3⟩
theorem grown_at {w w' : World} {row : Option Nat} (hg : w.grownBy w' row) {b : Nat} (hb : b < w.heap.size) (hne : row ≠ some b) : (∀ o, w'.cell? ⟨b, o, none⟩ = w.cell? ⟨b, o, none⟩) ∧ (∀ o, w'.frozen? ⟨b, o, none⟩ = w.frozen? ⟨b, o, none⟩) :=
  have h := hg.block b hb (Ne.symm hne)
  ⟨fun o => World.cell?_of_block (a := ⟨b, o, none⟩) h, fun o => World.frozen?_of_block (a := ⟨b, o, none⟩) h⟩
theorem Vals.snoc {xs : List Value} (h : Vals xs) (n : Nat) (hl : xs.length = n * 4) (k m : Int) (q : Nat) (s : ByteArray) : Vals (xs ++ [.int .u8 k, .int .i64 m, .float .f64 q, .string s]) := by
  intro i hi
  simp only [List.length_append, List.length_cons, List.length_nil] at hi
  by_cases h1 : i * 4 < xs.length
  · obtain ⟨k', m', q', s', a, b, c, d⟩ := h i h1
    exact ⟨k', m', q', s', by rw [List.getElem?_append_left (by omega)]; exact a, by rw [List.getElem?_append_left (by omega)]; exact b, by rw [List.getElem?_append_left (by omega)]; exact c, by rw [List.getElem?_append_left (by omega)]; exact d⟩
  · have e : i * 4 = xs.length := by omega
    refine ⟨k, m, q, s, ?_, ?_, ?_, ?_⟩ <;> rw [List.getElem?_append_right (by omega)]
    · rw [show i * 4 - xs.length = 0 by omega]; rfl
    · rw [show i * 4 + 1 - xs.length = 1 by omega]; rfl
    · rw [show i * 4 + 2 - xs.length = 2 by omega]; rfl
    · rw [show i * 4 + 3 - xs.length = 3 by omega]; rfl
theorem own_base {w : World} {base b2 e size n : Nat} {v : Value} {xs : List Value} (h : w.ownsRow base e size v n xs) (hb : b2 ≤ base) : w.ownsRow b2 e size v n xs := by
  refine ⟨h.1, ?_⟩
  rcases h.2 with h | ⟨g, cap, cur, rfl, h1, h2⟩
  · exact .inl h
  · exact .inr ⟨g, cap, cur, rfl, by omega, h2⟩
theorem own_set {w : World} {base e size n : Nat} {v : Value} {xs : List Value} (h : w.ownsRow base e size v n xs) (p : Addr) (u : Value) (hp : p.block < base) : (w.setCell p u).ownsRow base e size v n xs := by
  refine ⟨h.1, ?_⟩
  rcases h.2 with h | ⟨g, cap, cur, rfl, h1, h2, h3⟩
  · exact .inl h
  · refine .inr ⟨g, cap, cur, rfl, h1, ?_, h3⟩
    rw [← h2]
    simp only [World.setCell, Array.getElem?_modify]
    rw [if_neg (by omega)]
theorem R13_step {t : Int} {w W0 w4 : World} {fl k n gg cap : Nat} {xs : List Value} {a m : Int} {q : Nat} {s : ByteArray} (hk : k < fl) (hnk : n ≤ k) (h30 : k < 30) (gb0 : w4.cell? ⟨w.heap.size + 1 + 1, 0, none⟩ = some (.int .u8 t)) {v0 : Value} (gb1 : w4.cell? ⟨w.heap.size + 1 + 1, 1, none⟩ = some v0) (gb2 : w4.frozen? ⟨w.heap.size + 1 + 1, 1, none⟩ = false)
    (hown : w4.ownsRow (w.heap.size + 1 + 1 + 1) 93 4 (.slice (some ⟨gg, 0, none⟩) (n + 1) cap) (n + 1) (xs ++ [.int .u8 a, .int .i64 m, .float .f64 q, .string s])) (hl : xs.length = n * 4) (hv : Vals xs) (hB : Below (w.heap.size + 1 + 1) W0 w4) (hz : w.heap.size + 1 + 1 + 1 ≤ w4.heap.size) :
    R13 t w W0 fl (.int .i64 ((k : Int) + 1)) (w4.setCell ⟨w.heap.size + 1 + 1, 1, none⟩ (.slice (some ⟨gg, 0, none⟩) (n + 1) cap)) :=
  ⟨k + 1, n + 1, _, _, by simp, by omega, by omega, by omega, by rw [World.cell?_setCell_other (h := fun (e : (⟨w.heap.size + 1 + 1, 1, none⟩ : Addr) = ⟨w.heap.size + 1 + 1, 0, none⟩) => by cases e)]; exact gb0, World.cell?_setCell_same _ _ _ gb1, by rw [World.frozen?_setCell]; exact gb2,
    own_set hown _ _ (by simp), hv.snoc n hl a m q s, hB.setCell (Nat.le_refl _) _, by simpa [World.setCell] using hz⟩
theorem R13_skip {t : Int} {w W0 wr : World} {fl k n : Nat} {v : Value} {xs : List Value} (hk : k < fl) (hnk : n ≤ k) (hn : n ≤ 30) (h0 : wr.cell? ⟨w.heap.size + 1 + 1, 0, none⟩ = some (.int .u8 t)) (h1 : wr.cell? ⟨w.heap.size + 1 + 1, 1, none⟩ = some v) (h2 : wr.frozen? ⟨w.heap.size + 1 + 1, 1, none⟩ = false)
    (hown : wr.ownsRow (w.heap.size + 1 + 1 + 1) 93 4 v n xs) (hv : Vals xs) (hB : Below (w.heap.size + 1 + 1) W0 wr) (hz : w.heap.size + 1 + 1 + 1 ≤ wr.heap.size) (o : Obj) :
    R13 t w W0 fl (.int .i64 ((k : Int) + 1)) (wr.alloc o) :=
  have hA : Below wr.heap.size wr (wr.alloc o) := (Below.refl _ wr).alloc (Nat.le_refl _) _
  ⟨k + 1, n, v, xs, by simp, by omega, by omega, hn, (hA.cell (p := ⟨w.heap.size + 1 + 1, 0, none⟩) (by simp; omega)).trans h0, (hA.cell (p := ⟨w.heap.size + 1 + 1, 1, none⟩) (by simp; omega)).trans h1, (hA.frozen (p := ⟨w.heap.size + 1 + 1, 1, none⟩) (by simp; omega)).trans h2,
    hown.alloc o, hv, hB.alloc (by omega) _, by simp; omega⟩
set_option maxRecDepth 100000 in
set_option maxHeartbeats 4000000 in
theorem c13 (t : Int) (fb fo fl fc : Nat) (w : World) (hb : 0 < fl → fb < w.heap.size) (hl : fl ≤ 9223372036854775807) (hr : ∀ i, i < fl → RawAt w fb (fo + i * 4)) :
    Calls Tryz.prog 11 #[.agg #[.int .u8 t, .slice (some ⟨fb, fo, none⟩) fl fc]] w (EvOut t w) := by
  have HR := Lib.hid hr
  clear hr
  go_enter Tryz.func11, Tryz.ntmps11
  go_wp2
  go_loopw [12] (fun i wr => R13 t w (((w.alloc (.cells #[.int .u8 t, .slice (some ⟨fb, fo, none⟩) fl fc] 26)).alloc (.cells #[.int .u8 0, .slice none 0 0] 41)).alloc (.cells #[.int .u8 t, .slice none 0 0] 41)) fl i wr) (fun i _ => fl - (intOf i).toNat)
  case atStart => exact ⟨0, 0, .slice none 0 0, [], rfl, Nat.zero_le _, Nat.le_refl _, by omega, by simp [go_sem], by simp [go_sem], by simp [go_sem], World.ownsRow_nil _ _ _ _, (fun i hi => by simp at hi), Below.refl _ _, by simp⟩
  case round =>
    obtain ⟨k, n, v, xs, rfl, hk, hnk, hn, h0, h1, hf1, hown, hvs, hB, hz⟩ := hrel
    obtain ⟨i0, hi0, hz0, hz1, hz2⟩ := info_parts info84
    have B0 : Below w.heap.size w (((w.alloc (.cells #[.int .u8 t, .slice (some ⟨fb, fo, none⟩) fl fc] 26)).alloc (.cells #[.int .u8 0, .slice none 0 0] 41)).alloc (.cells #[.int .u8 t, .slice none 0 0] 41)) := ((((Below.refl _ w).alloc (Nat.le_refl _) _).alloc (by simp) _).alloc (by simp; omega) _)
    have hBw : Below w.heap.size w wr := B0.trans (hB.mono (by omega))
    have hz1' : w.heap.size + 1 + 1 < wr.heap.size := by omega
    have hne1 : ¬ (w.heap.size + 1 + 1 = wr.heap.size) := by omega
    have hne2 : ¬ (wr.heap.size = w.heap.size + 1 + 1) := by omega
    by_cases hlt : k < fl
    · obtain ⟨a, m, q, s, e0, e1, e2, e3⟩ := HR.out k hlt
      have f0 : wr.cell? ⟨fb, fo + k * 4, none⟩ = some (.int .u8 a) := by rw [hBw.cell (p := ⟨fb, fo + k * 4, none⟩) (hb (by omega))]; exact e0
      have f1 : wr.cell? ⟨fb, fo + k * 4 + 1, none⟩ = some (.int .i64 m) := by rw [hBw.cell (p := ⟨fb, fo + k * 4 + 1, none⟩) (hb (by omega))]; exact e1
      have f2 : wr.cell? ⟨fb, fo + k * 4 + 2, none⟩ = some (.int .u64 q) := by rw [hBw.cell (p := ⟨fb, fo + k * 4 + 2, none⟩) (hb (by omega))]; exact e2
      have f3 : wr.cell? ⟨fb, fo + k * 4 + 3, none⟩ = some (.string s) := by rw [hBw.cell (p := ⟨fb, fo + k * 4 + 3, none⟩) (hb (by omega))]; exact e3
      clear e0 e1 e2 e3
      have HV := Lib.hid hvs; have HB := Lib.hid hB; have HW := Lib.hid hBw; have HO := Lib.hid hown
      have ag : v.ownBlock ≠ some wr.heap.size := fun h => by have := (hown.lt _ h).2; omega
      have ab : v.ownBlock ≠ some (w.heap.size + 1 + 1) := fun h => by have := (hown.lt _ h).1; omega
      clear hvs hB hBw B0 hown
      by_cases h30 : k < 30
      · go_wp2
        go_region_law (first
            | (go_simp; go_at_call 31; refine (c24 a m q s _).mono ?_; rintro e w2 ⟨rfl, hb2⟩; obtain ⟨hc2, hf2⟩ := bcell hb2; have hz2' : wr.heap.size < w2.heap.size := (by have := hb2.size; simp at this; omega); have hz3' : w.heap.size + 1 + 1 < w2.heap.size := (by omega); have hn3 : ¬ (w.heap.size + 1 + 1 = w2.heap.size) := (by omega); have hn4 : ¬ (w2.heap.size = w.heap.size + 1 + 1) := (by omega); have HO2 := Lib.hid (own_below ((HO.out.alloc _).drew) hb2); have HB2 := Lib.hid ((((Below.refl _ wr).alloc (Nat.le_refl _) _).drew).trans (hb2.mono (by simp))); clear hb2; have gc1 := (HB2.out.cell (p := ⟨w.heap.size + 1 + 1, 1, none⟩) hz1').trans h1)
            | (refine step_append_lies _ (by rfl) _ _ _ (by rfl) (w.heap.size + 1 + 1 + 1) 93 i0 _ 4 40 Tryz.underlying39 hi0 hz0 hz1 hz2 rfl (by omega) v n xs (by rfl) (HO2.out.alloc _) ⟨w2.heap.size, 0, none⟩ 1 1 [.int .u8 a, .int .i64 m, .float .f64 q.toNat, .string s] (by rfl) (by rfl) (World.news_of_block (cs := #[.int .u8 a, .int .i64 m, .float .f64 q.toNat, .string s]) (t := 93) (fr := (0, 0)) (heap_alloc_new w2 _)) (by simp [Value.oneCell']) (by omega) (by unfold maxLen; omega) (by omega) (by simp; omega) (w2.heap.size + 1) (by simp) ?_; intro gg cap w4 hown4 hgrow hat hlt4; have ga := grown_at hgrow (b := wr.heap.size) (by simp; omega) ag; have gb := grown_at hgrow (b := w.heap.size + 1 + 1) (by simp; omega) ab; obtain ⟨ga1, ga2⟩ := ga; have gb0 := (gb.1 0).trans (((HB2.out.alloc HB2.out.size _).cell (p := ⟨w.heap.size + 1 + 1, 0, none⟩) hz1').trans h0); have gb1 := (gb.1 1).trans (((HB2.out.alloc HB2.out.size _).cell (p := ⟨w.heap.size + 1 + 1, 1, none⟩) hz1').trans h1); have gb2 := (gb.2 1).trans (((HB2.out.alloc HB2.out.size _).frozen (p := ⟨w.heap.size + 1 + 1, 1, none⟩) hz1').trans hf1); clear gb; have HO4 := Lib.hid hown4; have HG4 := Lib.hid hgrow; have HT := Lib.hid hat; clear hown4 hgrow hat))
        all_goals go_wp2
        all_goals go_roundw
        all_goals first
          | (simp [intOf]; omega)
          | exact R13_step hlt hnk h30 gb0 gb1 gb2 HO4.out HO.out.1 HV.out ((HB.out.trans ((HB2.out.alloc HB2.out.size _).mono (by omega))).grown HG4.out (by simp; omega) (fun j hj => by have := (HO.out.lt j hj).1; omega)) (by have := HG4.out.size; simp at this; omega)
      · go_wp2
        go_roundw
        case rel => exact R13_skip hlt hnk hn h0 h1 hf1 HO.out HV.out HB.out hz _
        case measure => simp [intOf]; omega
    · have q0 : wr.cell? ⟨w.heap.size + 1, 0, none⟩ = some (.int .u8 0) := (hB.cell (p := ⟨w.heap.size + 1, 0, none⟩) (by simp)).trans (by simp [go_sem])
      have q1 : wr.cell? ⟨w.heap.size + 1, 1, none⟩ = some (.slice none 0 0) := (hB.cell (p := ⟨w.heap.size + 1, 1, none⟩) (by simp)).trans (by simp [go_sem])
      have q2 : wr.frozen? ⟨w.heap.size + 1, 0, none⟩ = false := (hB.frozen (p := ⟨w.heap.size + 1, 0, none⟩) (by simp)).trans (by simp [go_sem])
      have q3 : wr.frozen? ⟨w.heap.size + 1, 1, none⟩ = false := (hB.frozen (p := ⟨w.heap.size + 1, 1, none⟩) (by simp)).trans (by simp [go_sem])
      have HV := Lib.hid hvs; have HW := Lib.hid hBw; have HO := Lib.hid hown
      clear hvs hB hBw B0
      have hvv : ∃ p l c, v = .slice p l c := by
        rcases hown.2 with ⟨h, _⟩ | ⟨g, c, _, h, _⟩
        · exact ⟨_, _, _, h⟩
        · exact ⟨_, _, _, h⟩
      clear hown
      obtain ⟨vp, vl, vc, rfl⟩ := hvv
      go_wp2
      refine bodyPost_ret (v := .agg #[.int .u8 t, .slice vp vl vc]) (by simp [results, Tryz.results11, go_sem, q0, q1]) rfl ⟨_, n, xs, rfl, hn, own_base (own_set (own_set HO.out _ _ (by simp)) _ _ (by simp)) (by omega), HV.out, (HW.out.setCell (by simp) _).setCell (by simp) _⟩
theorem RawAt.mono {w w' : World} {b o : Nat} (h : RawAt w b o) (hb : b < w.heap.size) (hB : Below w.heap.size w w') : RawAt w' b o := by
  obtain ⟨k, n, q, s, a, b', c, d⟩ := h
  exact ⟨k, n, q, s, by rw [hB.cell (p := ⟨b, o, none⟩) hb]; exact a, by rw [hB.cell (p := ⟨b, o + 1, none⟩) hb]; exact b', by rw [hB.cell (p := ⟨b, o + 2, none⟩) hb]; exact c, by rw [hB.cell (p := ⟨b, o + 3, none⟩) hb]; exact d⟩
/-- A row of fields that came in. -/
def Raws (w : World) (fv : Value) : Prop := (∃ p c, fv = .slice p 0 c) ∨ ∃ fb fo fl fc, fv = .slice (some ⟨fb, fo, none⟩) fl fc ∧ (0 < fl → fb < w.heap.size) ∧ fl ≤ 9223372036854775807 ∧ ∀ i, i < fl → RawAt w fb (fo + i * 4)
theorem Raws.mono {w w' : World} {fv : Value} (h : Raws w fv) (hB : Below w.heap.size w w') : Raws w' fv := by
  rcases h with ⟨p, c, rfl⟩ | ⟨fb, fo, fl, fc, rfl, h1, h2, h3⟩
  · exact .inl ⟨_, _, rfl⟩
  · exact .inr ⟨fb, fo, fl, fc, rfl, fun hp => Nat.lt_of_lt_of_le (h1 hp) hB.size, h2, fun i hi => (h3 i hi).mono (h1 (by omega)) hB⟩
set_option maxRecDepth 100000 in
set_option maxHeartbeats 1000000 in
theorem c13z (t : Int) (p : Option Addr) (c : Nat) (w : World) : Calls Tryz.prog 11 #[.agg #[.int .u8 t, .slice p 0 c]] w (EvOut t w) := by
  go_enter Tryz.func11, Tryz.ntmps11
  go_wp2
  refine wp_loop_rounds 1 ?_
  rw [rounds_succ]
  go_wp2
  exact bodyPost_ret (v := .agg #[.int .u8 t, .slice none 0 0]) (by simp [results, Tryz.results11, go_sem]) rfl ⟨.slice none 0 0, 0, [], rfl, by omega, World.ownsRow_nil _ _ _ _, (fun i hi => by simp at hi), (((Below.refl _ w).alloc (Nat.le_refl _) _).alloc (by simp) _).alloc (by simp; omega) _⟩
theorem c13any (t : Int) (fv : Value) (w : World) (h : Raws w fv) : Calls Tryz.prog 11 #[.agg #[.int .u8 t, fv]] w (EvOut t w) := by
  rcases h with ⟨p, c, rfl⟩ | ⟨fb, fo, fl, fc, rfl, h1, h2, h3⟩
  · exact c13z t p c w
  · exact c13 t fb fo fl fc w h1 h2 h3
def SomeB (w : World) (e : Ending) (w' : World) : Prop := ∃ b, e = .returned (.bool b) ∧ Below w.heap.size w w'
set_option maxRecDepth 100000 in
set_option maxHeartbeats 4000000 in
theorem c14 (t : Int) (g n cap : Nat) (w : World) (hn : n ≤ 40) (hg : g < w.heap.size) (hr : ∀ i, i < n → ∃ s, w.cell? ⟨g, i * 4 + 3, none⟩ = some (.string s)) :
    Calls Tryz.prog 26 #[.agg #[.int .u8 t, .slice (some ⟨g, 0, none⟩) n cap]] w (SomeB w) := by
  have HR := Lib.hid hr
  clear hr
  go_enter Tryz.func26, Tryz.ntmps26
  go_wp2
  go_loop [3, 13] (fun x i => ∃ (k : Nat) (y : Int), i = .int .i64 k ∧ k ≤ n ∧ x = .int .i64 y ∧ 0 ≤ y ∧ y ≤ 40 + 3000 * k) (fun _ i => n - (intOf i).toNat)
  case atStart => exact ⟨0, n, rfl, Nat.zero_le _, rfl, by omega, by omega⟩
  case round =>
    obtain ⟨k, y, rfl, hk, rfl, hy0, hy1⟩ := hrel
    by_cases hlt : k < n
    · obtain ⟨s, e0⟩ := HR.out k hlt
      go_wp2
      go_roundw
      case rel => exact ⟨k + 1, _, by simp, by omega, rfl, by split <;> omega, by split <;> omega⟩
      case measure => simp [intOf]; omega
    · go_wp2
      go_ret
      exact ⟨_, rfl, (Below.refl _ w).alloc (Nat.le_refl _) _⟩
theorem c14n (t : Int) (w : World) : Calls Tryz.prog 26 #[.agg #[.int .u8 t, .slice none 0 0]] w (SomeB w) :=
  (Go.Ai.ai_tab progOk' (Checked.mixed Tryz.checked) 1000 100 26 [.agg #[.int .u8 t, .slice none 0 0]] (.bool false) rfl [] (fun ts => by kernel_rfl) rfl w (Go.Ai.tabled_nil _)).mono fun e w' ⟨h1, h2⟩ => ⟨false, h1, h2⟩
theorem c14own (t : Int) (fv : Value) (n base : Nat) (xs : List Value) (w : World) (hn : n ≤ 30) (ho : w.ownsRow base 93 4 fv n xs) (hv : Vals xs) : Calls Tryz.prog 26 #[.agg #[.int .u8 t, fv]] w (SomeB w) := by
  rcases ho.2 with ⟨rfl, rfl⟩ | ⟨g, cap, cur, rfl, h1, h2, h3⟩
  · exact c14n t w
  · refine c14 t g n cap w (by omega) (Array.getElem?_eq_some_iff.1 h2).1 fun i hi => ?_
    obtain ⟨k, m, q, s, _, _, _, hs⟩ := hv i (by rw [ho.1]; omega)
    refine ⟨s, ?_⟩
    have := ho.cells (g := g) rfl (i * 4 + 3) _ hs
    rw [Addr.add_lit, Nat.zero_add] at this
    exact this
section
variable {H : Type} {enc : TypeId × Value → H} {W : World}
theorem field_of {a : Addr} {fuel : Nat} {y : DataW H × List MemPlace} {cs : List Value} (hc : W.cells? 0 a 4 = some cs) (h : DataW.trod enc Tryz.prog W 0 (fun _ => true) true fuel 90 cs = some y) :
    ∃ (k n q : Int) (s : ByteArray), W.cell? (a.add 0) = some (.int .u8 k) ∧ W.cell? (a.add 1) = some (.int .i64 n) ∧ W.cell? (a.add 2) = some (.int .u64 q) ∧ W.cell? (a.add 3) = some (.string s) := by
  obtain ⟨_, hl, hat⟩ := World.cells?_some hc
  match cs, hl with
  | [c0, c1, c2, c3], _ =>
    have g0 := hat 0 (by omega); have g1 := hat 1 (by omega); have g2 := hat 2 (by omega); have g3 := hat 3 (by omega)
    obtain ⟨y0, y1, y2, y3, n, _, _, h0, h1, h2, h3⟩ := Go.Joins.trod_struct4 Tryz.underlying90 h
    have e5 : Tryz.prog.cellsOf 5 = 1 := by kernel_rfl
    have e2 : Tryz.prog.cellsOf 2 = 1 := by kernel_rfl
    have e34 : Tryz.prog.cellsOf 23 = 1 := by kernel_rfl
    have e9 : Tryz.prog.cellsOf 9 = 1 := by kernel_rfl
    simp only [e5, e2, e34, e9, List.drop_zero, List.drop_succ_cons, List.take_succ_cons, List.take_zero] at h0 h1 h2 h3
    obtain ⟨z0, f0, _⟩ := DataW.trod_int Tryz.underlying5 h0
    obtain ⟨z1, f1, _⟩ := DataW.trod_int Tryz.underlying2 h1
    obtain ⟨z2, f2, _⟩ := DataW.trod_int Tryz.underlying23 h2
    obtain ⟨z3, f3, _⟩ := DataW.trod_string Tryz.underlying9 h3
    simp only [List.cons.injEq, and_true] at f0 f1 f2 f3
    subst f0 f1 f2 f3
    exact ⟨z0, z1, z2, z3, g0, g1, g2, g3⟩
theorem raws_of {v : Value} {fuel : Nat} {y : DataW H × List MemPlace} (h : DataW.trod enc Tryz.prog W 0 (fun _ => true) true fuel 24 [v] = some y) : Raws W v ∧ ∃ p n m, v = .slice p n m := by
  rcases DataW.trod_slice Tryz.underlying24 h with ⟨h, _⟩ | ⟨⟨fb, fo, sp⟩, len, cap, elems, rest, n, _, hcs, _, _, hl, hm, hlen, hel, _, _⟩
  · obtain rfl : v = .slice none 0 0 := by simpa using h
    exact ⟨.inl ⟨_, _, rfl⟩, _, _, _, rfl⟩
  · obtain rfl : v = .slice (some ⟨fb, fo, sp⟩) len cap := by simpa using hcs
    refine ⟨?_, _, _, _, rfl⟩
    rcases Nat.eq_zero_or_pos len with rfl | hpos
    · exact .inl ⟨_, _, rfl⟩
    · have e81 : Tryz.prog.cellsOf 90 = 4 := by kernel_rfl
      have at4 : ∀ i, i < len → ∃ (k n q : Int) (s : ByteArray), W.cell? (((⟨fb, fo, sp⟩ : Addr).add (i * 4)).add 0) = some (.int .u8 k) ∧ W.cell? (((⟨fb, fo, sp⟩ : Addr).add (i * 4)).add 1) = some (.int .i64 n) ∧ W.cell? (((⟨fb, fo, sp⟩ : Addr).add (i * 4)).add 2) = some (.int .u64 q) ∧ W.cell? (((⟨fb, fo, sp⟩ : Addr).add (i * 4)).add 3) = some (.string s) := fun i hi => by
        have h1 := hel i hi
        rw [e81, List.getElem?_eq_getElem (by omega)] at h1
        obtain ⟨cs, hc, ht⟩ := Option.bind_eq_some_iff.1 h1
        exact field_of hc ht
      have hsp : sp = none := by
        cases sp with
        | none => rfl
        | some s =>
          obtain ⟨k, _, _, _, h0, _⟩ := at4 0 hpos
          unfold World.cell? at h0
          simp [Addr.add] at h0
          split at h0 <;> cases h0
      subst hsp
      refine .inr ⟨fb, fo, len, cap, rfl, fun _ => ?_, by unfold maxLen at hm; omega, fun i hi => ?_⟩
      · obtain ⟨k, _, _, _, h0, _⟩ := at4 0 hpos
        rw [Addr.add_lit, Addr.add_lit] at h0
        exact World.block_lt_of_cell? W _ h0
      · obtain ⟨k, n, q, s, h0, h1, h2, h3⟩ := at4 i hi
        rw [Addr.add_lit, Addr.add_lit] at h0 h1 h2 h3
        exact ⟨k, n, q, s, by simpa using h0, h1, h2, h3⟩
end
end Go.Proofs.EV
