/- Proved: 'RunsNil' answers true for every input, and leaves what it was handed as it was; its tied card. Conditions: the card's own. -/
import Derived.Test.YtmjbkhgkhdkbjaaGreatDoorRows
import Derived.WalkKit
import Derived.ProofKit
import Derived.OpenShut
import Derived.Stop.Joined
import Derived.LaidMore
import Derived.Lay
import Derived.SevenTiedAt
import Derived.Test.YtmjbkhgkhdkbjaaGreatDoorCards
import Derived.Test.YtmjbkhgkhdkbjaaGreatDoorTie
import Derived.Test.YtmjbkhgkhdkbjaaGreatDoorAd
import Derived.BigQuiet
import Derived.ChangeSame
import Derived.Deep.AppendLies
import Derived.Deep.QuietTactic
import Derived.Deep.RegionHeld3
import Derived.Deep.RegionLaw
import Derived.Test.YtmjbkhgkhdkbjaaGreatDoorJc
import Derived.Lib.Hide
import Derived.LoopN
import Derived.OwnWalk
import Derived.WalkMore
import Derived.Lib.SmallJoins
namespace Go.Proofs.YtmjbkhgkhdkbjaaGreatDoor.runsNil
open Go.ChangeShapes Go.WideShapes Go.ChangeAt Go.RowKit
set_option linter.unusedVariables false
set_option linter.unusedSimpArgs false

theorem progOk' : Go.Ai.progOk Tryz.prog = true := by kernel_rfl
theorem outer (a : Array Value) (h : a.toList.length = 1) : ∃ v0, a = #[v0] := by
  obtain ⟨l⟩ := a
  match l, h with
  | [v0], _ => exact ⟨v0, rfl⟩
theorem own : ownKnob Tryz.prog.godebug = none := by kernel_rfl
theorem laidOut' : laidOutB Tryz.prog = true := by kernel_rfl

theorem bcell {W w1 : World} (hb : Below W.heap.size W w1) : (∀ b o, b < W.heap.size → w1.cell? ⟨b, o, none⟩ = W.cell? ⟨b, o, none⟩) ∧ (∀ b o, b < W.heap.size → w1.frozen? ⟨b, o, none⟩ = W.frozen? ⟨b, o, none⟩) :=
  ⟨fun b o h => hb.cell (p := ⟨b, o, none⟩) h, fun b o h => hb.frozen (p := ⟨b, o, none⟩) h⟩
theorem run_store_float (P : Program) (w : World) (a : Addr) (k : FloatKind) (n : Nat) (m : Mode) : (store a (.float k n) m).run P w = stored P w a (.float k n) m := run_store P w a _ m rfl
theorem h32 (n : Int) (w : World) : (callFunc 32 #[.int .u64 n]).run Tryz.prog w = .ok (.value (.float .f64 n.toNat)) w := Go.Ai.pureRun_spec (callFunc 32 #[.int .u64 n]) _ (by kernel_rfl) w
attribute [local go_sem] run_store_float
set_option maxRecDepth 100000 in
theorem c24 (k n b : Int) (s : ByteArray) (w : World) : Calls Tryz.prog 24 #[.agg #[.int .u8 k, .int .i64 n, .int .u64 b, .string s]] w fun e w' => e = .returned (.agg #[.int .u8 k, .int .i64 n, .float .f64 b.toNat, .string s]) ∧ Below w.heap.size w w' := by
  have e32 := fun w => h32 b w
  go_enter Tryz.func24, Tryz.ntmps24
  go_wp2
  go_region_held3 (fun w' => w'.cell? ⟨w.heap.size, 0, none⟩ = some (.int .u8 k) ∧ w'.cell? ⟨w.heap.size, 1, none⟩ = some (.int .i64 n) ∧ w'.cell? ⟨w.heap.size, 2, none⟩ = some (.int .u64 b) ∧ w'.cell? ⟨w.heap.size, 3, none⟩ = some (.string s)) (go_keep) (fail)
  all_goals go_wp2
  exact bodyPost_ret (v := .agg #[.int .u8 k, .int .i64 n, .float .f64 b.toNat, .string s]) (by simp [results, Tryz.results24, go_sem]) rfl ⟨rfl, (((Below.refl _ w).alloc (Nat.le_refl _) _).alloc (by simp) _).drew⟩
/-- The cells of a field that came in. -/
def RawAt (w : World) (b o : Nat) : Prop := ∃ (k n q : Int) (s : ByteArray), w.cell? ⟨b, o, none⟩ = some (.int .u8 k) ∧ w.cell? ⟨b, o + 1, none⟩ = some (.int .i64 n) ∧ w.cell? ⟨b, o + 2, none⟩ = some (.int .u64 q) ∧ w.cell? ⟨b, o + 3, none⟩ = some (.string s)
/-- The cells of fields of the program's own. -/
def Vals (xs : List Value) : Prop := ∀ i, i * 4 < xs.length → ∃ (k n : Int) (q : Nat) (s : ByteArray), xs[i * 4]? = some (.int .u8 k) ∧ xs[i * 4 + 1]? = some (.int .i64 n) ∧ xs[i * 4 + 2]? = some (.float .f64 q) ∧ xs[i * 4 + 3]? = some (.string s)
def EvOut (t : Int) (w : World) (e : Ending) (w' : World) : Prop := ∃ v n xs, e = .returned (.agg #[.int .u8 t, v]) ∧ n ≤ 30 ∧ w'.ownsRow w.heap.size 84 4 v n xs ∧ Vals xs ∧ Below w.heap.size w w'
def R13 (t : Int) (w W0 : World) (fl : Nat) (i : Value) (wr : World) : Prop := ∃ (k n : Nat) (v : Value) (xs : List Value), i = .int .i64 k ∧ k ≤ fl ∧ n ≤ k ∧ n ≤ 30 ∧ wr.cell? ⟨w.heap.size + 1 + 1, 0, none⟩ = some (.int .u8 t) ∧ wr.cell? ⟨w.heap.size + 1 + 1, 1, none⟩ = some v ∧ wr.frozen? ⟨w.heap.size + 1 + 1, 1, none⟩ = false ∧ wr.ownsRow (w.heap.size + 1 + 1 + 1) 84 4 v n xs ∧ Vals xs ∧ Below (w.heap.size + 1 + 1) W0 wr ∧ w.heap.size + 1 + 1 + 1 ≤ wr.heap.size
theorem info84 : (Tryz.prog.info? 84).map (fun i => (i.zero, i.size, i.bytes)) = some (some (.agg #[.int .u8 0, .int .i64 0, .float .f64 0, .string ⟨#[]⟩]), 4, 40) := by kernel_rfl
theorem own_below {w w' : World} {base e size n : Nat} {v : Value} {xs : List Value} (h : w.ownsRow base e size v n xs) (hb : Below w.heap.size w w') : w'.ownsRow base e size v n xs := by
  refine ⟨h.1, ?_⟩
  rcases h.2 with h | ⟨g, cap, cur, rfl, h1, h2, h3⟩
  · exact .inl h
  · exact .inr ⟨g, cap, cur, rfl, h1, (hb.block g (Array.getElem?_eq_some_iff.1 h2).1).trans h2, h3⟩
theorem grown_at {w w' : World} {row : Option Nat} (hg : w.grownBy w' row) {b : Nat} (hb : b < w.heap.size) (hne : row ≠ some b) : (∀ o, w'.cell? ⟨b, o, none⟩ = w.cell? ⟨b, o, none⟩) ∧ (∀ o, w'.frozen? ⟨b, o, none⟩ = w.frozen? ⟨b, o, none⟩) :=
  have h := hg.block b hb (Ne.symm hne)
  ⟨fun o => World.cell?_of_block (a := ⟨b, o, none⟩) h, fun o => World.frozen?_of_block (a := ⟨b, o, none⟩) h⟩
theorem Vals.snoc {xs : List Value} (h : Vals xs) (n : Nat) (hl : xs.length = n * 4) (k m : Int) (q : Nat) (s : ByteArray) : Vals (xs ++ [.int .u8 k, .int .i64 m, .float .f64 q, .string s]) := by
  intro i hi
  simp only [List.length_append, List.length_cons, List.length_nil] at hi
  by_cases h1 : i * 4 < xs.length
  · obtain ⟨k', m', q', s', a, b, c, d⟩ := h i h1
    exact ⟨k', m', q', s', by rw [List.getElem?_append_left (by omega)]; exact a, by rw [List.getElem?_append_left (by omega)]; exact b, by rw [List.getElem?_append_left (by omega)]; exact c, by rw [List.getElem?_append_left (by omega)]; exact d⟩
  · have e : i * 4 = xs.length := by omega
    refine ⟨k, m, q, s, ?_, ?_, ?_, ?_⟩ <;> rw [List.getElem?_append_right (by omega)]
    · rw [show i * 4 - xs.length = 0 by omega]; rfl
    · rw [show i * 4 + 1 - xs.length = 1 by omega]; rfl
    · rw [show i * 4 + 2 - xs.length = 2 by omega]; rfl
    · rw [show i * 4 + 3 - xs.length = 3 by omega]; rfl
theorem own_base {w : World} {base b2 e size n : Nat} {v : Value} {xs : List Value} (h : w.ownsRow base e size v n xs) (hb : b2 ≤ base) : w.ownsRow b2 e size v n xs := by
  refine ⟨h.1, ?_⟩
  rcases h.2 with h | ⟨g, cap, cur, rfl, h1, h2⟩
  · exact .inl h
  · exact .inr ⟨g, cap, cur, rfl, by omega, h2⟩
theorem own_set {w : World} {base e size n : Nat} {v : Value} {xs : List Value} (h : w.ownsRow base e size v n xs) (p : Addr) (u : Value) (hp : p.block < base) : (w.setCell p u).ownsRow base e size v n xs := by
  refine ⟨h.1, ?_⟩
  rcases h.2 with h | ⟨g, cap, cur, rfl, h1, h2, h3⟩
  · exact .inl h
  · refine .inr ⟨g, cap, cur, rfl, h1, ?_, h3⟩
    rw [← h2]
    simp only [World.setCell, Array.getElem?_modify]
    rw [if_neg (by omega)]
theorem R13_step {t : Int} {w W0 w4 : World} {fl k n gg cap : Nat} {xs : List Value} {a m : Int} {q : Nat} {s : ByteArray} (hk : k < fl) (hnk : n ≤ k) (h30 : k < 30) (gb0 : w4.cell? ⟨w.heap.size + 1 + 1, 0, none⟩ = some (.int .u8 t)) {v0 : Value} (gb1 : w4.cell? ⟨w.heap.size + 1 + 1, 1, none⟩ = some v0) (gb2 : w4.frozen? ⟨w.heap.size + 1 + 1, 1, none⟩ = false)
    (hown : w4.ownsRow (w.heap.size + 1 + 1 + 1) 84 4 (.slice (some ⟨gg, 0, none⟩) (n + 1) cap) (n + 1) (xs ++ [.int .u8 a, .int .i64 m, .float .f64 q, .string s])) (hl : xs.length = n * 4) (hv : Vals xs) (hB : Below (w.heap.size + 1 + 1) W0 w4) (hz : w.heap.size + 1 + 1 + 1 ≤ w4.heap.size) :
    R13 t w W0 fl (.int .i64 ((k : Int) + 1)) (w4.setCell ⟨w.heap.size + 1 + 1, 1, none⟩ (.slice (some ⟨gg, 0, none⟩) (n + 1) cap)) :=
  ⟨k + 1, n + 1, _, _, by simp, by omega, by omega, by omega, by rw [World.cell?_setCell_other (h := fun (e : (⟨w.heap.size + 1 + 1, 1, none⟩ : Addr) = ⟨w.heap.size + 1 + 1, 0, none⟩) => by cases e)]; exact gb0, World.cell?_setCell_same _ _ _ gb1, by rw [World.frozen?_setCell]; exact gb2,
    own_set hown _ _ (by simp), hv.snoc n hl a m q s, hB.setCell (Nat.le_refl _) _, by simpa [World.setCell] using hz⟩
theorem R13_skip {t : Int} {w W0 wr : World} {fl k n : Nat} {v : Value} {xs : List Value} (hk : k < fl) (hnk : n ≤ k) (hn : n ≤ 30) (h0 : wr.cell? ⟨w.heap.size + 1 + 1, 0, none⟩ = some (.int .u8 t)) (h1 : wr.cell? ⟨w.heap.size + 1 + 1, 1, none⟩ = some v) (h2 : wr.frozen? ⟨w.heap.size + 1 + 1, 1, none⟩ = false)
    (hown : wr.ownsRow (w.heap.size + 1 + 1 + 1) 84 4 v n xs) (hv : Vals xs) (hB : Below (w.heap.size + 1 + 1) W0 wr) (hz : w.heap.size + 1 + 1 + 1 ≤ wr.heap.size) (o : Obj) :
    R13 t w W0 fl (.int .i64 ((k : Int) + 1)) (wr.alloc o) :=
  have hA : Below wr.heap.size wr (wr.alloc o) := (Below.refl _ wr).alloc (Nat.le_refl _) _
  ⟨k + 1, n, v, xs, by simp, by omega, by omega, hn, (hA.cell (p := ⟨w.heap.size + 1 + 1, 0, none⟩) (by simp; omega)).trans h0, (hA.cell (p := ⟨w.heap.size + 1 + 1, 1, none⟩) (by simp; omega)).trans h1, (hA.frozen (p := ⟨w.heap.size + 1 + 1, 1, none⟩) (by simp; omega)).trans h2,
    hown.alloc o, hv, hB.alloc (by omega) _, by simp; omega⟩
set_option maxRecDepth 100000 in
set_option maxHeartbeats 4000000 in
theorem c13 (t : Int) (fb fo fl fc : Nat) (w : World) (hb : 0 < fl → fb < w.heap.size) (hl : fl ≤ 9223372036854775807) (hr : ∀ i, i < fl → RawAt w fb (fo + i * 4)) :
    Calls Tryz.prog 13 #[.agg #[.int .u8 t, .slice (some ⟨fb, fo, none⟩) fl fc]] w (EvOut t w) := by
  have HR := Lib.hid hr
  clear hr
  go_enter Tryz.func13, Tryz.ntmps13
  go_wp2
  go_loopw [12] (fun i wr => R13 t w (((w.alloc (.cells #[.int .u8 t, .slice (some ⟨fb, fo, none⟩) fl fc] 51)).alloc (.cells #[.int .u8 0, .slice none 0 0] 37)).alloc (.cells #[.int .u8 t, .slice none 0 0] 37)) fl i wr) (fun i _ => fl - (intOf i).toNat)
  case atStart => exact ⟨0, 0, .slice none 0 0, [], rfl, Nat.zero_le _, Nat.le_refl _, by omega, by simp [go_sem], by simp [go_sem], by simp [go_sem], World.ownsRow_nil _ _ _ _, (fun i hi => by simp at hi), Below.refl _ _, by simp⟩
  case round =>
    obtain ⟨k, n, v, xs, rfl, hk, hnk, hn, h0, h1, hf1, hown, hvs, hB, hz⟩ := hrel
    obtain ⟨i0, hi0, hz0, hz1, hz2⟩ := info_parts info84
    have B0 : Below w.heap.size w (((w.alloc (.cells #[.int .u8 t, .slice (some ⟨fb, fo, none⟩) fl fc] 51)).alloc (.cells #[.int .u8 0, .slice none 0 0] 37)).alloc (.cells #[.int .u8 t, .slice none 0 0] 37)) := ((((Below.refl _ w).alloc (Nat.le_refl _) _).alloc (by simp) _).alloc (by simp; omega) _)
    have hBw : Below w.heap.size w wr := B0.trans (hB.mono (by omega))
    have hz1' : w.heap.size + 1 + 1 < wr.heap.size := by omega
    have hne1 : ¬ (w.heap.size + 1 + 1 = wr.heap.size) := by omega
    have hne2 : ¬ (wr.heap.size = w.heap.size + 1 + 1) := by omega
    by_cases hlt : k < fl
    · obtain ⟨a, m, q, s, e0, e1, e2, e3⟩ := HR.out k hlt
      have f0 : wr.cell? ⟨fb, fo + k * 4, none⟩ = some (.int .u8 a) := by rw [hBw.cell (p := ⟨fb, fo + k * 4, none⟩) (hb (by omega))]; exact e0
      have f1 : wr.cell? ⟨fb, fo + k * 4 + 1, none⟩ = some (.int .i64 m) := by rw [hBw.cell (p := ⟨fb, fo + k * 4 + 1, none⟩) (hb (by omega))]; exact e1
      have f2 : wr.cell? ⟨fb, fo + k * 4 + 2, none⟩ = some (.int .u64 q) := by rw [hBw.cell (p := ⟨fb, fo + k * 4 + 2, none⟩) (hb (by omega))]; exact e2
      have f3 : wr.cell? ⟨fb, fo + k * 4 + 3, none⟩ = some (.string s) := by rw [hBw.cell (p := ⟨fb, fo + k * 4 + 3, none⟩) (hb (by omega))]; exact e3
      clear e0 e1 e2 e3
      have HV := Lib.hid hvs; have HB := Lib.hid hB; have HW := Lib.hid hBw; have HO := Lib.hid hown
      have ag : v.ownBlock ≠ some wr.heap.size := fun h => by have := (hown.lt _ h).2; omega
      have ab : v.ownBlock ≠ some (w.heap.size + 1 + 1) := fun h => by have := (hown.lt _ h).1; omega
      clear hvs hB hBw B0 hown
      by_cases h30 : k < 30
      · go_wp2
        go_region_law (first
            | (go_simp; go_at_call 24; refine (c24 a m q s _).mono ?_; rintro e w2 ⟨rfl, hb2⟩; obtain ⟨hc2, hf2⟩ := bcell hb2; have hz2' : wr.heap.size < w2.heap.size := (by have := hb2.size; simp at this; omega); have hz3' : w.heap.size + 1 + 1 < w2.heap.size := (by omega); have hn3 : ¬ (w.heap.size + 1 + 1 = w2.heap.size) := (by omega); have hn4 : ¬ (w2.heap.size = w.heap.size + 1 + 1) := (by omega); have HO2 := Lib.hid (own_below ((HO.out.alloc _).drew) hb2); have HB2 := Lib.hid ((((Below.refl _ wr).alloc (Nat.le_refl _) _).drew).trans (hb2.mono (by simp))); clear hb2; have gc1 := (HB2.out.cell (p := ⟨w.heap.size + 1 + 1, 1, none⟩) hz1').trans h1)
            | (refine step_append_lies _ (by rfl) _ _ _ (by rfl) (w.heap.size + 1 + 1 + 1) 84 i0 _ 4 40 Tryz.underlying35 hi0 hz0 hz1 hz2 rfl (by omega) v n xs (by rfl) (HO2.out.alloc _) ⟨w2.heap.size, 0, none⟩ 1 1 [.int .u8 a, .int .i64 m, .float .f64 q.toNat, .string s] (by rfl) (by rfl) (World.news_of_block (cs := #[.int .u8 a, .int .i64 m, .float .f64 q.toNat, .string s]) (t := 84) (fr := (0, 0)) (heap_alloc_new w2 _)) (by simp [Value.oneCell']) (by omega) (by unfold maxLen; omega) (by omega) (by simp; omega) (w2.heap.size + 1) (by simp) ?_; intro gg cap w4 hown4 hgrow hat hlt4; have ga := grown_at hgrow (b := wr.heap.size) (by simp; omega) ag; have gb := grown_at hgrow (b := w.heap.size + 1 + 1) (by simp; omega) ab; obtain ⟨ga1, ga2⟩ := ga; have gb0 := (gb.1 0).trans (((HB2.out.alloc HB2.out.size _).cell (p := ⟨w.heap.size + 1 + 1, 0, none⟩) hz1').trans h0); have gb1 := (gb.1 1).trans (((HB2.out.alloc HB2.out.size _).cell (p := ⟨w.heap.size + 1 + 1, 1, none⟩) hz1').trans h1); have gb2 := (gb.2 1).trans (((HB2.out.alloc HB2.out.size _).frozen (p := ⟨w.heap.size + 1 + 1, 1, none⟩) hz1').trans hf1); clear gb; have HO4 := Lib.hid hown4; have HG4 := Lib.hid hgrow; have HT := Lib.hid hat; clear hown4 hgrow hat))
        all_goals go_wp2
        all_goals go_roundw
        all_goals first
          | (simp [intOf]; omega)
          | exact R13_step hlt hnk h30 gb0 gb1 gb2 HO4.out HO.out.1 HV.out ((HB.out.trans ((HB2.out.alloc HB2.out.size _).mono (by omega))).grown HG4.out (by simp; omega) (fun j hj => by have := (HO.out.lt j hj).1; omega)) (by have := HG4.out.size; simp at this; omega)
      · go_wp2
        go_roundw
        case rel => exact R13_skip hlt hnk hn h0 h1 hf1 HO.out HV.out HB.out hz _
        case measure => simp [intOf]; omega
    · have q0 : wr.cell? ⟨w.heap.size + 1, 0, none⟩ = some (.int .u8 0) := (hB.cell (p := ⟨w.heap.size + 1, 0, none⟩) (by simp)).trans (by simp [go_sem])
      have q1 : wr.cell? ⟨w.heap.size + 1, 1, none⟩ = some (.slice none 0 0) := (hB.cell (p := ⟨w.heap.size + 1, 1, none⟩) (by simp)).trans (by simp [go_sem])
      have q2 : wr.frozen? ⟨w.heap.size + 1, 0, none⟩ = false := (hB.frozen (p := ⟨w.heap.size + 1, 0, none⟩) (by simp)).trans (by simp [go_sem])
      have q3 : wr.frozen? ⟨w.heap.size + 1, 1, none⟩ = false := (hB.frozen (p := ⟨w.heap.size + 1, 1, none⟩) (by simp)).trans (by simp [go_sem])
      have HV := Lib.hid hvs; have HW := Lib.hid hBw; have HO := Lib.hid hown
      clear hvs hB hBw B0
      have hvv : ∃ p l c, v = .slice p l c := by
        rcases hown.2 with ⟨h, _⟩ | ⟨g, c, _, h, _⟩
        · exact ⟨_, _, _, h⟩
        · exact ⟨_, _, _, h⟩
      clear hown
      obtain ⟨vp, vl, vc, rfl⟩ := hvv
      go_wp2
      refine bodyPost_ret (v := .agg #[.int .u8 t, .slice vp vl vc]) (by simp [results, Tryz.results13, go_sem, q0, q1]) rfl ⟨_, n, xs, rfl, hn, own_base (own_set (own_set HO.out _ _ (by simp)) _ _ (by simp)) (by omega), HV.out, (HW.out.setCell (by simp) _).setCell (by simp) _⟩
theorem RawAt.mono {w w' : World} {b o : Nat} (h : RawAt w b o) (hb : b < w.heap.size) (hB : Below w.heap.size w w') : RawAt w' b o := by
  obtain ⟨k, n, q, s, a, b', c, d⟩ := h
  exact ⟨k, n, q, s, by rw [hB.cell (p := ⟨b, o, none⟩) hb]; exact a, by rw [hB.cell (p := ⟨b, o + 1, none⟩) hb]; exact b', by rw [hB.cell (p := ⟨b, o + 2, none⟩) hb]; exact c, by rw [hB.cell (p := ⟨b, o + 3, none⟩) hb]; exact d⟩
/-- A row of fields that came in. -/
def Raws (w : World) (fv : Value) : Prop := (∃ p c, fv = .slice p 0 c) ∨ ∃ fb fo fl fc, fv = .slice (some ⟨fb, fo, none⟩) fl fc ∧ (0 < fl → fb < w.heap.size) ∧ fl ≤ 9223372036854775807 ∧ ∀ i, i < fl → RawAt w fb (fo + i * 4)
theorem Raws.mono {w w' : World} {fv : Value} (h : Raws w fv) (hB : Below w.heap.size w w') : Raws w' fv := by
  rcases h with ⟨p, c, rfl⟩ | ⟨fb, fo, fl, fc, rfl, h1, h2, h3⟩
  · exact .inl ⟨_, _, rfl⟩
  · exact .inr ⟨fb, fo, fl, fc, rfl, fun hp => Nat.lt_of_lt_of_le (h1 hp) hB.size, h2, fun i hi => (h3 i hi).mono (h1 (by omega)) hB⟩
set_option maxRecDepth 100000 in
set_option maxHeartbeats 1000000 in
theorem c13z (t : Int) (p : Option Addr) (c : Nat) (w : World) : Calls Tryz.prog 13 #[.agg #[.int .u8 t, .slice p 0 c]] w (EvOut t w) := by
  go_enter Tryz.func13, Tryz.ntmps13
  go_wp2
  refine wp_loop_rounds 1 ?_
  rw [rounds_succ]
  go_wp2
  exact bodyPost_ret (v := .agg #[.int .u8 t, .slice none 0 0]) (by simp [results, Tryz.results13, go_sem]) rfl ⟨.slice none 0 0, 0, [], rfl, by omega, World.ownsRow_nil _ _ _ _, (fun i hi => by simp at hi), (((Below.refl _ w).alloc (Nat.le_refl _) _).alloc (by simp) _).alloc (by simp; omega) _⟩
theorem c13any (t : Int) (fv : Value) (w : World) (h : Raws w fv) : Calls Tryz.prog 13 #[.agg #[.int .u8 t, fv]] w (EvOut t w) := by
  rcases h with ⟨p, c, rfl⟩ | ⟨fb, fo, fl, fc, rfl, h1, h2, h3⟩
  · exact c13z t p c w
  · exact c13 t fb fo fl fc w h1 h2 h3
/-- An event of the program's own lies there. -/
def Evs (w : World) (base : Nat) (v : Value) : Prop := ∃ g cap a t fv n xs, v = .slice (some ⟨g, 0, none⟩) 1 cap ∧ g < w.heap.size ∧ w.cell? ⟨g, 0, none⟩ = some (.int .u32 1) ∧ w.cell? ⟨g, 1, none⟩ = some (.int .u64 0) ∧ w.cell? ⟨g, 2, none⟩ = some (.int .u64 a) ∧ w.cell? ⟨g, 3, none⟩ = some (.int .u8 t) ∧ w.cell? ⟨g, 4, none⟩ = some fv ∧ n ≤ 30 ∧ w.ownsRow base 84 4 fv n xs ∧ Vals xs
theorem cell_top (w : World) (c : Array Value) (t i : Nat) : (w.alloc (.cells c t)).cell? ⟨w.heap.size, i, none⟩ = c[i]? := by
  have h : (w.alloc (.cells c t)).heap[w.heap.size]? = some (.cells c t) := heap_alloc_new w _
  unfold World.cell?
  rw [h]
  simp
theorem evs_mk {w2 : World} {a t : Int} {fv : Value} {base n : Nat} {xs : List Value} (A : Obj) (z : Array Value) (cap : Nat) (hn : n ≤ 30) (hown : w2.ownsRow base 84 4 fv n xs) (hv : Vals xs) :
    Evs ((w2.alloc A).alloc (.cells (#[.int .u32 1, .int .u64 0, .int .u64 a, .int .u8 t, fv] ++ z) 39)) base (.slice (some ⟨w2.heap.size + 1, 0, none⟩) 1 cap) := by
  have hs : (w2.alloc A).heap.size = w2.heap.size + 1 := by simp
  have key := cell_top (w2.alloc A) (#[.int .u32 1, .int .u64 0, .int .u64 a, .int .u8 t, fv] ++ z) 39
  rw [hs] at key
  refine ⟨w2.heap.size + 1, cap, a, t, fv, n, xs, rfl, by simp, ?_, ?_, ?_, ?_, ?_, hn, (hown.alloc _).alloc _, hv⟩
  · rw [key]; rw [Array.getElem?_append_left (by simp)]; rfl
  · rw [key]; rw [Array.getElem?_append_left (by simp)]; rfl
  · rw [key]; rw [Array.getElem?_append_left (by simp)]; rfl
  · rw [key]; rw [Array.getElem?_append_left (by simp)]; rfl
  · rw [key]; rw [Array.getElem?_append_left (by simp)]; rfl
theorem Evs.mono {w w' : World} {base : Nat} {v : Value} (h : Evs w base v) (hB : Below w.heap.size w w') : Evs w' base v := by
  obtain ⟨g, cap, a, t, fv, n, xs, rfl, hg, c0, c1, c2, c3, c4, hn, ho, hv⟩ := h
  exact ⟨g, cap, a, t, fv, n, xs, rfl, Nat.lt_of_lt_of_le hg hB.size, (hB.cell (p := ⟨g, 0, none⟩) hg).trans c0, (hB.cell (p := ⟨g, 1, none⟩) hg).trans c1, (hB.cell (p := ⟨g, 2, none⟩) hg).trans c2, (hB.cell (p := ⟨g, 3, none⟩) hg).trans c3, (hB.cell (p := ⟨g, 4, none⟩) hg).trans c4, hn, own_below ho hB, hv⟩
def EvsOut (w : World) (e : Ending) (w' : World) : Prop := ∃ v, e = .returned v ∧ Evs w' w.heap.size v ∧ Below w.heap.size w w'
set_option maxRecDepth 100000 in
set_option maxHeartbeats 4000000 in
theorem c4 (b o l c : Nat) (a t : Int) (vp : Option Addr) (vl vc : Nat) (w : World) (hl : 1 ≤ l) (hlm : l ≤ 9223372036854775807) (hb : b < w.heap.size) (a0 : 0 ≤ a) (a1 : a ≤ 4294967295) (e0 : w.cell? ⟨b, o, none⟩ = some (.int .u32 a)) (e1 : w.cell? ⟨b, o + 1, none⟩ = some (.int .u8 t)) (e2 : w.cell? ⟨b, o + 2, none⟩ = some (.slice vp vl vc)) (hR : Raws w (.slice vp vl vc))
    (e3 : 2 ≤ l → ∃ (x y : Int) (p : Option Addr) (n m : Nat), w.cell? ⟨b, o + 3, none⟩ = some (.int .u32 x) ∧ w.cell? ⟨b, o + 3 + 1, none⟩ = some (.int .u8 y) ∧ w.cell? ⟨b, o + 3 + 2, none⟩ = some (.slice p n m)) :
    Calls Tryz.prog 4 #[.slice (some ⟨b, o, none⟩) l c, .int .i64 1] w (EvsOut w) := by
  have HR := Lib.hid hR
  clear hR
  have hvs : ∀ (t : Int) (v : Value) (n : Nat) (xs : List Value) (w2 : World) (bs : Nat), w2.ownsRow bs 84 4 v n xs → ∃ p l c, v = .slice p l c := fun t v n xs w2 bs h => by
    rcases h.2 with ⟨h, _⟩ | ⟨g, c, _, h, _⟩
    · exact ⟨_, _, _, h⟩
    · exact ⟨_, _, _, h⟩
  have HVS := Lib.hid hvs
  clear hvs
  by_cases h2 : 2 ≤ l
  · obtain ⟨x, y, p, n', m', f3, f4, f5⟩ := e3 h2
    clear e3
    have hlt : (1 : Int) < (l : Int) := by omega
    go_enter Tryz.func4, Tryz.ntmps4
    go_wp2
    refine wp_loop_rounds 2 ?_
    rw [rounds_succ]
    go_wp2_with (first
      | (go_at_call 13; refine (c13any t (.slice vp vl vc) _ (HR.out.mono ((Below.refl _ w).alloc (Nat.le_refl _) _))).mono ?_; rintro e w2 ⟨v, n, xs, rfl, hn, hown, hv, hB⟩; obtain ⟨v1, v2, v3, rfl⟩ := HVS.out t _ _ _ _ _ hown; obtain ⟨hc2, hf2⟩ := bcell hB; have hz2 : w.heap.size < w2.heap.size := (by have := hB.size; simp at this; omega); have hq1 : b < w2.heap.size := (by omega); have hq2 : ¬ (b = w2.heap.size) := (by omega); have hq3 : ¬ (w2.heap.size = b) := (by omega); have hq4 : ¬ (b = w2.heap.size + 1) := (by omega); have hq5 : ¬ (w2.heap.size + 1 = b) := (by omega); have HB2 := Lib.hid hB; have HO2 := Lib.hid hown; have HV2 := Lib.hid hv; clear hB hown hv)
      | fail)
    rw [rounds_succ]
    go_wp2
    go_ret
    have BB := ((((Below.refl _ w).alloc (Nat.le_refl _) _).trans (HB2.out.mono (by simp))))
    exact ⟨_, rfl, (evs_mk _ _ _ hn (own_base HO2.out (by simp)) HV2.out).mono (((Below.refl _ _).alloc (Nat.le_refl _) _).drew), (((BB.alloc BB.size _).alloc (by have := BB.size; simp; omega) _).alloc (by have := BB.size; simp; omega) _).drew⟩
  · have hl1 : l = 1 := by omega
    subst hl1
    clear e3 h2
    go_enter Tryz.func4, Tryz.ntmps4
    go_wp2
    refine wp_loop_rounds 2 ?_
    rw [rounds_succ]
    go_wp2_with (first
      | (go_at_call 13; refine (c13any t (.slice vp vl vc) _ (HR.out.mono ((Below.refl _ w).alloc (Nat.le_refl _) _))).mono ?_; rintro e w2 ⟨v, n, xs, rfl, hn, hown, hv, hB⟩; obtain ⟨v1, v2, v3, rfl⟩ := HVS.out t _ _ _ _ _ hown; obtain ⟨hc2, hf2⟩ := bcell hB; have hz2 : w.heap.size < w2.heap.size := (by have := hB.size; simp at this; omega); have hq1 : b < w2.heap.size := (by omega); have hq2 : ¬ (b = w2.heap.size) := (by omega); have hq3 : ¬ (w2.heap.size = b) := (by omega); have hq4 : ¬ (b = w2.heap.size + 1) := (by omega); have hq5 : ¬ (w2.heap.size + 1 = b) := (by omega); have HB2 := Lib.hid hB; have HO2 := Lib.hid hown; have HV2 := Lib.hid hv; clear hB hown hv)
      | fail)
    rw [rounds_succ]
    go_wp2
    go_ret
    have BB := ((((Below.refl _ w).alloc (Nat.le_refl _) _).trans (HB2.out.mono (by simp))))
    exact ⟨_, rfl, (evs_mk _ _ _ hn (own_base HO2.out (by simp)) HV2.out).mono ((Below.refl _ _).drew), ((BB.alloc BB.size _).alloc (by have := BB.size; simp; omega) _).drew⟩
def SomeB (w : World) (e : Ending) (w' : World) : Prop := ∃ b, e = .returned (.bool b) ∧ Below w.heap.size w w'
set_option maxRecDepth 100000 in
set_option maxHeartbeats 4000000 in
theorem c14 (t : Int) (g n cap : Nat) (w : World) (hn : n ≤ 40) (hg : g < w.heap.size) (hr : ∀ i, i < n → ∃ s, w.cell? ⟨g, i * 4 + 3, none⟩ = some (.string s)) :
    Calls Tryz.prog 14 #[.agg #[.int .u8 t, .slice (some ⟨g, 0, none⟩) n cap]] w (SomeB w) := by
  have HR := Lib.hid hr
  clear hr
  go_enter Tryz.func14, Tryz.ntmps14
  go_wp2
  go_loop [3, 13] (fun x i => ∃ (k : Nat) (y : Int), i = .int .i64 k ∧ k ≤ n ∧ x = .int .i64 y ∧ 0 ≤ y ∧ y ≤ 40 + 3000 * k) (fun _ i => n - (intOf i).toNat)
  case atStart => exact ⟨0, n, rfl, Nat.zero_le _, rfl, by omega, by omega⟩
  case round =>
    obtain ⟨k, y, rfl, hk, rfl, hy0, hy1⟩ := hrel
    by_cases hlt : k < n
    · obtain ⟨s, e0⟩ := HR.out k hlt
      go_wp2
      go_roundw
      case rel => exact ⟨k + 1, _, by simp, by omega, rfl, by split <;> omega, by split <;> omega⟩
      case measure => simp [intOf]; omega
    · go_wp2
      go_ret
      exact ⟨_, rfl, (Below.refl _ w).alloc (Nat.le_refl _) _⟩
theorem c14n (t : Int) (w : World) : Calls Tryz.prog 14 #[.agg #[.int .u8 t, .slice none 0 0]] w (SomeB w) :=
  (Go.Ai.ai_tab progOk' (Checked.mixed Tryz.checked) 1000 100 14 [.agg #[.int .u8 t, .slice none 0 0]] (.bool false) rfl [] (fun ts => by kernel_rfl) rfl w (Go.Ai.tabled_nil _)).mono fun e w' ⟨h1, h2⟩ => ⟨false, h1, h2⟩
theorem c14own (t : Int) (fv : Value) (n base : Nat) (xs : List Value) (w : World) (hn : n ≤ 30) (ho : w.ownsRow base 84 4 fv n xs) (hv : Vals xs) : Calls Tryz.prog 14 #[.agg #[.int .u8 t, fv]] w (SomeB w) := by
  rcases ho.2 with ⟨rfl, rfl⟩ | ⟨g, cap, cur, rfl, h1, h2, h3⟩
  · exact c14n t w
  · refine c14 t g n cap w (by omega) (Array.getElem?_eq_some_iff.1 h2).1 fun i hi => ?_
    obtain ⟨k, m, q, s, _, _, _, hs⟩ := hv i (by rw [ho.1]; omega)
    refine ⟨s, ?_⟩
    have := ho.cells (g := g) rfl (i * 4 + 3) _ hs
    rw [Addr.add_lit, Nat.zero_add] at this
    exact this
set_option maxRecDepth 100000 in
set_option maxHeartbeats 4000000 in
theorem c5 (v : Value) (base : Nat) (w : World) (h : Evs w base v) : Calls Tryz.prog 5 #[v] w (SomeB w) := by
  obtain ⟨g, cap, a, t, fv, n, xs, rfl, hg, d0, d1, d2, d3, d4, hn, ho, hv⟩ := h
  have hvs : ∃ p l c, fv = .slice p l c := by
    rcases ho.2 with ⟨h, _⟩ | ⟨g, c, _, h, _⟩
    · exact ⟨_, _, _, h⟩
    · exact ⟨_, _, _, h⟩
  obtain ⟨p, l, c, rfl⟩ := hvs
  have HO := Lib.hid ho; have HV := Lib.hid hv
  clear ho hv
  go_enter Tryz.func5, Tryz.ntmps5
  go_wp2
  refine wp_loop_rounds 2 ?_
  rw [rounds_succ]
  go_wp2_with (first
    | (go_at_call 14; refine (c14own t (.slice p l c) n base xs _ hn (HO.out.alloc _) HV.out).mono ?_; rintro e w2 ⟨b, rfl, hB⟩; cases b)
    | fail)
  · rw [rounds_succ]
    go_wp2
    go_ret
    exact ⟨_, rfl, ((Below.refl _ w).alloc (Nat.le_refl _) _).trans (hB.mono (by simp))⟩
  · go_ret
    exact ⟨_, rfl, ((Below.refl _ w).alloc (Nat.le_refl _) _).trans (hB.mono (by simp))⟩
set_option maxRecDepth 100000 in
theorem c4z (p : Option Addr) (c : Nat) (w : World) : Calls Tryz.prog 4 #[.slice p 0 c, .int .i64 1] w fun e w' => e = .returned (.slice none 0 0) ∧ Below w.heap.size w w' := by
  go_enter Tryz.func4, Tryz.ntmps4
  go_wp2
  refine wp_loop_rounds 1 ?_
  rw [rounds_succ]
  go_wp2
  go_ret
  exact ⟨rfl, Below.refl _ w⟩
set_option maxRecDepth 100000 in
theorem c5z (w : World) : Calls Tryz.prog 5 #[.slice none 0 0] w fun e w' => e = .returned (.bool false) ∧ Below w.heap.size w w' := by
  go_enter Tryz.func5, Tryz.ntmps5
  go_wp2
  refine wp_loop_rounds 1 ?_
  rw [rounds_succ]
  go_wp2
  go_ret
  exact ⟨rfl, Below.refl _ w⟩
set_option maxRecDepth 100000 in
set_option maxHeartbeats 4000000 in
theorem c7 (x : Value) (a b c t : Int) (p : Option Addr) (n m : Nat) (w : World) (hx : x = .agg #[.int .u32 a, .int .u64 b, .int .u64 c, .int .u8 t, .slice p n m]) : Calls Tryz.prog 7 #[.pointer none, x] w fun e w' => e = .returned (.tuple #[.slice none 0 0, .int .i64 10]) ∧ Below w.heap.size w w' := by
  subst hx
  go_enter Tryz.func7, Tryz.ntmps7
  go_wp2
  go_ret2
  exact ⟨rfl, ((Below.refl _ w).alloc (Nat.le_refl _) _).alloc (by simp) _⟩
theorem c8 (w : World) : Calls Tryz.prog 8 #[.pointer none] w fun e w' => e = .returned (.tuple #[.int .u64 0, .bool false]) ∧ Below w.heap.size w w' :=
  Go.Ai.ai_tab progOk' (Checked.mixed Tryz.checked) 1000 100 8 [.pointer none] (.tuple #[.int .u64 0, .bool false]) rfl [] (fun ts => by kernel_rfl) rfl w (Go.Ai.tabled_nil _)
theorem c9 (w : World) : Calls Tryz.prog 9 #[.pointer none] w fun e w' => e = .returned (.int .u64 0) ∧ Below w.heap.size w w' :=
  Go.Ai.ai_tab progOk' (Checked.mixed Tryz.checked) 1000 100 9 [.pointer none] (.int .u64 0) rfl [] (fun ts => by kernel_rfl) rfl w (Go.Ai.tabled_nil _)
theorem c10 (w : World) : Calls Tryz.prog 10 #[.pointer none] w fun e w' => e = .returned (.int .u64 0) ∧ Below w.heap.size w w' :=
  Go.Ai.ai_tab progOk' (Checked.mixed Tryz.checked) 1000 100 10 [.pointer none] (.int .u64 0) rfl [] (fun ts => by kernel_rfl) rfl w (Go.Ai.tabled_nil _)
abbrev stz : Value := .agg #[.int .u64 0, .int .u64 0, .bool false, .int .u64 0, .slice none 0 0]
theorem c12 (w : World) : Calls Tryz.prog 12 #[.pointer none] w fun e w' => e = .returned stz ∧ Below w.heap.size w w' :=
  Go.Ai.ai_tab progOk' (Checked.mixed Tryz.checked) 1000 100 12 [.pointer none] stz rfl [] (fun ts => by kernel_rfl) rfl w (Go.Ai.tabled_nil _)
theorem c11 (w : World) : Calls Tryz.prog 11 #[stz, stz] w fun e w' => e = .returned (.bool true) ∧ Below w.heap.size w w' :=
  Go.Ai.ai_tab progOk' (Checked.mixed Tryz.checked) 1000 100 11 [stz, stz] (.bool true) rfl [] (fun ts => by kernel_rfl) rfl w (Go.Ai.tabled_nil _)
set_option maxRecDepth 100000 in
theorem law_none (p : Option Addr) (c : Nat) (w : World) (hfix : ∀ w', Below w.heap.size w w' → Calls Tryz.prog 6 #[] w' fun e w2 => e = .returned (.bool true) ∧ Below w'.heap.size w' w2) :
    Calls Tryz.prog 3 #[.slice p 0 c] w fun e w' => e = .returned (.bool true) ∧ Below w.heap.size w w' := by
  have HF := Lib.hid hfix
  clear hfix
  go_enter Tryz.func3, Tryz.ntmps3
  go_wp2_with (first
    | (go_at_call 4; refine (c4z p c _).mono ?_; rintro e w1 ⟨rfl, h1⟩; have B1 := Lib.hid h1; clear h1)
    | (go_at_call 5; refine (c5z _).mono ?_; rintro e w2 ⟨rfl, h2⟩; have B2 := Lib.hid (B1.out.trans (h2.mono B1.out.size)); clear h2)
    | (go_at_call 6; refine (HF.out _ B2.out).mono ?_; rintro e w3 ⟨rfl, h3⟩; have B3 := Lib.hid (B2.out.trans (h3.mono B2.out.size)); clear h3))
  go_ret
  exact ⟨rfl, B3.out⟩
set_option maxRecDepth 100000 in
set_option maxHeartbeats 4000000 in
theorem law_some (b o l c : Nat) (w : World) (K4 : Calls Tryz.prog 4 #[.slice (some ⟨b, o, none⟩) l c, .int .i64 1] w (EvsOut w)) (hfix : ∀ w', Below w.heap.size w w' → Calls Tryz.prog 6 #[] w' fun e w2 => e = .returned (.bool true) ∧ Below w'.heap.size w' w2) :
    Calls Tryz.prog 3 #[.slice (some ⟨b, o, none⟩) l c] w fun e w' => e = .returned (.bool true) ∧ Below w.heap.size w w' := by
  have HF := Lib.hid hfix
  have HK := Lib.hid K4
  clear hfix K4
  go_enter Tryz.func3, Tryz.ntmps3
  go_wp2_with (first
    | (go_at_call 4; refine HK.out.mono ?_; rintro e w1 ⟨v, rfl, hE, h1⟩; have B1 := Lib.hid h1; clear h1; have E1 := Lib.hid hE; obtain ⟨g, cap, a, t, fv, n, xs, rfl, hg, d0, d1, d2, d3, d4, hn, ho, hv⟩ := hE; have hvs : ∃ p l c, fv = .slice p l c := (by rcases ho.2 with ⟨h, _⟩ | ⟨g, c, _, h, _⟩ <;> exact ⟨_, _, _, h⟩); obtain ⟨q1, q2, q3, rfl⟩ := hvs; clear ho hv hn)
    | (go_at_call 5; refine (c5 _ _ _ E1.out).mono ?_; rintro e w2 ⟨bb, rfl, h2⟩; obtain ⟨hc2, hf2⟩ := bcell h2; have hgz : g < w2.heap.size := Nat.lt_of_lt_of_le hg h2.size; have B2 := Lib.hid (B1.out.trans (h2.mono B1.out.size)); clear h2; cases bb)
    | (go_at_call 7; refine (c7 _ 1 0 a t q1 q2 q3 _ rfl).mono ?_; rintro e w7 ⟨rfl, h7⟩; have B7 := Lib.hid (B2.out.trans (h7.mono B2.out.size)); clear h7)
    | (go_at_call 8; refine (c8 _).mono ?_; rintro e w8 ⟨rfl, h8⟩; have B8 := Lib.hid (B7.out.trans (h8.mono B7.out.size)); clear h8)
    | (go_at_call 6; refine (HF.out _ B8.out).mono ?_; rintro e w9 ⟨rfl, h9⟩; have B9 := Lib.hid (B8.out.trans (h9.mono B8.out.size)); clear h9)
    | (go_at_call 9; refine (c9 _).mono ?_; rintro e w10 ⟨rfl, h10⟩; have B10 := Lib.hid (B9.out.trans (h10.mono B9.out.size)); clear h10)
    | (go_at_call 10; refine (c10 _).mono ?_; rintro e w11 ⟨rfl, h11⟩; have B11 := Lib.hid (B10.out.trans (h11.mono B10.out.size)); clear h11)
    | (go_at_call 12; refine (c12 _).mono ?_; rintro e w12 ⟨rfl, h12⟩; have B12 := Lib.hid (B11.out.trans (h12.mono B11.out.size)); clear h12)
    | (go_at_call 11; refine (c11 _).mono ?_; rintro e w13 ⟨rfl, h13⟩; have B13 := Lib.hid (B12.out.trans (h13.mono B12.out.size)); clear h13)
    | (go_at_call 6; refine (HF.out _ B2.out).mono ?_; rintro e w3 ⟨rfl, h3⟩; have B3 := Lib.hid (B2.out.trans (h3.mono B2.out.size)); clear h3))
  · go_ret
    exact ⟨rfl, B13.out⟩
  · go_ret
    exact ⟨rfl, B3.out⟩
def ElemAt (w : World) (b o : Nat) : Prop := ∃ (a t : Int) (p : Option Addr) (n m : Nat), w.cell? ⟨b, o, none⟩ = some (.int .u32 a) ∧ w.cell? ⟨b, o + 1, none⟩ = some (.int .u8 t) ∧ w.cell? ⟨b, o + 2, none⟩ = some (.slice p n m) ∧ 0 ≤ a ∧ a ≤ 4294967295 ∧ Raws w (.slice p n m)
theorem wf_u32 {n : Int} (h : (Lit.int .u32 n).wf = true) : 0 ≤ n ∧ n ≤ 4294967295 := by
  have h : IntKind.u32.min ≤ n ∧ n ≤ IntKind.u32.max := by simpa [Lit.wf] using h
  have e1 : IntKind.u32.min = 0 := by decide
  have e2 : IntKind.u32.max = 4294967295 := by decide
  obtain ⟨h1, h2⟩ := h
  exact ⟨by rw [e1] at h1; exact h1, by rw [e2] at h2; exact h2⟩
section
variable {H : Type} {enc : TypeId × Value → H} {W : World}
theorem field_of {a : Addr} {fuel : Nat} {y : DataW H × List MemPlace} {cs : List Value} (hc : W.cells? 0 a 4 = some cs) (h : DataW.trod enc Tryz.prog W 0 (fun _ => true) true fuel 81 cs = some y) :
    ∃ (k n q : Int) (s : ByteArray), W.cell? (a.add 0) = some (.int .u8 k) ∧ W.cell? (a.add 1) = some (.int .i64 n) ∧ W.cell? (a.add 2) = some (.int .u64 q) ∧ W.cell? (a.add 3) = some (.string s) := by
  obtain ⟨_, hl, hat⟩ := World.cells?_some hc
  match cs, hl with
  | [c0, c1, c2, c3], _ =>
    have g0 := hat 0 (by omega); have g1 := hat 1 (by omega); have g2 := hat 2 (by omega); have g3 := hat 3 (by omega)
    obtain ⟨y0, y1, y2, y3, n, _, _, h0, h1, h2, h3⟩ := Go.Joins.trod_struct4 Tryz.underlying81 h
    have e5 : Tryz.prog.cellsOf 5 = 1 := by kernel_rfl
    have e2 : Tryz.prog.cellsOf 2 = 1 := by kernel_rfl
    have e34 : Tryz.prog.cellsOf 34 = 1 := by kernel_rfl
    have e9 : Tryz.prog.cellsOf 9 = 1 := by kernel_rfl
    simp only [e5, e2, e34, e9, List.drop_zero, List.drop_succ_cons, List.take_succ_cons, List.take_zero] at h0 h1 h2 h3
    obtain ⟨z0, f0, _⟩ := DataW.trod_int Tryz.underlying5 h0
    obtain ⟨z1, f1, _⟩ := DataW.trod_int Tryz.underlying2 h1
    obtain ⟨z2, f2, _⟩ := DataW.trod_int Tryz.underlying34 h2
    obtain ⟨z3, f3, _⟩ := DataW.trod_string Tryz.underlying9 h3
    simp only [List.cons.injEq, and_true] at f0 f1 f2 f3
    subst f0 f1 f2 f3
    exact ⟨z0, z1, z2, z3, g0, g1, g2, g3⟩
theorem raws_of {v : Value} {fuel : Nat} {y : DataW H × List MemPlace} (h : DataW.trod enc Tryz.prog W 0 (fun _ => true) true fuel 49 [v] = some y) : Raws W v ∧ ∃ p n m, v = .slice p n m := by
  rcases DataW.trod_slice Tryz.underlying49 h with ⟨h, _⟩ | ⟨⟨fb, fo, sp⟩, len, cap, elems, rest, n, _, hcs, _, _, hl, hm, hlen, hel, _, _⟩
  · obtain rfl : v = .slice none 0 0 := by simpa using h
    exact ⟨.inl ⟨_, _, rfl⟩, _, _, _, rfl⟩
  · obtain rfl : v = .slice (some ⟨fb, fo, sp⟩) len cap := by simpa using hcs
    refine ⟨?_, _, _, _, rfl⟩
    rcases Nat.eq_zero_or_pos len with rfl | hpos
    · exact .inl ⟨_, _, rfl⟩
    · have e81 : Tryz.prog.cellsOf 81 = 4 := by kernel_rfl
      have at4 : ∀ i, i < len → ∃ (k n q : Int) (s : ByteArray), W.cell? (((⟨fb, fo, sp⟩ : Addr).add (i * 4)).add 0) = some (.int .u8 k) ∧ W.cell? (((⟨fb, fo, sp⟩ : Addr).add (i * 4)).add 1) = some (.int .i64 n) ∧ W.cell? (((⟨fb, fo, sp⟩ : Addr).add (i * 4)).add 2) = some (.int .u64 q) ∧ W.cell? (((⟨fb, fo, sp⟩ : Addr).add (i * 4)).add 3) = some (.string s) := fun i hi => by
        have h1 := hel i hi
        rw [e81, List.getElem?_eq_getElem (by omega)] at h1
        obtain ⟨cs, hc, ht⟩ := Option.bind_eq_some_iff.1 h1
        exact field_of hc ht
      have hsp : sp = none := by
        cases sp with
        | none => rfl
        | some s =>
          obtain ⟨k, _, _, _, h0, _⟩ := at4 0 hpos
          unfold World.cell? at h0
          simp [Addr.add] at h0
          split at h0 <;> cases h0
      subst hsp
      refine .inr ⟨fb, fo, len, cap, rfl, fun _ => ?_, by unfold maxLen at hm; omega, fun i hi => ?_⟩
      · obtain ⟨k, _, _, _, h0, _⟩ := at4 0 hpos
        rw [Addr.add_lit, Addr.add_lit] at h0
        exact World.block_lt_of_cell? W _ h0
      · obtain ⟨k, n, q, s, h0, h1, h2, h3⟩ := at4 i hi
        rw [Addr.add_lit, Addr.add_lit] at h0 h1 h2 h3
        exact ⟨k, n, q, s, by simpa using h0, h1, h2, h3⟩
theorem elem_of {b o : Nat} {fuel : Nat} {y : DataW H × List MemPlace} {cs : List Value} (hc : W.cells? 0 ⟨b, o, none⟩ 3 = some cs) (h : DataW.trod enc Tryz.prog W 0 (fun _ => true) true fuel 53 cs = some y) : ElemAt W b o := by
  obtain ⟨_, hl, hat⟩ := World.cells?_some hc
  match cs, hl with
  | [c0, c1, c2], _ =>
    have g0 := hat 0 (by omega); have g1 := hat 1 (by omega); have g2 := hat 2 (by omega)
    rw [Addr.add_lit] at g0 g1 g2
    obtain ⟨y0, y1, n, _, _, h0, h1⟩ := trod_struct2 Tryz.underlying53 h
    obtain ⟨z0, z1, n', _, _, h2, h3⟩ := trod_struct2 Tryz.underlying51 h1
    have e33 : Tryz.prog.cellsOf 33 = 1 := by kernel_rfl
    have e51 : Tryz.prog.cellsOf 51 = 2 := by kernel_rfl
    have e5 : Tryz.prog.cellsOf 5 = 1 := by kernel_rfl
    have e49 : Tryz.prog.cellsOf 49 = 1 := by kernel_rfl
    simp only [e33, e51, e5, e49, List.drop_zero, List.drop_succ_cons, List.take_succ_cons, List.take_zero] at h0 h2 h3
    obtain ⟨a, ea, _, ha⟩ := DataW.trod_int Tryz.underlying33 h0
    obtain ⟨t, et, _⟩ := DataW.trod_int Tryz.underlying5 h2
    simp only [List.cons.injEq, and_true] at ea et
    subst ea et
    obtain ⟨hr, p, k, m, rfl⟩ := raws_of h3
    obtain ⟨w1, w2⟩ := wf_u32 ha
    exact ⟨a, t, p, k, m, by simpa using g0, g1, g2, w1, w2, hr⟩
end
noncomputable def kk : List (Nat × List Value) := rn.kk
theorem tabled_mono {W w' : World} (h : Go.Ai.Tabled Tryz.prog W kk) (hb : Below W.heap.size W w') : Go.Ai.Tabled Tryz.prog w' kk := fun g vs hm => by
  obtain ⟨a, b, c⟩ := h g vs hm
  exact ⟨a, b, fun i v hi => ⟨(c i v hi).1, by rw [hb.cell (p := ⟨g, i, none⟩) (World.block_lt_of_cell? W _ (c i v hi).2)]; exact (c i v hi).2⟩⟩
theorem c6 {W : World} (hL : Go.Ai.Tabled Tryz.prog W kk) : Calls Tryz.prog 6 #[] W fun e w2 => e = .returned (.bool true) ∧ Below W.heap.size W w2 := rn.c6 hL
set_option maxRecDepth 100000 in
theorem walk {H : Type} {enc : TypeId × Value → H} {base : Nat} (v0 : Value) {W : World} {ds : List (DataW H)} {p : List MemPlace} (h0 : Value.okWide Tryz.prog W .any base 23 v0) (hA : DataW.TrodAll enc Tryz.prog W 0 (fun _ => true) true #[23].toList #[v0].toList ds p) (hL : Go.Ai.Tabled Tryz.prog W kk) :
    Calls Tryz.prog 3 #[v0] W fun e W' => e = .returned (.bool true) ∧ Below W.heap.size W W' := by
  obtain ⟨d0, rfl, hT⟩ : ∃ d0, ds = [d0] ∧ ∃ p0, DataW.Trod enc Tryz.prog W 0 (fun _ => true) true 23 v0 d0 p0 := by
    match ds, hA with
    | [d0], ⟨p0, q, h1, _, _⟩ => exact ⟨d0, rfl, p0, h1⟩
  obtain ⟨p0, fuel, hf⟩ := hT
  have e53 : Tryz.prog.cellsOf 53 = 3 := by kernel_rfl
  have hfix : ∀ w', Below W.heap.size W w' → Calls Tryz.prog 6 #[] w' fun e w2 => e = .returned (.bool true) ∧ Below w'.heap.size w' w2 := fun w' hb => c6 (tabled_mono hL hb)
  rcases Go.Ai.cell_slice Tryz.underlying23 (Go.Ai.okWide_cell h0 (fun fs h => by rw [Tryz.underlying23] at h; cases h) (fun m e h => by rw [Tryz.underlying23] at h; cases h)) with rfl | ⟨b, o, l, c, rfl, hlc, hcap⟩
  · exact law_none none 0 W hfix
  · rcases DataW.trod_slice Tryz.underlying23 hf with ⟨h, _⟩ | ⟨a, l', c', elems, rest, n, _, h, _, _, hl', hm, hlen, hel, _, _⟩
    · simp [Value.cells] at h
    · have h : Value.slice (some ⟨b, o, none⟩) l c = .slice (some a) l' c' := by simpa [Value.cells] using h
      cases h
      rcases Nat.eq_zero_or_pos l with rfl | hpos
      · exact law_none _ c W hfix
      · have at3 : ∀ i, i < l → ElemAt W b (o + i * 3) := fun i hi => by
          have h1 := hel i hi
          rw [e53, Addr.add_lit, List.getElem?_eq_getElem (by omega)] at h1
          obtain ⟨cs, hc, ht⟩ := Option.bind_eq_some_iff.1 h1
          exact elem_of hc ht
        obtain ⟨x, t, p1, n1, m1, a0, a1, a2, x0, x1, hr⟩ := at3 0 hpos
        have hb : b < W.heap.size := World.block_lt_of_cell? W _ a0
        refine law_some b o l c W (c4 b o l c x t p1 n1 m1 W hpos (by unfold maxLen at hm; omega) hb x0 x1 (by simpa using a0) (by simpa using a1) (by simpa using a2) hr fun h2 => ?_) hfix
        obtain ⟨x', t', p2, n2, m2, c0, c1, c2, _⟩ := at3 1 (by omega)
        exact ⟨x', t', p2, n2, m2, by simpa using c0, by simpa using c1, by simpa using c2⟩

theorem tabbed {w : World} (h : laidMetH Tryz.prog Rows.runsNilRow.laid w) : Go.Ai.Tabled Tryz.prog w kk := Go.Ai.tabled_of (by kernel_rfl) (by kernel_rfl) h

set_option maxRecDepth 100000 in
theorem lifted (os : Os) (started : os.Started) (H : Type) (enc : TypeId × Value → H) :
    ReturnsInHanded {} Tryz.checked os 3 .any (fun w args => (Rows.runsNilSpec.pre enc Tryz.prog Tryz.f3 [] false w args ∧ laidMetH Tryz.prog Rows.runsNilRow.laid w) ∧ sizedMet enc Tryz.prog Tryz.f3 (OpenSpec.ofChange Rows.runsNilSpec) false w args) (Rows.runsNilSpec.post enc Tryz.prog Tryz.f3 false true false false) := by
  refine returnsInHanded_of_change_and (C := Tryz.checked) (X := fun w _ => laidMetH Tryz.prog Rows.runsNilRow.laid w) (fun _ _ _ hh h => h.of_heap hh) own started (by kernel_rfl) Tryz.func3
    (ChangeSpec.witness_shaped (enc := enc) (C := Tryz.checked) (os := os) (X := fun w _ => laidMetH Tryz.prog Rows.runsNilRow.laid w) false (World.laidAll Tryz.prog os Rows.runsNilRow.laid) #[.slice none 0 0] 8 (World.laidAll_os _ _ _) (World.shaped_of_ZipB (by kernel_rfl) (by kernel_rfl)) (by kernel_rfl) (by kernel_rfl) (by kernel_rfl) (by rw [MakeChecks.laidMetH_plain _ _ _ (by kernel_rfl)]; exact laidMet_laidAll _ (by kernel_rfl) (by kernel_rfl))) ?_
  intro W base args ds gs before hval0 hW _ _ hL _
  have hval : ∀ (j : Nat) t v, Tryz.f3.params[j]? = some t → args[j]? = some v → Value.okWide Tryz.prog W .any base t v := hval0
  have hW' : DataW.Whole enc Tryz.prog Tryz.f3.params.toList Rows.runsNilSpec.vars false W args.toList ds gs before := hW
  clear hval0 hW
  have hsize : args.toList.length = 1 := by
    obtain ⟨p, q, hA0, _⟩ := hW'
    have hA : DataW.TrodAll enc Tryz.prog W 0 (fun _ => true) true Tryz.f3.params.toList args.toList ds p := hA0
    rw [Tryz.params3] at hA
    exact (Go.Ai.trodAll_len hA).1
  obtain ⟨v0, rfl⟩ : ∃ v0, args = #[v0] := outer args hsize
  rw [Tryz.params3] at hval
  obtain ⟨pA, qA, hA0, _⟩ := id hW'
  rw [Tryz.params3] at hA0
  refine (walk v0 (hval 0 23 v0 rfl rfl) hA0 (tabbed hL)).mono fun e W' ⟨he, hw⟩ => ?_
  refine ⟨_, he, Go.Ai.row_true (P := Tryz.prog) (f := Tryz.f3) (s := Rows.runsNilSpec) (tb := 4) laidOut' (by kernel_rfl) rfl (fun ds h => ?_) (by kernel_rfl) Tryz.underlying4 hW' hw⟩
  rw [Tryz.params3] at h
  match ds, h with
  | [d0], _ => rfl

theorem over : Rows.runsNilRow.holds Tryz.pinned (OpenSpec.ofChange Rows.runsNilSpec) :=
  OpenClaim.holds_of_wide 3 Tryz.f3 rfl rfl rfl rfl rfl rfl rfl ⟨rfl, rfl, rfl, rfl, rfl⟩ rfl rfl rfl rfl rfl (by kernel_rfl) Tryz.func3 (by kernel_rfl)
    (of_decide_eq_true (by kernel_rfl)) (by unfold Func.isWrapper; first | (rw [if_pos (by decide +kernel)]; kernel_rfl) | (rw [if_neg (by decide +kernel)]; exact ⟨rfl, rfl⟩))
    (fun os started H enc _ => lifted os started H enc)

/-- ████ THE STATEMENT ████ -/
theorem proved : Rows.RunsNilCardSaid :=
  Claim7.holds_tied_plain_at .later [] [.data, .data, .data] true (true, "0bd3226bb083c7f42c02978cb42bb812bfdc3084b31467bee43ec8c46dcc93d0") false
    over (fun _ h => by cases h) (by kernel_rfl) (fun _ h => by cases h) runsNil_row_tie rfl ⟨rfl, rfl⟩ (by kernel_rfl) rfl
    (fun f fn hf hfn => by
      obtain rfl : f = 3 := Option.some.inj ((show Tryz.prog.funcNamed "equerry/equerrylaw15.RunsNil" = some 3 by kernel_rfl).symm.trans hf) |>.symm
      obtain rfl : fn = Tryz.f3 := (Option.some.inj (Tryz.func3.symm.trans hfn)).symm
      exact ⟨by kernel_rfl, fun j t ht => by
        rw [Tryz.params3] at ht
        have hm : t ∈ [23] := by
          have := Array.mem_of_getElem? ht
          simp at this ⊢
          omega
        have hall : ([23].all fun u => !Tryz.prog.wantsStandIn u) = true := by kernel_rfl
        exact (show Tryz.prog.wantsStandIn t = false by simpa using List.all_eq_true.1 hall t hm)⟩)
    (by kernel_rfl)
#print axioms proved
end Go.Proofs.YtmjbkhgkhdkbjaaGreatDoor.runsNil
