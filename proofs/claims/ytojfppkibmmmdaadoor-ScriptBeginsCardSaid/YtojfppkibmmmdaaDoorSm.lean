/- Proved: what the law of beginnings comes to over bytes; each theorem says its own conditions. -/
import Derived.Test.YtojfppkibmmmdaaDoorSl
import Derived.Deep.RegionWith
set_option linter.unusedVariables false
set_option linter.unusedSimpArgs false
namespace Go.Proofs.SA
open Go.RowKit
abbrev P1 : Pats := PI 13 100
abbrev P2 : Pats := PI 13 160
def Beg (A S : List PA) : Prop := S.length ≤ A.length ∧ ∀ (i : Nat) (a : PA), S[i]? = some a → ∃ b, A[i]? = some b ∧ b.kind = a.kind ∧ b.who = a.who ∧ (i + 1 < S.length → b = a)
def R5 (w1 : World) (n : Nat) (i : Value) (wr : World) : Prop := ∃ k : Nat, i = .int .i64 k ∧ k ≤ n ∧ Below w1.heap.size w1 wr
set_option maxRecDepth 100000 in
set_option maxHeartbeats 4000000 in
theorem law5 (A S : List PA) (blk off l k cap : Nat) (n : Int) (w : World) (hb : Beg A S) (hA : A.length ≤ 100000) (hby : ∀ a ∈ S, ∀ x ∈ a.byt, x < 256) (hl : l ≤ 6000) (h0 : 0 ≤ n) (h1 : n ≤ 65535) (hk : n.tmod ((l : Int) + 1) = (k : Int)) (hkl : k ≤ l)
    (hlc : l ≤ cap)
    (CA : ∀ w', Below w.heap.size w w' → Calls Tryd.prog 8 #[.slice (some ⟨blk, off, none⟩) l cap] w' (ActsOut P2 A w')) (CS : ∀ w', Below w.heap.size w w' → Calls Tryd.prog 8 #[.slice (some ⟨blk, off, none⟩) k cap] w' (ActsOut P1 S w'))
    (hfix : ∀ w', Below w.heap.size w w' → Calls Tryd.prog 7 #[] w' (Tru w')) : Calls Tryd.prog 5 #[.slice (some ⟨blk, off, none⟩) l cap, .int .u16 n] w (Tru w) := by
  have hkc : k ≤ cap := by omega
  have hne : ¬ ((l : Int) + 1 = 0) := by omega
  have hne' : ((l : Int) + 1 == 0) = false := by simp; omega
  have hw1' : IntKind.i64.wrap ((l : Int) + 1) = (l : Int) + 1 := IntWalk.i64_in _ (by omega)
  have hki : (k : Int) ≤ (cap : Int) := by omega
  have hk0 : (0 : Int) ≤ (k : Int) := by omega
  have hki' : ¬ (cap : Int) < (k : Int) := by omega
  have hk0' : ¬ (k : Int) < 0 := by omega
  have hwn : IntKind.i64.wrap n = n := IntWalk.i64_in _ (by omega)
  have hsl := slice_head blk off l cap k hkl hlc
  simp only [ite_self] at hsl
  have hp1 : (0 : Int) < (l : Int) + 1 := by omega
  go_enter Tryd.func5, Tryd.ntmps5
  go_wp2
  go_region_with (first
    | (go_at_call 8; ((with_reducible refine (CA _ (Below.refl _ _).drew).mono ?_); rintro e w1 ⟨va, rfl, ha, hB1⟩; obtain ⟨pa, ca, rfl, hpa⟩ := ha.slice; have HA := Lib.hid ha; have HPA := Lib.hid hpa; have hw1 := btrans (Below.refl _ w).drew hB1; clear ha hpa hB1))
    | (go_at_call 8; ((with_reducible refine (CS _ hw1).mono ?_); rintro e w2 ⟨vs, rfl, hs, hB2⟩; obtain ⟨ps, cs, rfl, hps⟩ := hs.slice; have HS := Lib.hid hs; have HPS := Lib.hid hps; have HA2 := Lib.hid (HA.out.mono (still_PI 13 160) hB2); have hw2 := btrans hw1 hB2; clear hs hps hB2)))
  have hle : S.length ≤ A.length := hb.1
  have hdl : decide (A.length < S.length) = false := by simp; omega
  have HBG := Lib.hid hb
  clear hb CA CS hw1' hki hk0 hki' hk0' hwn hsl hp1 hne hne' hkc hw1 HA hk
  go_wp2
  clear hle hdl
  go_loopw [31] (fun i wr => R5 w2 S.length i wr) (fun i _ => S.length - (intOf i).toNat)
  case atStart => exact ⟨0, rfl, Nat.zero_le _, Below.refl _ _⟩
  case round =>
    obtain ⟨k, rfl, hk, hB⟩ := hrel
    have hBw := btrans hw2 hB
    by_cases hlt : k < S.length
    · obtain ⟨g, rfl, hg⟩ := HPS.out (by omega)
      obtain ⟨g', rfl, hg'⟩ := HPA.out (by have := HBG.out.1; omega)
      have ea : S[k]? = some S[k] := List.getElem?_eq_getElem hlt
      obtain ⟨b, eb, hk1, hk2, hk3⟩ := HBG.out.2 k _ ea
      have hby' := hby S[k] (List.getElem_mem hlt)
      generalize S[k] = a at ea hk1 hk2 hk3 hby'
      obtain ⟨p5, pl5, pm5, p6, pl6, pm6, pm7, p8, pl8, pm8, p9, pl9, pm9, hact, hga, x0, x1, x2, x3, x4, x5, x6, x7, x8, x9⟩ := act_at (HS.out.mono (still_PI 13 100) hB) ea
      obtain ⟨q5, ql5, qm5, q6, ql6, qm6, qm7, q8, ql8, qm8, q9, ql9, qm9, hact', hgb, y0, y1, y2, y3, y4, y5, y6, y7, y8, y9⟩ := act_at (HA2.out.mono (still_PI 13 160) hB) eb
      have hia : (k : Int) < (A.length : Int) := by have := HBG.out.1; omega
      have his : (k : Int) < (S.length : Int) := by omega
      rw [hk1] at y0
      rw [hk2] at y1
      have hws : IntKind.i64.wrap ((S.length : Int) - 1) = (S.length : Int) - 1 := IntWalk.i64_in _ (by have := HBG.out.1; omega)
      have hk0 : (0 : Int) ≤ (k : Int) := by omega
      have HK1 := Lib.hid hk1; have HK2 := Lib.hid hk2; have HB := Lib.hid hB; have HW := Lib.hid hBw; have HEA := Lib.hid ea; have HEB := Lib.hid eb; have HAC := Lib.hid hact; have HAC' := Lib.hid hact'; have HBY := Lib.hid hby'
      clear hk1 hk2 hB hBw ea eb hact hact' hby' hby
      by_cases hlast : k + 1 < S.length
      · obtain rfl := hk3 hlast
        have hgt : decide ((k : Int) < (S.length : Int) - 1) = true := by simp; omega
        have hBA : Below wr.heap.size wr (wr.alloc (.cells #[.int .u8 (b.kind : Int), .int .u32 (b.who : Int), .int .u32 (b.nn : Int), .int .u32 (b.kk : Int), .int .u8 (b.topic : Int), .slice p5 pl5 pm5, .slice p6 pl6 pm6, .int .u64 pm7, .slice p8 pl8 pm8, .slice p9 pl9 pm9] 36)).drew := ((Below.refl _ _).alloc (Nat.le_refl _) _).drew
        have K10 := c10 (still_PI 13 100) (still_PI 13 160) (HAC.out.mono (still_PI 13 100) (Go.Ai.Keeps.below hBA)) (HAC'.out.mono (still_PI 13 160) (Go.Ai.Keeps.below hBA)) HBY.out (same_PI 13 (.inl rfl))
        have HZ : Hid (∀ j, (wr.alloc (.cells #[.int .u8 (b.kind : Int), .int .u32 (b.who : Int), .int .u32 (b.nn : Int), .int .u32 (b.kk : Int), .int .u8 (b.topic : Int), .slice p5 pl5 pm5, .slice p6 pl6 pm6, .int .u64 pm7, .slice p8 pl8 pm8, .slice p9 pl9 pm9] 36)).drew.cell? ⟨wr.heap.size, j, none⟩ = (#[.int .u8 (b.kind : Int), .int .u32 (b.who : Int), .int .u32 (b.nn : Int), .int .u32 (b.kk : Int), .int .u8 (b.topic : Int), .slice p5 pl5 pm5, .slice p6 pl6 pm6, .int .u64 pm7, .slice p8 pl8 pm8, .slice p9 pl9 pm9] : Array Value)[j]?) := Lib.hid (fun j => cell_of_heap (fz := (0, 0)) (heap_alloc_new wr _) j)
        have hl3 : wr.heap.size < (wr.alloc (.cells #[.int .u8 (b.kind : Int), .int .u32 (b.who : Int), .int .u32 (b.nn : Int), .int .u32 (b.kk : Int), .int .u8 (b.topic : Int), .slice p5 pl5 pm5, .slice p6 pl6 pm6, .int .u64 pm7, .slice p8 pl8 pm8, .slice p9 pl9 pm9] 36)).drew.heap.size := by simp
        have hl3' : g' < (wr.alloc (.cells #[.int .u8 (b.kind : Int), .int .u32 (b.who : Int), .int .u32 (b.nn : Int), .int .u32 (b.kk : Int), .int .u8 (b.topic : Int), .slice p5 pl5 pm5, .slice p6 pl6 pm6, .int .u64 pm7, .slice p8 pl8 pm8, .slice p9 pl9 pm9] 36)).drew.heap.size := by simp; omega
        have hBA' := Lib.hid hBA
        clear hBA hk3
        go_wp2
        go_region_held3 (fun w' => w'.cell? ⟨wr.heap.size, 0, none⟩ = some (.int .u8 (b.kind : Int)) ∧ w'.cell? ⟨wr.heap.size, 1, none⟩ = some (.int .u32 (b.who : Int)) ∧ w'.cell? ⟨wr.heap.size, 2, none⟩ = some (.int .u32 (b.nn : Int)) ∧ w'.cell? ⟨wr.heap.size, 3, none⟩ = some (.int .u32 (b.kk : Int)) ∧ w'.cell? ⟨wr.heap.size, 4, none⟩ = some (.int .u8 (b.topic : Int)) ∧ w'.cell? ⟨wr.heap.size, 5, none⟩ = some (.slice p5 pl5 pm5) ∧ w'.cell? ⟨wr.heap.size, 6, none⟩ = some (.slice p6 pl6 pm6) ∧ w'.cell? ⟨wr.heap.size, 7, none⟩ = some (.int .u64 pm7) ∧ w'.cell? ⟨wr.heap.size, 8, none⟩ = some (.slice p8 pl8 pm8) ∧ w'.cell? ⟨wr.heap.size, 9, none⟩ = some (.slice p9 pl9 pm9) ∧ w'.cell? ⟨g', k * 10, none⟩ = some (.int .u8 (b.kind : Int)) ∧ w'.cell? ⟨g', k * 10 + 1, none⟩ = some (.int .u32 (b.who : Int)) ∧ w'.cell? ⟨g', k * 10 + 2, none⟩ = some (.int .u32 (b.nn : Int)) ∧ w'.cell? ⟨g', k * 10 + 3, none⟩ = some (.int .u32 (b.kk : Int)) ∧ w'.cell? ⟨g', k * 10 + 4, none⟩ = some (.int .u8 (b.topic : Int)) ∧ w'.cell? ⟨g', k * 10 + 5, none⟩ = some (.slice q5 ql5 qm5) ∧ w'.cell? ⟨g', k * 10 + 6, none⟩ = some (.slice q6 ql6 qm6) ∧ w'.cell? ⟨g', k * 10 + 7, none⟩ = some (.int .u64 qm7) ∧ w'.cell? ⟨g', k * 10 + 8, none⟩ = some (.slice q8 ql8 qm8) ∧ w'.cell? ⟨g', k * 10 + 9, none⟩ = some (.slice q9 ql9 qm9)) (go_keep)
          ((go_at_call 10; refine K10.mono ?_; rintro e w3 ⟨rfl, hB3⟩; obtain ⟨hc3, hf3⟩ := bcell hB3; have hcA := (bcell hBA'.out).1; have u0 := (hc3 _ 0 hl3).trans (HZ.out 0); have u1 := (hc3 _ 1 hl3).trans (HZ.out 1); have u2 := (hc3 _ 2 hl3).trans (HZ.out 2); have u3 := (hc3 _ 3 hl3).trans (HZ.out 3); have u4 := (hc3 _ 4 hl3).trans (HZ.out 4); have u5 := (hc3 _ 5 hl3).trans (HZ.out 5); have u6 := (hc3 _ 6 hl3).trans (HZ.out 6); have u7 := (hc3 _ 7 hl3).trans (HZ.out 7); have u8 := (hc3 _ 8 hl3).trans (HZ.out 8); have u9 := (hc3 _ 9 hl3).trans (HZ.out 9); have v0 := (hc3 _ (k * 10) hl3').trans ((hcA _ (k * 10) hgb).trans y0); have v1 := (hc3 _ (k * 10 + 1) hl3').trans ((hcA _ (k * 10 + 1) hgb).trans y1); have v2 := (hc3 _ (k * 10 + 2) hl3').trans ((hcA _ (k * 10 + 2) hgb).trans y2); have v3 := (hc3 _ (k * 10 + 3) hl3').trans ((hcA _ (k * 10 + 3) hgb).trans y3); have v4 := (hc3 _ (k * 10 + 4) hl3').trans ((hcA _ (k * 10 + 4) hgb).trans y4); have v5 := (hc3 _ (k * 10 + 5) hl3').trans ((hcA _ (k * 10 + 5) hgb).trans y5); have v6 := (hc3 _ (k * 10 + 6) hl3').trans ((hcA _ (k * 10 + 6) hgb).trans y6); have v7 := (hc3 _ (k * 10 + 7) hl3').trans ((hcA _ (k * 10 + 7) hgb).trans y7); have v8 := (hc3 _ (k * 10 + 8) hl3').trans ((hcA _ (k * 10 + 8) hgb).trans y8); have v9 := (hc3 _ (k * 10 + 9) hl3').trans ((hcA _ (k * 10 + 9) hgb).trans y9); simp only [List.getElem?_toArray, List.getElem?_cons_succ, List.getElem?_cons_zero] at u0 u1 u2 u3 u4 u5 u6 u7 u8 u9; clear hc3 hf3 hcA))
        go_wp2
        go_roundw
        case rel => first | exact ⟨k + 1, by go_num, hlt, btrans (btrans HB.out hBA'.out) hB3⟩ | ((repeat apply Exists.intro); exact ⟨⟨k + 1, by go_num, hlt, btrans (btrans HB.out hBA'.out) hB3⟩, rfl⟩)
        case measure => simp [intOf]; omega
      · have hgf : decide ((k : Int) < (S.length : Int) - 1) = false := by simp; omega
        clear hk3 y2 y3 y4 y5 y6 y7 y8 y9
        go_wp2
        go_quiet (fail)
        go_wp2
        go_roundw
        case rel => first | exact ⟨k + 1, by go_num, hlt, below_drewN (HB.out.alloc HB.out.size _) _⟩ | ((repeat apply Exists.intro); exact ⟨⟨k + 1, by go_num, hlt, below_drewN (HB.out.alloc HB.out.size _) _⟩, rfl⟩)
        case measure => simp [intOf]; omega
    · have K7 := hfix _ hBw
      have HW := Lib.hid hBw
      clear hBw hB
      go_wp2_with (go_at_call 7; refine K7.mono ?_; rintro e w3 ⟨rfl, hB3⟩)
      go_ret
      exact ⟨rfl, btrans HW.out hB3⟩
set_option maxRecDepth 100000 in
set_option maxHeartbeats 400000 in
theorem law5g (p : Option Addr) (l cap : Nat) (n : Int) (w : World) (hl : 6000 < l) (hfix : ∀ w', Below w.heap.size w w' → Calls Tryd.prog 7 #[] w' (Tru w')) : Calls Tryd.prog 5 #[.slice p l cap, .int .u16 n] w (Tru w) := by
  have K7 := hfix _ (Below.refl _ w)
  clear hfix
  go_enter Tryd.func5, Tryd.ntmps5
  go_wp2_with (go_at_call 7; refine K7.mono ?_; rintro e w3 ⟨rfl, hB3⟩)
  go_ret
  exact ⟨rfl, hB3⟩
theorem own_nil {PP : Pats} {base : Nat} {W : World} {v : Value} (h : ActsOwn PP base W v []) : ∃ p c, v = .slice p 0 c := by
  obtain ⟨p, c, e, _⟩ := h.slice
  exact ⟨p, c, e⟩
set_option maxRecDepth 100000 in
set_option maxHeartbeats 1000000 in
theorem law5n (n : Nat) (w : World) (hfix : ∀ w', Below w.heap.size w w' → Calls Tryd.prog 7 #[] w' (Tru w')) : Calls Tryd.prog 5 #[.slice none 0 0, .int .u16 (n : Int)] w (Tru w) := by
  have C8 := fun w' => c8n P1 w'
  have hr : ∀ w', (binOp .rem 3 (.int .i64 (n : Int)) (.int .i64 1)).run Tryd.prog w' = .ok (.int .i64 0) w' := fun w' => by
    have e : (n : Int).tmod 1 = 0 := by rw [Int.tmod_one]
    simp [binOp, Op.intDiv, e, go_sem]
  have e : (n : Int).tmod 1 = 0 := by rw [Int.tmod_one]
  have hsl : ∀ w', (Instr.sliceAt 22 (.slice none 0 0) none (some (.int .i64 0)) none).run Tryd.prog w' = .ok (.slice none 0 0) w' := fun w' => by
    go_simp
  have hw1w : IntKind.i64.wrap 1 = 1 := by decide
  have H := Lib.hid hfix
  clear hfix
  go_enter Tryd.func5, Tryd.ntmps5
  go_wp2
  go_region_with (first
    | (go_at_call 8; have hw1' := hw1; refine (C8 _).mono ?_; rintro e w2 ⟨vb, rfl, hb, hB2⟩; obtain ⟨pb, cb, rfl⟩ := own_nil hb; have hw2 := btrans hw1 hB2; clear hw1 hw1' hB2)
    | (go_at_call 8; refine (C8 _).mono ?_; rintro e w1 ⟨va, rfl, ha, hB1⟩; obtain ⟨pa, ca, rfl⟩ := own_nil ha; have hw1 := btrans (Below.refl _ w).drew hB1; clear hB1))
  clear ha hb e hr hsl
  go_wp2
  go_loopw [31] (fun i wr => i = .int .i64 0 ∧ Below w2.heap.size w2 wr) (fun _ _ => 0)
  case atStart => exact ⟨rfl, Below.refl _ _⟩
  case round =>
    obtain ⟨rfl, hB⟩ := hrel
    have K7 := H.out _ (btrans hw2 hB)
    have HW := Lib.hid (btrans hw2 hB)
    clear hB
    go_wp2_with (go_at_call 7; refine K7.mono ?_; rintro e w3 ⟨rfl, hB3⟩)
    go_ret
    exact ⟨rfl, btrans HW.out hB3⟩
end Go.Proofs.SA
