/- Proved: what the law's 'does' comes to at a loss and at a taking. Each theorem says its own conditions. -/
import Derived.Test.YtopnmikijbajfaaNu
set_option linter.unusedVariables false
set_option linter.unusedSimpArgs false
namespace Go.Proofs.NT
open Go.RowKit Go.Ai
theorem at_pos {l : Nat} {k : Int} (h : 0 < l) : atOf l k = ((k.toNat % l : Nat) : Int) := by unfold atOf; rw [if_neg (by omega)]
theorem without_len {L : List Ml} {q : Nat} : (L.take q ++ L.drop (q + 1)).length ≤ L.length := by simp; omega
theorem without_mem {L : List Ml} {q : Nat} {m : Ml} (h : m ∈ L.take q ++ L.drop (q + 1)) : m ∈ L := by
  rcases List.mem_append.1 h with h | h
  · exact List.mem_of_mem_take h
  · exact List.mem_of_mem_drop h
set_option maxRecDepth 100000 in
set_option maxHeartbeats 4000000 in
theorem does_2 (n0 bn : Nat) (v : Value) (L : List Ml) (w : World) (a b k : Int) (sl : Nat) (p : Option Addr) (c : Nat) (h : Both n0 bn v L w) :
    Calls Try.prog 15 #[nptr bn, v, .agg #[.int .i64 2, .int .u32 a, .int .u32 b, .slice p sl c, .int .i64 k]] w (DoesOut n0 bn w) := by
  obtain ⟨⟨F, N, hn, hF, hr, hN⟩, hl, hs⟩ := h
  have hB := boxW_below w 2 a b p sl c k
  have hFw : ∀ b, F b → b < w.heap.size := fun b hb => by have := (hF b hb).2; omega
  have hF1 : ∀ b', F b' → b' < (boxW w 2 a b p sl c k).heap.size := fun b hb => Nat.lt_of_lt_of_le (hFw b hb) hB.size
  have hR1 := hr.below hB
  have hn1 := hn.below hB
  have HB := Lib.hid hB; have HR1 := Lib.hid hR1; have HF := Lib.hid hF; have HS := Lib.hid hs; have HN1 := Lib.hid hn1
  have K23 := fun (W : World) (q : Int) (h : RefAt N W v L) => c23 v L N q W h hl
  rcases Nat.eq_zero_or_pos L.length with hz | hpos
  · obtain rfl : L = [] := List.eq_nil_of_length_eq_zero hz
    obtain ⟨pn, cn, hc⟩ := hn1.cell
    have K18 := c18z bn k pn cn _ hc
    obtain ⟨pv, cv, rfl⟩ := own_slice hr
    have K22 : ∀ W, Calls Try.prog 22 #[.slice pv 0 cv, .int .i64 k] W fun e w' => e = .returned (.int .i64 (-1)) ∧ W = w' := fun W => c22z pv cv k W
    simp only [List.length_nil] at *
    clear hn hF hr hB hs hR1 hn1 hF1 hFw hc
    go_enter Try.func15, Try.ntmps15
    go_wp2_with (first
      | (go_at_call 22; refine (K22 _).mono ?_; rintro e w2 ⟨rfl, rfl⟩)
      | (go_at_call 18; refine K18.mono ?_; rintro e w2 ⟨rfl, hB2⟩; have K23 := K23 w2 (-1) (HR1.out.below hB2); have HB2 := Lib.hid hB2; clear hB2)
      | (go_at_call 23; refine K23.mono ?_; rintro e w3 ⟨v3, rfl, hr3, hB3⟩; have HR3 := Lib.hid hr3; have HB3 := Lib.hid hB3; clear hr3 hB3))
    refine bodyPost_ret (v := .tuple #[.bool true, v3]) (by simp [results, Try.results15, go_sem]) rfl ⟨_, _, rfl, Both.step (HN1.out.below HB2.out) (fun b hb => (HF.out b hb).1) (Below.refl _ _) HR3.out HB3.out (by simp) (fun m hm => by simp at hm), ?_⟩
    exact Turn.trans (F' := (n0 ≤ ·)) (Turn.trans (F' := (n0 ≤ ·)) (Turn.of HB.out) (Turn.of HB2.out) (fun b _ h => h)) (Turn.of HB3.out) (fun b _ h => h)
  · have hqlt : k.toNat % L.length < L.length := Nat.mod_lt _ hpos
    obtain ⟨m, hm⟩ : ∃ m, L[k.toNat % L.length]? = some m := ⟨_, List.getElem?_eq_getElem hqlt⟩
    have K18 := c18 hm hl hF1 hn1
    have hwo := wo_at L 0 (k.toNat % L.length)
    rw [Nat.zero_add] at hwo
    obtain ⟨pv, cv, rfl⟩ := own_slice hr
    have K22 := fun W => c22a pv L.length cv k W hl
    rw [at_pos hpos] at K22
    have HL := Lib.hid (And.intro hl (show k.toNat % L.length < L.length from hqlt))
    have HWO := Lib.hid hwo
    clear hn hF hr hB hs hR1 hn1 hF1 hFw hm hwo
    generalize hQ : k.toNat % L.length = q at *
    have hq0 : decide (0 ≤ (q : Int)) = true := by simp
    go_enter Try.func15, Try.ntmps15
    go_wp2_with (first
      | (go_at_call 22; refine (K22 _).mono ?_; rintro e w2 ⟨rfl, rfl⟩)
      | (go_at_call 18; refine K18.mono ?_; rintro e w2 ⟨rfl, hn2, ht2⟩; have hR2 := HR1.out.turn ht2 (fun b hb => (HF.out b hb).2); have K23 := K23 w2 q hR2; have HN2 := Lib.hid hn2; have HT2 := Lib.hid ht2; clear hn2 ht2 hR2)
      | (go_at_call 23; refine K23.mono ?_; rintro e w3 ⟨v3, rfl, hr3, hB3⟩; have HR3 := Lib.hid hr3; have HB3 := Lib.hid hB3; clear hr3 hB3))
    have hr3 := HR3.out
    rw [HWO.out] at hr3
    refine bodyPost_ret (v := .tuple #[.bool true, v3]) (by simp [results, Try.results15, go_sem]) rfl ⟨_, _, rfl, Both.step HN2.out (fun b hb => (HF.out b hb).1) (Below.refl _ _) hr3 HB3.out (Nat.le_trans without_len hl) (fun m hm => HS.out m (without_mem hm)), ?_⟩
    exact Turn.trans (F' := (n0 ≤ ·)) (Turn.trans (F' := (n0 ≤ ·)) (Turn.of HB.out) (HT2.out.more fun b hb => (HF.out b hb).1) (fun b _ h => h)) (Turn.of HB3.out) (fun b _ h => h)
set_option maxRecDepth 100000 in
set_option maxHeartbeats 4000000 in
theorem does_1z (n0 bn : Nat) (v : Value) (w : World) (a b k : Int) (sl : Nat) (p : Option Addr) (c : Nat) (h : Both n0 bn v [] w) :
    Calls Try.prog 15 #[nptr bn, v, .agg #[.int .i64 1, .int .u32 a, .int .u32 b, .slice p sl c, .int .i64 k]] w (DoesOut n0 bn w) := by
  have HBoth := Lib.hid h
  obtain ⟨⟨F, N, hn, hF, hr, hN⟩, hl, hs⟩ := h
  have hB := boxW_below w 1 a b p sl c k
  have hn1 := hn.below hB
  have HB := Lib.hid hB
  obtain ⟨pn, cn, hc⟩ := hn1.cell
  have K12 := c12z bn k pn cn _ hc
  obtain ⟨pv, cv, rfl⟩ := own_slice hr
  have K22 : ∀ W, Calls Try.prog 22 #[.slice pv 0 cv, .int .i64 k] W fun e w' => e = .returned (.int .i64 (-1)) ∧ W = w' := fun W => c22z pv cv k W
  simp only [List.length_nil] at *
  clear hn hF hr hB hs hn1 hc
  go_enter Try.func15, Try.ntmps15
  go_wp2_with (first
    | (go_at_call 22; refine (K22 _).mono ?_; rintro e w2 ⟨rfl, rfl⟩)
    | (go_at_call 12; refine K12.mono ?_; rintro e w2 ⟨rfl, hB2⟩; have HB2 := Lib.hid hB2; clear hB2))
  have hBB : Below w.heap.size w (w2.alloc (.cells #[.int .u32 0, .int .u32 0, .slice none 0 0] 39)) := (HB.out.trans (HB2.out.mono HB.out.size)).alloc (HB.out.trans (HB2.out.mono HB.out.size)).size _
  exact bodyPost_ret (v := .tuple #[.bool true, .slice pv 0 cv]) (by simp [results, Try.results15, go_sem]) rfl ⟨_, [], rfl, HBoth.out.below hBB, Turn.of hBB⟩
set_option maxRecDepth 100000 in
set_option maxHeartbeats 4000000 in
theorem does_1 (n0 bn : Nat) (v : Value) (L : List Ml) (w : World) (a b k : Int) (sl : Nat) (p : Option Addr) (c : Nat) (h : Both n0 bn v L w) (hpos : 0 < L.length) :
    Calls Try.prog 15 #[nptr bn, v, .agg #[.int .i64 1, .int .u32 a, .int .u32 b, .slice p sl c, .int .i64 k]] w (DoesOut n0 bn w) := by
  obtain ⟨⟨F, N, hn, hF, hr, hN⟩, hl, hs⟩ := h
  have hB := boxW_below w 1 a b p sl c k
  have hFw : ∀ b, F b → b < w.heap.size := fun b hb => by have := (hF b hb).2; omega
  have hF1 : ∀ b', F b' → b' < (boxW w 1 a b p sl c k).heap.size := fun b hb => Nat.lt_of_lt_of_le (hFw b hb) hB.size
  have hR1 := hr.below hB
  have hn1 := hn.below hB
  have HB := Lib.hid hB; have HR1 := Lib.hid hR1; have HF := Lib.hid hF; have HS := Lib.hid hs
  have K23 := fun (W : World) (q : Int) (h : RefAt N W v L) => c23 v L N q W h hl
  have hqlt : k.toNat % L.length < L.length := Nat.mod_lt _ hpos
  obtain ⟨m, hm⟩ : ∃ m, L[k.toNat % L.length]? = some m := ⟨_, List.getElem?_eq_getElem hqlt⟩
  have K12 := c12 hm hl hF1 hn1
  have hwo := wo_at L 0 (k.toNat % L.length)
  rw [Nat.zero_add] at hwo
  obtain ⟨pv, cv, rfl⟩ := own_slice hr
  have K22 := fun W => c22a pv L.length cv k W hl
  rw [at_pos hpos] at K22
  have hget := fun (W : World) (h : RefAt N W (.slice pv L.length cv) L) => h.get hm
  have HWO := Lib.hid hwo; have HG := Lib.hid hget
  have HLL := Lib.hid (without_len (L := L) (q := k.toNat % L.length))
  clear hn hF hr hB hs hR1 hn1 hF1 hFw hm hwo hget
  obtain ⟨ma, mb, ms⟩ := m
  simp only at *
  generalize hQ : k.toNat % L.length = q at *
  generalize hLN : L.length = n at *
  have hq0 : decide ((q : Int) < 0) = false := by simp
  go_enter Try.func15, Try.ntmps15
  go_wp2_with (first
    | (go_at_call 22; refine (K22 _).mono ?_; rintro e w2 ⟨rfl, rfl⟩)
    | (go_at_call 12; refine K12.mono ?_; rintro e w2 ⟨p2, l2, c2, rfl, hbin2, hn2, ht2⟩; obtain ⟨_, _, e2⟩ := hbin2.slice; cases e2; have hR2 := HR1.out.turn ht2 (fun b hb => (HF.out b hb).2); obtain ⟨g, cg, eg, hgN, hgl, y0, y1, y2⟩ := HG.out w2 hR2; cases eg; have hne : ¬ (w2.heap.size = g) := (by omega); have hne2 : ¬ (g = w2.heap.size) := (by omega); have hBw3 : Below w2.heap.size w2 (w2.alloc (.cells #[.int .u32 ma, .int .u32 mb, .slice p2 ms.length c2] 39)) := (Below.refl _ w2).alloc (Nat.le_refl _) _; have hBw4 : Below w2.heap.size w2 ((w2.alloc (.cells #[.int .u32 ma, .int .u32 mb, .slice p2 ms.length c2] 39)).alloc (.cells #[.int .u32 ma, .int .u32 mb, .string ⟨ms.toArray⟩] 51)).drew := (hBw3.alloc (by simp) _).drew; have hcv4 := conv_bin (hbin2.mono hBw4); have K23 := K23 _ q (hR2.below hBw4); have HBN := Lib.hid hbin2; have HN2 := Lib.hid hn2; have HT2 := Lib.hid ht2; have HB4 := Lib.hid hBw4; clear hn2 ht2 hR2 hbin2 hBw3 hBw4))
  go_region_law (first
    | (go_simp; go_at_call 23; refine K23.mono ?_; rintro e w5 ⟨v5, rfl, hr5, hB5⟩; have hbl := hB5.block; have t13b := (hB5.block w2.heap.size (by simp <;> omega)).trans ((((Below.refl _ (w2.alloc (.cells #[.int .u32 ma, .int .u32 mb, .slice p2 ms.length c2] 39))).alloc (Nat.le_refl _) (.cells #[.int .u32 ma, .int .u32 mb, .string ⟨ms.toArray⟩] 51)).block w2.heap.size (by simp <;> omega)).trans (heap_alloc_new w2 _)); have t15b := (hB5.block (w2.alloc (.cells #[.int .u32 ma, .int .u32 mb, .slice p2 ms.length c2] 39)).heap.size (by simp)).trans (heap_alloc_new _ _); simp only [World.size_alloc] at t15b; have s0 := cell_of_heap t13b 0; have s1 := cell_of_heap t13b 1; have s2 := cell_of_heap t13b 2; have r0 := cell_of_heap t15b 0; have r1 := cell_of_heap t15b 1; have r2 := cell_of_heap t15b 2; simp only [List.getElem?_toArray, List.getElem?_cons_succ, List.getElem?_cons_zero] at s0 s1 s2 r0 r1 r2; have hcv5 := conv_bin (HBN.out.mono (HB4.out.trans (hB5.mono HB4.out.size))); have HR5 := Lib.hid hr5; have HB5 := Lib.hid hB5; clear hr5 hB5 hbl t13b t15b))
  all_goals go_wp2
  all_goals (have hr5 := HR5.out; rw [HWO.out] at hr5; refine bodyPost_ret (v := .tuple #[.bool true, v5]) (by simp [results, Try.results15, go_sem]) rfl ⟨_, _, rfl, Both.step HN2.out (fun b hb => (HF.out b hb).1) HB4.out hr5 HB5.out (Nat.le_trans HLL.out hl) (fun m hm => HS.out m (without_mem hm)), ?_⟩; exact Turn.trans (F' := (n0 ≤ ·)) (Turn.trans (F' := (n0 ≤ ·)) (Turn.trans (F' := (n0 ≤ ·)) (Turn.of HB.out) (HT2.out.more fun b hb => (HF.out b hb).1) (fun b _ h => h)) (Turn.of HB4.out) (fun b _ h => h)) (Turn.of HB5.out) (fun b _ h => h))
end Go.Proofs.NT
