/- Proved: what the law's 'does' comes to, kind by kind. Each theorem says its own conditions. -/
import Derived.Test.YtopnmikijbajfaaNs
import Derived.Test.YtopnmikijbajfaaNl
set_option linter.unusedVariables false
set_option linter.unusedSimpArgs false
namespace Go.Proofs.NT
open Go.RowKit Go.Ai
/-- Where an operation falls. -/
def atOf (l : Nat) (k : Int) : Int := if l = 0 then -1 else ((k.toNat % l : Nat) : Int)
theorem c22a (p : Option Addr) (l c : Nat) (k : Int) (w : World) (hl2 : l ≤ 512) : Calls Try.prog 22 #[.slice p l c, .int .i64 k] w fun e w' => e = .returned (.int .i64 (atOf l k)) ∧ w = w' := by
  unfold atOf
  split
  · next h => subst h; exact c22z p c k w
  · exact c22 p l c k w (by omega) hl2
theorem RefAt.turn {N : Nat} {F : Nat → Prop} {w w2 : World} {v : Value} {L : List Ml} (h : RefAt N w v L) (ht : Turn F w w2) (hF : ∀ b, F b → b < N) : RefAt N w2 v L :=
  own_keeps (ok := fun b => ¬ F b) h (ht.keeps fun b _ ho => ho) fun g hg hf => by have h1 := (World.ownsRow.lt h g hg).1; have h2 := hF g hf; omega
theorem RefAt.below {N : Nat} {w w2 : World} {v : Value} {L : List Ml} (h : RefAt N w v L) (ht : Below w.heap.size w w2) : RefAt N w2 v L := own_below h ht
/-- Both hold the same mails. -/
structure Both (n0 bn : Nat) (v : Value) (L : List Ml) (W : World) : Prop where
  ex : ∃ F N, NetAt F bn L W ∧ (∀ b, F b → n0 ≤ b ∧ b < N) ∧ RefAt N W v L ∧ N ≤ W.heap.size
  len : L.length ≤ 512
  small : ∀ m ∈ L, m.s.length ≤ 6000
theorem Both.step {n0 bn : Nat} {v : Value} {L : List Ml} {F : Nat → Prop} {w2 w3 w4 : World} (hn : NetAt F bn L w2) (hF : ∀ b, F b → n0 ≤ b) (hB : Below w2.heap.size w2 w3) (hr : RefAt w3.heap.size w4 v L) (hB4 : Below w3.heap.size w3 w4) (hl : L.length ≤ 512) (hs : ∀ m ∈ L, m.s.length ≤ 6000) : Both n0 bn v L w4 :=
  ⟨⟨fun b => F b ∧ b < w2.heap.size, w3.heap.size, (hn.bound.below hB).below hB4, fun b h => ⟨hF b h.1, Nat.lt_of_lt_of_le h.2 hB.size⟩, hr, hB4.size⟩, hl, hs⟩
theorem Both.below {n0 bn : Nat} {v : Value} {L : List Ml} {w w' : World} (h : Both n0 bn v L w) (hB : Below w.heap.size w w') : Both n0 bn v L w' := by
  obtain ⟨⟨F, N, h1, h2, h3, h4⟩, h5, h6⟩ := h
  exact ⟨⟨F, N, h1.below hB, h2, h3.below hB, Nat.le_trans h4 hB.size⟩, h5, h6⟩
abbrev opV (x : Opr) (p : Option Addr) (c : Nat) : Value := .agg #[.int .i64 x.kd, .int .u32 x.a, .int .u32 x.b, .slice p x.s.length c, .int .i64 x.k]
def DoesOut (n0 bn : Nat) (w : World) (e : Ending) (w' : World) : Prop := ∃ v' L', e = .returned (.tuple #[.bool true, v']) ∧ Both n0 bn v' L' w' ∧ Turn (n0 ≤ ·) w w'
set_option maxRecDepth 100000 in
set_option maxHeartbeats 4000000 in
theorem does_e (n0 bn : Nat) (v : Value) (L : List Ml) (w : World) (kd a b k : Int) (sl : Nat) (p : Option Addr) (c : Nat) (h : Both n0 bn v L w) (h0 : ¬ kd = 0) (h1 : ¬ kd = 1) (h2 : ¬ kd = 2) (h3 : ¬ kd = 3) (h4 : ¬ kd = 4) :
    Calls Try.prog 15 #[nptr bn, v, .agg #[.int .i64 kd, .int .u32 a, .int .u32 b, .slice p sl c, .int .i64 k]] w (DoesOut n0 bn w) := by
  have H := Lib.hid h
  obtain ⟨⟨F, N, hn, hF, hr, hN⟩, hl, hs⟩ := h
  obtain ⟨pv, cv, rfl⟩ := own_slice hr
  have hB : Below w.heap.size w (w.alloc (.cells #[.int .i64 kd, .int .u32 a, .int .u32 b, .slice p sl c, .int .i64 k] 32)) := (Below.refl _ w).alloc (Nat.le_refl _) _
  have HB := Lib.hid hB
  have d0 : decide (kd = 0) = false := by simp [h0]
  have d1 : decide (kd = 1) = false := by simp [h1]
  have d2 : decide (kd = 2) = false := by simp [h2]
  have d3 : decide (kd = 3) = false := by simp [h3]
  have d4 : decide (kd = 4) = false := by simp [h4]
  have K22 := fun W => c22a pv L.length cv k W hl
  clear hn hF hr hB hs
  go_enter Try.func15, Try.ntmps15
  go_wp2_with (go_at_call 22; refine (K22 _).mono ?_; rintro e w2 ⟨rfl, rfl⟩)
  refine bodyPost_ret (v := .tuple #[.bool true, .slice pv L.length cv]) (by simp [results, Try.results15, go_sem]) rfl ⟨_, L, rfl, H.out.below HB.out, Turn.of HB.out⟩
set_option maxRecDepth 100000 in
set_option maxHeartbeats 4000000 in
theorem does_4 (n0 bn : Nat) (v : Value) (L : List Ml) (w : World) (a b k : Int) (sl : Nat) (p : Option Addr) (c : Nat) (h : Both n0 bn v L w) :
    Calls Try.prog 15 #[nptr bn, v, .agg #[.int .i64 4, .int .u32 a, .int .u32 b, .slice p sl c, .int .i64 k]] w (DoesOut n0 bn w) := by
  obtain ⟨⟨F, N, hn, hF, hr, hN⟩, hl, hs⟩ := h
  have hB : Below w.heap.size w (w.alloc (.cells #[.int .i64 4, .int .u32 a, .int .u32 b, .slice p sl c, .int .i64 k] 32)) := (Below.refl _ w).alloc (Nat.le_refl _) _
  have hFw : ∀ b, F b → b < w.heap.size := fun b hb => by have := (hF b hb).2; omega
  have hnF : ¬ F w.heap.size := fun h => by have := hFw _ h; omega
  have K17 := c17 b hl (fun b hb => Nat.lt_of_lt_of_le (hFw b hb) hB.size) (hn.below hB)
  have K24 := fun (W : World) (h : RefAt N W v L) => c24 v L N b W h hl
  have hR1 := hr.below hB
  obtain ⟨pv, cv, rfl⟩ := own_slice hr
  have hblk : (w.alloc (.cells #[.int .i64 4, .int .u32 a, .int .u32 b, .slice p sl c, .int .i64 k] 32)).heap[w.heap.size]? = some (.cells #[.int .i64 4, .int .u32 a, .int .u32 b, .slice p sl c, .int .i64 k] 32 (0, 0)) := heap_alloc_new w _
  have HB := Lib.hid hB; have HBLK := Lib.hid hblk; have HR1 := Lib.hid hR1; have HF := Lib.hid hF; have HS := Lib.hid hs
  have K22 := fun W => c22a pv L.length cv k W hl
  clear hn hF hr hB hs hblk hR1
  go_enter Try.func15, Try.ntmps15
  go_wp2_with (first
    | (go_at_call 22; refine (K22 _).mono ?_; rintro e w2 ⟨rfl, rfl⟩)
    | (go_at_call 17; refine K17.mono ?_; rintro e w2 ⟨rfl, hn2, ht2⟩; have t5b := (ht2.block w.heap.size (by simp) hnF).trans HBLK.out; have x0 := cell_of_heap t5b 0; have x1 := cell_of_heap t5b 1; have x2 := cell_of_heap t5b 2; have x3 := cell_of_heap t5b 3; have x4 := cell_of_heap t5b 4; simp only [List.getElem?_toArray, List.getElem?_cons_succ, List.getElem?_cons_zero] at x0 x1 x2 x3 x4; have hR2 := HR1.out.turn ht2 (fun b hb => (HF.out b hb).2); have K24 := K24 _ hR2; have HN2 := Lib.hid hn2; have HT2 := Lib.hid ht2; clear hn2 ht2 t5b hR2)
    | (go_at_call 24; refine K24.mono ?_; rintro e w3 ⟨v3, rfl, hr3, hB3⟩; have HR3 := Lib.hid hr3; have HB3 := Lib.hid hB3; clear hr3 hB3))
  refine bodyPost_ret (v := .tuple #[.bool true, v3]) (by simp [results, Try.results15, go_sem]) rfl ⟨_, _, rfl, Both.step HN2.out (fun b hb => (HF.out b hb).1) (Below.refl _ _) HR3.out HB3.out ?_ ?_, ?_⟩
  · have := List.length_filter_le (keepM b) L; omega
  · intro m hm; exact HS.out m (List.mem_filter.1 hm).1
  · exact Turn.trans (F' := (n0 ≤ ·)) (Turn.trans (F' := (n0 ≤ ·)) (Turn.of HB.out) (HT2.out.more fun b hb => (HF.out b hb).1) (fun b _ h => h)) (Turn.of HB3.out) (fun b _ h => h)
end Go.Proofs.NT
