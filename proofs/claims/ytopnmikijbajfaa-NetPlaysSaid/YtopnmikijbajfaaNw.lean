/- Proved: what the law's 'does' comes to at a doubling. Each theorem says its own conditions. -/
import Derived.Test.YtopnmikijbajfaaNu
import Derived.Lib.ConvBytes
set_option linter.unusedVariables false
set_option linter.unusedSimpArgs false
namespace Go.Proofs.NT
open Go.RowKit Go.Ai
theorem conv_str (w : World) (s : List UInt8) : ∃ g cap W2, (convert 9 28 (.string ⟨s.toArray⟩)).run Try.prog w = .ok (.slice (some ⟨g, 0, none⟩) s.length cap) W2 ∧ BIn W2 (.slice (some ⟨g, 0, none⟩) s.length cap) s ∧ Below w.heap.size w W2 := by
  refine ⟨_, _, _, Lib.run_convert_string_bytes w 9 28 5 ⟨s.toArray⟩ Try.underlying9 Try.underlying28 Try.underlying5, .inr ⟨_, 0, _, rfl, fun _ => by rw [Lib.bytesWorld_size]; omega, fun j x hx => ?_⟩, ?_, ?_, ?_, by rw [Lib.bytesWorld_size]; omega, fun b hb => Lib.bytesWorld_at_old w 5 _ b hb⟩
  · have hj : j < s.length := by have := (List.getElem?_eq_some_iff.1 hx).1; rwa [B_len] at this
    rw [Nat.zero_add, Lib.bytesWorld_cell w 5 ⟨s.toArray⟩ j (by simpa [ByteArray.size] using hj), ← hx]
    simp [B, hj]
  all_goals rfl
theorem at_pos' {l : Nat} {k : Int} (h : 0 < l) : atOf l k = ((k.toNat % l : Nat) : Int) := by unfold atOf; rw [if_neg (by omega)]
set_option maxRecDepth 100000 in
set_option maxHeartbeats 4000000 in
theorem does_3z (n0 bn : Nat) (v : Value) (w : World) (a b k : Int) (sl : Nat) (p : Option Addr) (c : Nat) (h : Both n0 bn v [] w) :
    Calls Try.prog 15 #[nptr bn, v, .agg #[.int .i64 3, .int .u32 a, .int .u32 b, .slice p sl c, .int .i64 k]] w (DoesOut n0 bn w) := by
  have HBoth := Lib.hid h
  obtain ⟨⟨F, N, hn, hF, hr, hN⟩, hl, hs⟩ := h
  have hB := boxW_below w 3 a b p sl c k
  have hn1 := hn.below hB
  have HB := Lib.hid hB
  obtain ⟨pn, cn, hc⟩ := hn1.cell
  have K11 := c11z bn k pn cn _ hc
  obtain ⟨pv, cv, rfl⟩ := own_slice hr
  have K22 : ∀ W, Calls Try.prog 22 #[.slice pv 0 cv, .int .i64 k] W fun e w' => e = .returned (.int .i64 (-1)) ∧ W = w' := fun W => c22z pv cv k W
  simp only [List.length_nil] at *
  clear hn hF hr hB hs hn1 hc
  go_enter Try.func15, Try.ntmps15
  go_wp2_with (first
    | (go_at_call 22; refine (K22 _).mono ?_; rintro e w2 ⟨rfl, rfl⟩)
    | (go_at_call 11; refine K11.mono ?_; rintro e w2 ⟨rfl, rfl⟩))
  exact bodyPost_ret (v := .tuple #[.bool true, .slice pv 0 cv]) (by simp [results, Try.results15, go_sem]) rfl ⟨_, [], rfl, HBoth.out.below HB.out, Turn.of HB.out⟩
set_option maxRecDepth 100000 in
set_option maxHeartbeats 4000000 in
theorem does_3f (n0 bn : Nat) (v : Value) (L : List Ml) (w : World) (a b k : Int) (sl : Nat) (p : Option Addr) (c : Nat) (h : Both n0 bn v L w) (hf : L.length = 512) :
    Calls Try.prog 15 #[nptr bn, v, .agg #[.int .i64 3, .int .u32 a, .int .u32 b, .slice p sl c, .int .i64 k]] w (DoesOut n0 bn w) := by
  have HBoth := Lib.hid h
  obtain ⟨⟨F, N, hn, hF, hr, hN⟩, hl, hs⟩ := h
  have hB := boxW_below w 3 a b p sl c k
  have hn1 := hn.below hB
  have HB := Lib.hid hB
  obtain ⟨pn, cn, hc⟩ := hn1.cell
  rw [hf] at hc
  have K11 := c11f bn k pn cn _ hc
  obtain ⟨pv, cv, rfl⟩ := own_slice hr
  have K22 := fun W => c22a pv L.length cv k W hl
  rw [at_pos' (by omega), hf] at K22
  rw [hf] at HBoth ⊢
  clear hn hF hr hB hs hn1 hc
  generalize hQ : k.toNat % 512 = q at *
  have hq0 : decide ((q : Int) < 0) = false := by simp
  go_enter Try.func15, Try.ntmps15
  go_wp2_with (first
    | (go_at_call 22; refine (K22 _).mono ?_; rintro e w2 ⟨rfl, rfl⟩)
    | (go_at_call 11; refine K11.mono ?_; rintro e w2 ⟨rfl, rfl⟩))
  exact bodyPost_ret (v := .tuple #[.bool true, .slice pv 512 cv]) (by simp [results, Try.results15, go_sem]) rfl ⟨_, L, rfl, HBoth.out.below HB.out, Turn.of HB.out⟩
set_option maxRecDepth 100000 in
set_option maxHeartbeats 4000000 in
theorem does_3 (n0 bn : Nat) (v : Value) (L : List Ml) (w : World) (a b k : Int) (sl : Nat) (p : Option Addr) (c : Nat) (h : Both n0 bn v L w) (hpos : 0 < L.length) (hlt : L.length < 512) :
    Calls Try.prog 15 #[nptr bn, v, .agg #[.int .i64 3, .int .u32 a, .int .u32 b, .slice p sl c, .int .i64 k]] w (DoesOut n0 bn w) := by
  obtain ⟨⟨F, N, hn, hF, hr, hN⟩, hl, hs⟩ := h
  have hB := boxW_below w 3 a b p sl c k
  have hFw : ∀ b, F b → b < w.heap.size := fun b hb => by have := (hF b hb).2; omega
  have hR1 := hr.below hB
  have hn1 := (hn.below hB).bound
  have hn0w : n0 ≤ w.heap.size := by
    have hx := hn
    obtain ⟨_, _, _, _, _, h4, _⟩ := hx
    have := hF bn h4
    omega
  have hqlt : k.toNat % L.length < L.length := Nat.mod_lt _ hpos
  obtain ⟨m, hm⟩ : ∃ m, L[k.toNat % L.length]? = some m := ⟨_, List.getElem?_eq_getElem hqlt⟩
  have hms := hs m (List.mem_of_getElem? hm)
  have K11 := c11 hm (by omega) hlt (hn.below hB)
  have HB := Lib.hid hB; have HR1 := Lib.hid hR1; have HF := Lib.hid hF; have HS := Lib.hid hs; have HFW := Lib.hid hFw
  have K14 := fun (W : World) (bv : Value) (h : RefAt N W v L) (hb : BIn W bv m.s) => c14 v L N m.a m.b m.s bv W h hlt hb (by omega)
  obtain ⟨pv, cv, rfl⟩ := own_slice hr
  have K22 := fun W => c22a pv L.length cv k W hl
  rw [at_pos' hpos] at K22
  have hget := fun (W : World) (h : RefAt N W (.slice pv L.length cv) L) => h.get hm
  have HG := Lib.hid hget
  clear hn hF hr hB hs hR1 hn1 hFw hm hget
  have HLN := Lib.hid hlt
  obtain ⟨ma, mb, ms⟩ := m
  simp only at *
  generalize hQ : k.toNat % L.length = q at *
  generalize hLN : L.length = n at *
  have hq0 : decide ((q : Int) < 0) = false := by simp
  have hn0 : decide ((512 : Int) ≤ (n : Int)) = false := by simp; omega
  go_enter Try.func15, Try.ntmps15
  go_wp2_with (first
    | (go_at_call 22; refine (K22 _).mono ?_; rintro e w2 ⟨rfl, rfl⟩)
    | (go_at_call 11; refine K11.mono ?_; rintro e w2 ⟨rfl, hn2, ht2⟩; have hR2 := HR1.out.turn ht2 (fun b hb => (HF.out b hb).2); obtain ⟨g, cg, eg, hgN, hgl, y0, y1, y2⟩ := HG.out w2 hR2; cases eg; obtain ⟨g5, cap5, w5, hcv, hbin5, hB5⟩ := conv_str w2.drew ms; have hB25 : Below w2.heap.size w2 w5 := ((Below.refl _ w2).drew).trans (hB5.mono (by simp)); have u0 := (hB25.cell (p := ⟨g, q * 3, none⟩) hgl).trans y0; have u1 := (hB25.cell (p := ⟨g, q * 3 + 1, none⟩) hgl).trans y1; have u2 := (hB25.cell (p := ⟨g, q * 3 + 2, none⟩) hgl).trans y2; have K14 := K14 w5 _ (hR2.below hB25) hbin5; have HN2 := Lib.hid hn2; have HT2 := Lib.hid ht2; have HB25 := Lib.hid hB25; clear hn2 ht2 hR2 hbin5 hB5 hB25))
  go_region_law (go_simp; go_at_call 14; refine K14.mono ?_; rintro e w6 ⟨v6, rfl, hr6, hB6⟩; have HR6 := Lib.hid hr6; have HB6 := Lib.hid hB6; clear hr6 hB6)
  all_goals go_wp2
  all_goals (refine bodyPost_ret (v := .tuple #[.bool true, v6]) (by simp [results, Try.results15, go_sem]) rfl ⟨_, _, rfl, Both.step HN2.out (fun b hb => ?_) HB25.out HR6.out HB6.out ?_ (fun m hm => ?_), ?_⟩)
  all_goals first
    | exact Turn.trans (F' := (n0 ≤ ·)) (Turn.trans (F' := (n0 ≤ ·)) (Turn.trans (F' := (n0 ≤ ·)) (Turn.of HB.out) (HT2.out.more fun b hb => (HF.out b hb).1) (fun b _ h => h)) (Turn.of HB25.out) (fun b _ h => h)) (Turn.of HB6.out) (fun b _ h => h)
    | exact hb.elim (fun hb => (HF.out b hb).1) (fun hb => by have := HB.out.size; omega)
    | (rw [List.length_append, hLN]; simp; omega)
    | exact (List.mem_append.1 hm).elim (fun hm => HS.out m hm) (fun hm => by simp at hm; subst hm; exact hms)
end Go.Proofs.NT
