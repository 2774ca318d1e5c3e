/- Proved: what 'Double' comes to. Each theorem says its own conditions. -/
import Derived.Test.YtopnmikijbajfaaNe
set_option linter.unusedVariables false
set_option linter.unusedSimpArgs false
namespace Go.Proofs.NT
open Go.RowKit Go.Ai
theorem c11z (bn : Nat) (k : Int) (p : Option Addr) (c : Nat) (w : World) (h : w.cell? ⟨bn, 0, none⟩ = some (.slice p 0 c)) : Calls Try.prog 11 #[nptr bn, .int .i64 k] w fun e w' => e = .returned (.bool false) ∧ w = w' := by
  have K := c20z bn k p c w h
  go_enter Try.func11, Try.ntmps11
  go_wp2_with (go_at_call 20; refine K.mono ?_; rintro e w2 ⟨rfl, rfl⟩)
  go_ret
  exact ⟨rfl, rfl⟩
theorem c11f (bn : Nat) (k : Int) (p : Option Addr) (c : Nat) (w : World) (h : w.cell? ⟨bn, 0, none⟩ = some (.slice p 512 c)) : Calls Try.prog 11 #[nptr bn, .int .i64 k] w fun e w' => e = .returned (.bool false) ∧ w = w' := by
  have K := c20 bn k p 512 c w h (by omega) (by omega)
  go_enter Try.func11, Try.ntmps11
  go_wp2_with (go_at_call 20; refine K.mono ?_; rintro e w2 ⟨rfl, rfl⟩)
  go_ret
  exact ⟨rfl, rfl⟩
def DoubleOut (F : Nat → Prop) (bn : Nat) (L : List Ml) (m : Ml) (w : World) (e : Ending) (w' : World) : Prop :=
  e = .returned (.bool true) ∧ NetAt (fun b => F b ∨ w.heap.size ≤ b) bn (L ++ [m]) w' ∧ Turn F w w'
set_option maxRecDepth 100000 in
set_option maxHeartbeats 4000000 in
theorem c11 {F : Nat → Prop} {bn : Nat} {L : List Ml} {w : World} {k : Int} {m : Ml} (hm : L[k.toNat % L.length]? = some m) (hs : m.s.length ≤ 16384) (hL : L.length < 512) (h : NetAt F bn L w) : Calls Try.prog 11 #[nptr bn, .int .i64 k] w (DoubleOut F bn L m w) := by
  have hpos : 0 < L.length := by
    rcases Nat.eq_zero_or_pos L.length with h | h
    · rw [List.eq_nil_of_length_eq_zero h] at hm; simp at hm
    · exact h
  obtain ⟨g, c', pv, pl, pc, x, hg, y0, y1, y2, hby⟩ := h.get hm
  obtain ⟨lv, xs, h1, h2, h3, h4, h5⟩ := h
  obtain ⟨p, c, rfl⟩ := own_slice h2
  have hc : w.cell? ⟨bn, 0, none⟩ = some (.slice p L.length c) := cell_of_heap h1 0
  rw [hc] at x
  cases x
  have hfz : w.frozen? ⟨bn, 0, none⟩ = false := by simp [World.frozen?, h1]
  have hbn : bn < w.heap.size := (Array.getElem?_eq_some_iff.1 h1).1
  obtain ⟨i0, hi0, hz0, hz1, hz2⟩ := info_parts info39
  have e2 : decide ((512 : Int) ≤ (L.length : Int)) = false := by simp; omega
  have H1 := Lib.hid h1; have H2 := Lib.hid h2; have H3 := Lib.hid h3; have H5 := Lib.hid h5; have HV := Lib.hid hby.bin
  have hlv : (Value.slice (some ⟨g, 0, none⟩) L.length c').ownBlock ≠ some bn := fun e => (h3 bn e).2 rfl
  have hgb : g ≠ bn := fun e => hlv (by rw [e]; rfl)
  obtain ⟨a, b, s⟩ := m
  have K19 := c19 a b s (.slice pv pl pc)
  have K20 := c20 bn k (some ⟨g, 0, none⟩) L.length c' w hc hpos (by omega)
  have hat : k.toNat % L.length < L.length := Nat.mod_lt _ hpos
  simp only at *
  clear h1 h2 h3 h5 hby hm
  generalize hN : L.length = n at *
  generalize hQ : k.toNat % n = q at *
  have HN := Lib.hid hN
  clear hN
  go_enter Try.func11, Try.ntmps11
  go_wp2_with (go_at_call 20; refine K20.mono ?_; rintro e w2 ⟨rfl, rfl⟩)
  go_region_law (first
    | (go_simp; go_at_call 19; refine (K19 _ (by omega) (HV.out.mono (Below.refl _ w).drew)).mono ?_; rintro e w2 ⟨p2, l2, c2, rfl, hb2, hB2⟩; have hB2' : Below w.heap.size w w2 := ((Below.refl _ w).drew).trans (hB2.mono (by simp)); obtain ⟨hc2, hf2⟩ := bcell hB2'; have hz2' : bn < w2.heap.size := (by have := hB2'.size; omega); have hne2 : ¬ (bn = w2.heap.size) := (by omega); have hne3 : ¬ (w2.heap.size = bn) := (by omega); have g0 := (hc2 bn 0 hbn).trans hc; have g1 := (hf2 bn 0 hbn).trans hfz; have k0 := (hc2 g _ hg).trans y0; have k1 := (hc2 g _ hg).trans y1; have k2 := (hc2 g _ hg).trans y2; have HB2 := Lib.hid hB2'; have HBY := Lib.hid hb2; have HO2 := Lib.hid (own_below H2.out hB2'); clear hB2 hB2' hb2 hc2 hf2)
    | (refine step_append_lies _ (by rfl) _ _ _ (by rfl) 0 39 i0 _ 3 32 Try.underlying35 hi0 hz0 hz1 hz2 rfl (by omega) (.slice (some ⟨g, 0, none⟩) n c') n xs (by rfl) (HO2.out.alloc _) ⟨w2.heap.size, 0, none⟩ 1 1 [.int .u32 a, .int .u32 b, .slice p2 l2 c2] (by rfl) (by rfl) (World.news_of_block (cs := #[.int .u32 a, .int .u32 b, .slice p2 l2 c2]) (t := 39) (fr := (0, 0)) (heap_alloc_new w2 _)) (by simp [Value.oneCell']) (by omega) (by unfold maxLen; omega) (by omega) (by omega) (w2.heap.size + 1) (by simp) ?_; intro gg cap w4 hown4 hgrow hat hlt4; have gb := (hgrow.block bn (by simp; omega) (Ne.symm hlv)); have gb0 := (World.cell?_of_block (a := ⟨bn, 0, none⟩) gb).trans (((((Below.refl _ w2).alloc (Nat.le_refl _) _)).cell (p := ⟨bn, 0, none⟩) hz2').trans g0); have gb1 := (World.frozen?_of_block (a := ⟨bn, 0, none⟩) gb).trans (((((Below.refl _ w2).alloc (Nat.le_refl _) _)).frozen (p := ⟨bn, 0, none⟩) hz2').trans g1); clear gb; have HO4 := Lib.hid hown4; have HG4 := Lib.hid hgrow; have HA4 := Lib.hid hat; clear hown4 hgrow hat))
  all_goals go_wp2
  all_goals go_ret
  all_goals (have hN := HN.out; subst hN; obtain ⟨r1, r2⟩ := NetAt.snoc H1.out H2.out H3.out h4 H5.out HB2.out (by simpa using HBY.out) ((Below.refl _ w2).alloc (Nat.le_refl _) _) HO4.out HG4.out (by simpa using HA4.out) (by assumption); exact ⟨rfl, r1, r2⟩)
end Go.Proofs.NT
