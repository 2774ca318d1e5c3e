/- Proved: what EvlogNil's calls on a nil log and its cut give; each theorem says its own conditions. -/
import Derived.Test.YtalfcgcikadjfaaGreatDoorEa
set_option linter.unusedVariables false
set_option linter.unusedSimpArgs false
namespace Go.Proofs.EV
open Go.ChangeShapes Go.WideShapes Go.ChangeAt Go.RowKit
def Gives (v : Value) (w : World) (e : Ending) (w' : World) : Prop := e = .returned v ∧ Below w.heap.size w w'
theorem k8 (p q : Int) (w : World) : Calls Tryz.prog 8 #[.pointer none, .int .u32 p, .int .u64 q] w (Gives (.tuple #[]) w) := by
  go_enter Tryz.func8, Tryz.ntmps8
  go_wp2
  exact bodyPost_ret (v := .tuple #[]) (by simp [results, Tryz.results8, go_sem]) rfl ⟨rfl, Below.refl _ _⟩
theorem k9 (p : Int) (w : World) : Calls Tryz.prog 9 #[.pointer none, .int .u64 p] w (Gives (.tuple #[]) w) := by
  go_enter Tryz.func9, Tryz.ntmps9
  go_wp2
  exact bodyPost_ret (v := .tuple #[]) (by simp [results, Tryz.results9, go_sem]) rfl ⟨rfl, Below.refl _ _⟩
theorem k14 (q : Int) (w : World) : Calls Tryz.prog 14 #[.pointer none, .int .u64 q] w (Gives (.int .i64 1) w) := by
  go_enter Tryz.func14, Tryz.ntmps14
  go_wp2
  go_ret
  exact ⟨rfl, Below.refl _ _⟩
theorem k15 (p : Int) (w : World) : Calls Tryz.prog 15 #[.pointer none, .int .u32 p] w (Gives (.int .u64 0) w) := by
  go_enter Tryz.func15, Tryz.ntmps15
  go_wp2
  go_ret
  exact ⟨rfl, Below.refl _ _⟩
abbrev noEv : Value := .agg #[.int .u32 0, .int .u64 0, .int .u64 0, .int .u8 0, .slice none 0 0]
theorem k12 (q : Int) (w : World) : Calls Tryz.prog 12 #[.pointer none, .int .u64 q] w (Gives (.tuple #[noEv, .int .i64 1]) w) := by
  go_enter Tryz.func12, Tryz.ntmps12
  go_wp2
  exact bodyPost_ret (v := .tuple #[noEv, .int .i64 1]) (by simp [results, Tryz.results12, go_sem]) rfl ⟨rfl, (Below.refl _ w).alloc (Nat.le_refl _) _⟩
theorem k10 (p q n t : Int) (s : Option Addr) (l c : Nat) (w : World) : Calls Tryz.prog 10 #[.pointer none, .int .u32 p, .int .u64 q, .int .u64 n, .agg #[.int .u8 t, .slice s l c]] w (fun e w' => e = .returned (.tuple #[.int .u64 0, .int .i64 1]) ∧ Below w.heap.size w w') := by
  go_enter Tryz.func10, Tryz.ntmps10
  go_wp2_with (first
    | (go_at_call 15; refine (k15 p _).mono ?_; rintro e w2 ⟨rfl, hB⟩)
    | fail)
  exact bodyPost_ret (v := .tuple #[.int .u64 0, .int .i64 1]) (by simp [results, Tryz.results10, go_sem]) rfl ⟨rfl, ((Below.refl _ w).alloc (Nat.le_refl _) _).trans (hB.mono (by simp))⟩
def CutOut (b cap : Nat) (w : World) (e : Ending) (w' : World) : Prop := (e = .returned (.slice (some ⟨b, 0, none⟩) 1 cap) ∨ e = .returned (.slice (some ⟨b, 0, none⟩) 0 cap)) ∧ Below w.heap.size w w'
set_option maxHeartbeats 2000000 in
theorem c6 (b cap : Nat) (kd pub sq now t nn kk : Int) (fv : Value) (kp : Option Addr) (kl kc : Nat) (w : World) (hb : b < w.heap.size)
    (d0 : w.cell? ⟨b, 0, none⟩ = some (.int .i64 kd)) (d1 : w.cell? ⟨b, 1, none⟩ = some (.int .u32 pub)) (d2 : w.cell? ⟨b, 2, none⟩ = some (.int .u64 sq)) (d3 : w.cell? ⟨b, 3, none⟩ = some (.int .u64 now))
    (d4 : w.cell? ⟨b, 4, none⟩ = some (.int .u8 t)) (d5 : w.cell? ⟨b, 5, none⟩ = some fv) (d6 : w.cell? ⟨b, 6, none⟩ = some (.int .u8 nn)) (d7 : w.cell? ⟨b, 7, none⟩ = some (.int .u8 kk)) (d8 : w.cell? ⟨b, 8, none⟩ = some (.slice kp kl kc))
    (hr : Raws w fv) (hc : 1 ≤ cap) : Calls Tryz.prog 6 #[.slice (some ⟨b, 0, none⟩) 1 cap] w (CutOut b cap w) := by
  have hvs : ∃ p l c, fv = .slice p l c := by
    rcases hr with ⟨p, c, rfl⟩ | ⟨_, _, _, _, rfl, _⟩
    · exact ⟨_, _, _, rfl⟩
    · exact ⟨_, _, _, rfl⟩
  obtain ⟨p, l, c, rfl⟩ := hvs
  have HR := Lib.hid hr
  clear hr
  go_enter Tryz.func6, Tryz.ntmps6
  go_wp2
  refine wp_loop_rounds 2 ?_
  rw [rounds_succ]
  go_wp2_with (first
    | (go_at_call 11; go_loud (refine (c13any t (.slice p l c) _ (HR.out.mono ((Below.refl _ w).alloc (Nat.le_refl _) _))).mono ?_; rintro e w2 ⟨v2, n2, xs2, rfl, hn2, ho2, hv2, hB2⟩; have h8 : w2.cell? ⟨w.heap.size, 8, none⟩ = some (.slice kp kl kc) := (hB2.cell (p := ⟨w.heap.size, 8, none⟩) (by simp)).trans (by simp [go_sem]); have hs2 := hB2.size; have HB2 := Lib.hid ((((Below.refl _ w).alloc (Nat.le_refl _) _)).trans (hB2.mono (by simp))); simp at hs2))
    | (go_at_call 26; go_loud (refine (c14own t v2 n2 _ xs2 _ hn2 ho2 hv2).mono ?_; rintro e w3 ⟨bb, rfl, hB3⟩; have h8' : w3.cell? ⟨w.heap.size, 8, none⟩ = some (.slice kp kl kc) := (hB3.cell (p := ⟨w.heap.size, 8, none⟩) (by show w.heap.size < _; omega)).trans h8; have HB3 := Lib.hid (HB2.out.trans (hB3.mono (by omega))); clear hB3; cases bb))
    | fail)
  · go_ret
    exact ⟨.inr rfl, HB3.out⟩
  · rw [rounds_succ]
    go_wp2
    go_ret
    exact ⟨.inl rfl, HB3.out⟩
  · go_ret
    exact ⟨.inr rfl, HB3.out⟩
theorem k13 (w : World) : Calls Tryz.prog 13 #[.pointer none] w (Gives (.int .i64 1) w) := by
  go_enter Tryz.func13, Tryz.ntmps13
  go_wp2
  go_ret
  exact ⟨rfl, Below.refl _ _⟩
theorem k16 (w : World) : Calls Tryz.prog 16 #[.pointer none] w (Gives (.int .u64 0) w) := by
  go_enter Tryz.func16, Tryz.ntmps16
  go_wp2
  go_ret
  exact ⟨rfl, Below.refl _ _⟩
theorem k17 (w : World) : Calls Tryz.prog 17 #[.pointer none] w (Gives (.int .u64 0) w) := by
  go_enter Tryz.func17, Tryz.ntmps17
  go_wp2
  go_ret
  exact ⟨rfl, Below.refl _ _⟩
theorem k18 (w : World) : Calls Tryz.prog 18 #[.pointer none] w (Gives (.int .u64 0) w) := by
  go_enter Tryz.func18, Tryz.ntmps18
  go_wp2
  go_ret
  exact ⟨rfl, Below.refl _ _⟩
theorem k19 (w : World) : Calls Tryz.prog 19 #[.pointer none] w (Gives (.slice none 0 0) w) := by
  go_enter Tryz.func19, Tryz.ntmps19
  go_wp2
  go_ret
  exact ⟨rfl, Below.refl _ _⟩
abbrev opv (kd pub sq now t nn kk : Int) (fv kv : Value) : Value := .agg #[.int .i64 kd, .int .u32 pub, .int .u64 sq, .int .u64 now, .int .u8 t, fv, .int .u8 nn, .int .u8 kk, kv]
theorem own_slice {w : World} {base e size n : Nat} {v : Value} {xs : List Value} (ho : w.ownsRow base e size v n xs) : ∃ p l c, v = .slice p l c := by
  rcases ho.2 with ⟨h, _⟩ | ⟨g, c, _, h, _⟩
  · exact ⟨_, _, _, h⟩
  · exact ⟨_, _, _, h⟩
def BoxAt (b : Nat) (pub sq now t : Int) (fv : Value) (W : World) : Prop :=
  W.cell? ⟨b, 1, none⟩ = some (.int .u32 pub) ∧ W.cell? ⟨b, 2, none⟩ = some (.int .u64 sq) ∧ W.cell? ⟨b, 3, none⟩ = some (.int .u64 now) ∧ W.cell? ⟨b, 4, none⟩ = some (.int .u8 t) ∧ W.cell? ⟨b, 5, none⟩ = some fv
theorem BoxAt.below {b : Nat} {pub sq now t : Int} {fv : Value} {W W' : World} (h : BoxAt b pub sq now t fv W) (hb : b < W.heap.size) (hB : Below W.heap.size W W') : BoxAt b pub sq now t fv W' := by
  obtain ⟨h1, h2, h3, h4, h5⟩ := h
  have hc := fun o => hB.cell (p := ⟨b, o, none⟩) hb
  exact ⟨(hc 1).trans h1, (hc 2).trans h2, (hc 3).trans h3, (hc 4).trans h4, (hc 5).trans h5⟩
set_option maxHeartbeats 4000000 in
theorem c3 (kd pub sq now t nn kk : Int) (fv : Value) (kp : Option Addr) (kl kc : Nat) (w : World) (hr : Raws w fv) (hfix : ∀ w', Below w.heap.size w w' → Calls Tryz.prog 7 #[] w' fun e w2 => e = .returned (.bool true) ∧ Below w'.heap.size w' w2) :
    Calls Tryz.prog 3 #[opv kd pub sq now t nn kk fv (.slice kp kl kc)] w fun e w' => e = .returned (.bool true) ∧ Below w.heap.size w w' := by
  have hvs : ∃ p l c, fv = .slice p l c := by
    rcases hr with ⟨p, c, rfl⟩ | ⟨_, _, _, _, rfl, _⟩
    · exact ⟨_, _, _, rfl⟩
    · exact ⟨_, _, _, rfl⟩
  obtain ⟨p, l, c, rfl⟩ := hvs
  have HR := Lib.hid hr
  have HF := Lib.hid hfix
  clear hr hfix
  go_enter Tryz.func3, Tryz.ntmps3
  go_wp2_with (first
    | (go_at_call 6; refine (c6 (w.heap.size + 1) 1 kd pub sq now t nn kk (.slice p l c) kp kl kc _ (by simp) (by simp [go_sem]) (by simp [go_sem]) (by simp [go_sem]) (by simp [go_sem]) (by simp [go_sem]) (by simp [go_sem]) (by simp [go_sem]) (by simp [go_sem]) (by simp [go_sem]) (HR.out.mono (((Below.refl _ w).alloc (Nat.le_refl _) _).alloc (by simp) _)) (by omega)).mono ?_; rintro e w2 ⟨hcut, hB2⟩; have hX2 : BoxAt w.heap.size pub sq now t (.slice p l c) w2 := (BoxAt.below ⟨by simp [go_sem], by simp [go_sem], by simp [go_sem], by simp [go_sem], by simp [go_sem]⟩ (by simp; omega) hB2); have hs2 := hB2.size; simp at hs2; have HB2 := Lib.hid ((((Below.refl _ w).alloc (Nat.le_refl _) _).alloc (by simp) _).trans (hB2.mono (by simp; omega))); clear hB2; have HX2 := Lib.hid hX2; obtain ⟨g1, g2, g3, g4, g5⟩ := hX2; rcases hcut with rfl | rfl)
    | (go_at_call 7; refine (HF.out _ HB2.out).mono ?_; rintro e w9 ⟨rfl, hB9⟩)
    | (go_at_call 8; refine (k8 pub sq _).mono ?_; rintro e w3 ⟨rfl, hB3⟩; have hX3 := HX2.out.below (by omega) hB3; have hs3 := hB3.size; have HB3 := Lib.hid (HB2.out.trans (hB3.mono (by omega))); clear hB3; have HX3 := Lib.hid hX3; clear g1 g2 g3 g4 g5; obtain ⟨g1, g2, g3, g4, g5⟩ := hX3)
    | (go_at_call 9; refine (k9 now _).mono ?_; rintro e w4 ⟨rfl, hB4⟩; have hX4 := HX3.out.below (by omega) hB4; have hs4 := hB4.size; have HB4 := Lib.hid (HB3.out.trans (hB4.mono (by omega))); clear hB4; have HX4 := Lib.hid hX4; clear g1 g2 g3 g4 g5; obtain ⟨g1, g2, g3, g4, g5⟩ := hX4)
    | fail)
  · go_region_held3 (fun w' => w'.cell? ⟨w.heap.size, 1, none⟩ = some (.int .u32 pub) ∧ w'.cell? ⟨w.heap.size, 2, none⟩ = some (.int .u64 sq) ∧ w'.cell? ⟨w.heap.size, 3, none⟩ = some (.int .u64 now) ∧ w'.cell? ⟨w.heap.size, 4, none⟩ = some (.int .u8 t) ∧ w'.cell? ⟨w.heap.size, 5, none⟩ = some (.slice p l c))
      (go_keep)
      (first
        | (go_at_call 11; refine (c13any t (.slice p l c) _ (HR.out.mono HB4.out.drew)).mono ?_; rintro e w5 ⟨v5, n5, xs5, rfl, hn5, ho5, hv5, hB5⟩; obtain ⟨p5, l5, c5, rfl⟩ := own_slice ho5; have hX5 := (HX4.out.below (by omega) ((Below.refl _ w4).drew)).below (by simp; omega) hB5; have hs5 := hB5.size; simp at hs5; have HB5 := Lib.hid (HB4.out.drew.trans (hB5.mono (by simp; omega))); clear ho5 hB5 hv5; have HX5 := Lib.hid hX5; clear g1 g2 g3 g4 g5; obtain ⟨g1, g2, g3, g4, g5⟩ := hX5)
        | (go_at_call 10; refine (k10 pub sq now t p5 l5 c5 _).mono ?_; rintro e w6 ⟨rfl, hB6⟩; have hX6 := HX5.out.below (by omega) hB6; have hs6 := hB6.size; have HB6 := Lib.hid (HB5.out.trans (hB6.mono (by omega))); clear hB6; have HX6 := Lib.hid hX6; clear g1 g2 g3 g4 g5; obtain ⟨g1, g2, g3, g4, g5⟩ := hX6))
    go_wp2_with (first
      | (go_at_call 12; refine (k12 sq _).mono ?_; rintro e w7 ⟨rfl, hB7⟩; have hX7 := HX6.out.below (by omega) hB7; have hs7 := hB7.size; have HB7 := Lib.hid (HB6.out.trans (hB7.mono (by omega))); clear hB7; have HX7 := Lib.hid hX7; clear g1 g2 g3 g4 g5; obtain ⟨g1, g2, g3, g4, g5⟩ := hX7)
      | (go_at_call 7; refine (HF.out _ (HB7.out.alloc (by omega) _)).mono ?_; rintro e w8 ⟨rfl, hB8⟩; have hX8 := (HX7.out.below (by omega) ((Below.refl _ w7).alloc (Nat.le_refl _) _)).below (by simp; omega) hB8; have hs8 := hB8.size; simp at hs8; have HB8 := Lib.hid ((HB7.out.alloc (by omega) _).trans (hB8.mono (by simp; omega))); clear hB8; have HX8 := Lib.hid hX8; clear g1 g2 g3 g4 g5; obtain ⟨g1, g2, g3, g4, g5⟩ := hX8)
      | (go_at_call 13; refine (k13 _).mono ?_; rintro e w9 ⟨rfl, hB9⟩; have hX9 := HX8.out.below (by omega) hB9; have hs9 := hB9.size; have HB9 := Lib.hid (HB8.out.trans (hB9.mono (by omega))); clear hB9; have HX9 := Lib.hid hX9; clear g1 g2 g3 g4 g5; obtain ⟨g1, g2, g3, g4, g5⟩ := hX9)
      | (go_at_call 14; refine (k14 sq _).mono ?_; rintro e w10 ⟨rfl, hB10⟩; have hX10 := HX9.out.below (by omega) hB10; have hs10 := hB10.size; have HB10 := Lib.hid (HB9.out.trans (hB10.mono (by omega))); clear hB10; have HX10 := Lib.hid hX10; clear g1 g2 g3 g4 g5; obtain ⟨g1, g2, g3, g4, g5⟩ := hX10)
      | (go_at_call 15; refine (k15 pub _).mono ?_; rintro e w11 ⟨rfl, hB11⟩; have hX11 := HX10.out.below (by omega) hB11; have hs11 := hB11.size; have HB11 := Lib.hid (HB10.out.trans (hB11.mono (by omega))); clear hB11; have HX11 := Lib.hid hX11; clear g1 g2 g3 g4 g5; obtain ⟨g1, g2, g3, g4, g5⟩ := hX11)
      | (go_at_call 16; refine (k16 _).mono ?_; rintro e w12 ⟨rfl, hB12⟩; have hX12 := HX11.out.below (by omega) hB12; have hs12 := hB12.size; have HB12 := Lib.hid (HB11.out.trans (hB12.mono (by omega))); clear hB12; have HX12 := Lib.hid hX12; clear g1 g2 g3 g4 g5; obtain ⟨g1, g2, g3, g4, g5⟩ := hX12)
      | (go_at_call 17; refine (k17 _).mono ?_; rintro e w13 ⟨rfl, hB13⟩; have hX13 := HX12.out.below (by omega) hB13; have hs13 := hB13.size; have HB13 := Lib.hid (HB12.out.trans (hB13.mono (by omega))); clear hB13; have HX13 := Lib.hid hX13; clear g1 g2 g3 g4 g5; obtain ⟨g1, g2, g3, g4, g5⟩ := hX13)
      | (go_at_call 18; refine (k18 _).mono ?_; rintro e w14 ⟨rfl, hB14⟩; have hX14 := HX13.out.below (by omega) hB14; have hs14 := hB14.size; have HB14 := Lib.hid (HB13.out.trans (hB14.mono (by omega))); clear hB14; have HX14 := Lib.hid hX14; clear g1 g2 g3 g4 g5; obtain ⟨g1, g2, g3, g4, g5⟩ := hX14)
      | (go_at_call 19; refine (k19 _).mono ?_; rintro e w15 ⟨rfl, hB15⟩; have hX15 := HX14.out.below (by omega) hB15; have hs15 := hB15.size; have HB15 := Lib.hid (HB14.out.trans (hB15.mono (by omega))); clear hB15; have HX15 := Lib.hid hX15; clear g1 g2 g3 g4 g5; obtain ⟨g1, g2, g3, g4, g5⟩ := hX15)
      | fail)
    go_ret
    exact ⟨rfl, HB15.out⟩
  · go_ret
    exact ⟨rfl, HB2.out.trans (hB9.mono (by omega))⟩
end Go.Proofs.EV
