/- Proved: what 'Push', 'Fix' and 'Remove' of a heap come to. Each theorem says its own conditions. -/
import Derived.Test.YtccmlmepcgcojaaDh
set_option linter.unusedVariables false
set_option linter.unusedSimpArgs false
namespace Go.Proofs.DU
open Go.RowKit
set_option maxRecDepth 100000 in
set_option maxHeartbeats 1000000 in
/-- One more entry. -/
theorem c20 {F : Nat → Prop} {bd bm q : Nat} {rv : Value} {R : List En} {x : En} {w : World} (h : St F bd bm rv R w) (hH : Heap R R.length) (hx : w.heap[x.b]? = some (entC x q)) (hFx : F x.b) (hnx : ∀ e ∈ R, e.b ≠ x.b) (hn : R.length < 3000) :
    Calls Try.prog 20 #[ifc bd, .iface 54 (.pointer (some ⟨x.b, 0, none⟩))] w fun e w' => e = .returned (.tuple #[]) ∧ ∃ rv' R', St (fun b => F b ∨ w.heap.size ≤ b) bd bm rv' R' w' ∧ R'.Perm (R ++ [x]) ∧ Heap R' R'.length ∧ Turn F w w' := by
  unfold ifc
  have hP := fun w => m_push bd w
  have hLn := fun w rv => m_len bd rv w
  have H := Lib.hid h; have HX := Lib.hid hx; have HNX := Lib.hid hnx; have HH := Lib.hid hH
  clear h hx hnx hH
  have hl1 : (R ++ [x]).length = R.length + 1 := by simp
  go_enter Try.func20, Try.ntmps20
  go_wp2_with (first
    | (go_at_call 50; (with_reducible refine (c50 H.out HX.out hFx HNX.out (by omega)).mono ?_); rintro e w2 ⟨rfl, rv2, hst2, ht2⟩; have hs2 := hst2.slice; rw [hl1] at hs2; have hd2 := hst2.head.1; have HS2 := Lib.hid hst2; have HT2 := Lib.hid ht2; clear hst2 ht2; obtain ⟨p2, c2, hv2⟩ := hs2; rw [hv2] at hd2)
    | (go_at_call 43; (with_reducible refine (c43 _ _ _ _).mono ?_); rintro e w3 ⟨rfl, rfl⟩))
  go_at_call 26
  refine (c26 (n := R.length + 1) R.length _ HS2.out (HH.out.rise x) (by omega) (by rw [hl1]; exact Nat.le_refl _) (by rw [hl1]; omega)).mono ?_
  rintro e w3 ⟨rfl, R3, hk3, hh3⟩
  have HK := Lib.hid hk3; have HH3 := Lib.hid hh3
  clear hk3 hh3
  go_wp2
  go_end0
  exact ⟨rfl, rv2, R3, HK.out.st, HK.out.perm, by rw [HK.out.len, hl1]; exact HH3.out, HT2.out.trans HK.out.turn fun b hb h => h.resolve_right (by omega)⟩
set_option maxRecDepth 100000 in
set_option maxHeartbeats 1000000 in
/-- An entry whose time was turned. -/
theorem c19 {F : Nat → Prop} {bd bm : Nat} {rv : Value} {R : List En} {w : World} (i : Nat) (h : St F bd bm rv R w) (hH : Hole R R.length i) (hi : i < R.length) (hn : R.length < 4000) :
    Calls Try.prog 19 #[ifc bd, .int .i64 i] w fun e w' => e = .returned (.tuple #[]) ∧ ∃ R', St F bd bm rv R' w' ∧ R'.Perm R ∧ Heap R' R'.length ∧ Turn F w w' := by
  have hLn := fun w rv => m_len bd rv w
  obtain ⟨p, c, rfl⟩ := h.slice
  have y0 := h.head.1
  have H := Lib.hid h; have HH := Lib.hid hH
  clear h hH
  unfold ifc
  go_enter Try.func19, Try.ntmps19
  go_wp2_with (first
    | (go_at_call 43; (with_reducible refine (c43 _ _ _ _).mono ?_); rintro e w3 ⟨rfl, rfl⟩))
  go_at_call 25
  refine (c25 i _ H.out HH.out hi (Nat.le_refl _) hn).mono ?_
  rintro e w2 ⟨k, R2, rfl, hk2, hs2, hl2⟩
  have HK := Lib.hid hk2; have HS := Lib.hid hs2; have HL := Lib.hid hl2
  have hle := hs2.le
  clear hk2 hs2 hl2
  rcases Nat.lt_or_ge i k with hik | hik
  · have hd : decide (i < k) = true := by simp [hik]
    rw [hd]
    go_wp2
    go_end0
    exact ⟨rfl, R2, HK.out.st, HK.out.perm, by rw [HK.out.len]; exact HS.out.done HL.out hik, HK.out.turn⟩
  · have hd : decide (i < k) = false := by simp; omega
    have hki : k = i := by omega
    subst hki
    rw [hd]
    go_wp2_with (fail)
    go_at_call 26
    refine (c26 k _ HK.out.st (HS.out.rise HL.out) hi (by rw [HK.out.len]; exact Nat.le_refl _) (by rw [HK.out.len]; exact hn)).mono ?_
    rintro e w3 ⟨rfl, R3, hk3, hh3⟩
    have HK3 := Lib.hid hk3; have HH3 := Lib.hid hh3
    clear hk3 hh3
    go_wp2
    go_end0
    exact ⟨rfl, R3, HK3.out.st, HK3.out.perm.trans HK.out.perm, by rw [HK3.out.len, HK.out.len]; exact HH3.out, HK.out.turn.trans HK3.out.turn fun _ _ h => h⟩
end Go.Proofs.DU
