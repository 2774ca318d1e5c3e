/- Proved: what 'Remove' of a heap comes to. Each theorem says its own conditions. -/
import Derived.Test.YtccmlmepcgcojaaDi
set_option linter.unusedVariables false
set_option linter.unusedSimpArgs false
namespace Go.Proofs.DU
open Go.RowKit
theorem Heap.dropLast {R : List En} {n : Nat} (h : Heap R n) (hn : R.length = n + 1) : Heap R.dropLast R.dropLast.length := by
  have hl : R.dropLast.length = n := by rw [List.length_dropLast]; omega
  rw [hl]
  intro m h1 h2 x y hx hy
  have e : ∀ k, k < n → R.dropLast[k]? = R[k]? := fun k hk => by rw [List.getElem?_dropLast, if_pos (by omega)]
  rw [e m h2] at hx
  rw [e _ (by omega)] at hy
  exact h m h1 h2 x y hx hy
theorem dropLast_put {R : List En} {n : Nat} {x : En} (hn : R.length = n + 1) (hx : R[n]? = some x) : R.dropLast ++ [x] = R := by
  have hne : R ≠ [] := fun e => by rw [e] at hn; simp at hn
  have hl : R.getLast hne = x := by
    have h1 : R[R.length - 1]? = some (R.getLast hne) := by rw [List.getLast_eq_getElem]; exact List.getElem?_eq_getElem _
    rw [hn] at h1
    rw [Nat.add_sub_cancel, hx] at h1
    exact (Option.some.inj h1).symm
  rw [← hl]
  exact List.dropLast_concat_getLast hne
def RemOut (F : Nat → Prop) (bd bm : Nat) (R : List En) (x : En) (w : World) (e : Ending) (w' : World) : Prop := (∃ v, e = .returned v) ∧ ∃ rv R', St F bd bm rv R' w' ∧ (R' ++ [x]).Perm R ∧ Heap R' R'.length ∧ Turn F w w'
set_option maxRecDepth 100000 in
set_option maxHeartbeats 1000000 in
theorem c24s {F : Nat → Prop} {bd bm g n cap : Nat} {R : List En} {x : En} {w : World} (i : Nat) (h : St F bd bm (.slice (some ⟨g, 0, none⟩) (n + 1) cap) R w) (hH : Heap R (n + 1)) (hx : R[i]? = some x) (hn : n < 3000) :
    Calls Try.prog 24 #[ifc bd, .int .i64 i] w (RemOut F bd bm R x w) := by
  have hLn := fun w rv => m_len bd rv w
  have hS := fun w rv => m_swap bd rv w
  have hPp := fun w => m_pop bd w
  have y0 := h.head.1
  have hR := h.at.1
  have hi := (List.getElem?_eq_some_iff.1 hx).1
  have H := Lib.hid h; have HH := Lib.hid hH
  clear h hH
  unfold ifc
  rcases Nat.lt_or_ge i n with hin | hin
  · obtain ⟨y, hy⟩ : ∃ y, R[n]? = some y := ⟨_, List.getElem?_eq_getElem (by omega)⟩
    have hne : i ≠ n := by omega
    have hne' : ¬ (n = i) := by omega
    have hne2 : ¬ ((n : Int) = (i : Int)) := by omega
    go_enter Try.func24, Try.ntmps24
    go_wp2_with (first
      | (go_at_call 43; (with_reducible refine (c43 _ _ _ _).mono ?_); rintro e w3 ⟨rfl, rfl⟩)
      | (go_at_call 45; (with_reducible refine (swap_st (Kept.refl (n := n + 1) H.out) hx hy hne (by omega) (by omega) rfl rfl).mono ?_); rintro e w2 ⟨rfl, hk2⟩; have HK := Lib.hid hk2; have z0 := HK.out.st.head.1; clear hk2))
    go_at_call 25
    refine (c25 i _ HK.out.st (Hole.swap_last HH.out hin hx hy) hin (by rw [HK.out.len]; omega) (by rw [HK.out.len]; omega)).mono ?_
    rintro e w3 ⟨k, R2, rfl, hk2, hs2, hl2⟩
    have HK2 := Lib.hid hk2; have HS := Lib.hid hs2; have HL := Lib.hid hl2
    have hle := hs2.le
    have l1 := HK.out.len
    have l2 := HK2.out.len
    have at2 : R2[n]? = some x := by
      rw [HK2.out.rest n (Nat.le_refl _), swp_at hx hy, if_pos rfl]
    have pm2 : R2.Perm R := HK2.out.perm.trans HK.out.perm
    have lR2 : R2.length = n + 1 := by omega
    clear hk2 hs2 hl2
    rcases Nat.lt_or_ge i k with hik | hik
    · have hd : decide (i < k) = true := by simp [hik]
      rw [hd]
      go_wp2_with (first
        | (go_at_call 49; (with_reducible refine (c49 HK2.out.st at2 (by omega)).mono ?_); rintro e w4 ⟨⟨v, rfl⟩, hst4, ht4⟩; have HS4 := Lib.hid hst4; have HT4 := Lib.hid ht4; clear hst4 ht4))
      go_ret
      exact ⟨⟨_, rfl⟩, _, _, HS4.out, by rw [dropLast_put lR2 at2]; exact pm2, (HS.out.done HL.out hik).dropLast lR2, (HK.out.turn.trans HK2.out.turn fun _ _ h => h).trans HT4.out fun _ _ h => h⟩
    · have hd : decide (i < k) = false := by simp; omega
      have hki : k = i := by omega
      subst hki
      rw [hd]
      go_wp2_with (fail)
      go_at_call 26
      refine (c26 k _ HK2.out.st (HS.out.rise HL.out) hin (by omega) (by omega)).mono ?_
      rintro e w4 ⟨rfl, R3, hk3, hh3⟩
      have HK3 := Lib.hid hk3; have HH3 := Lib.hid hh3
      have l3 := HK3.out.len
      have at3 : R3[n]? = some x := by rw [HK3.out.rest n (Nat.le_refl _)]; exact at2
      have lR3 : R3.length = n + 1 := by omega
      have pm3 : R3.Perm R := HK3.out.perm.trans pm2
      clear hk3 hh3
      go_wp2_with (first
        | (go_at_call 49; (with_reducible refine (c49 HK3.out.st at3 (by omega)).mono ?_); rintro e w5 ⟨⟨v, rfl⟩, hst4, ht4⟩; have HS4 := Lib.hid hst4; have HT4 := Lib.hid ht4; clear hst4 ht4))
      go_ret
      exact ⟨⟨_, rfl⟩, _, _, HS4.out, by rw [dropLast_put lR3 at3]; exact pm3, HH3.out.dropLast lR3, ((HK.out.turn.trans HK2.out.turn fun _ _ h => h).trans HK3.out.turn fun _ _ h => h).trans HT4.out fun _ _ h => h⟩
  · have hin' : i = n := by omega
    subst hin'
    go_enter Try.func24, Try.ntmps24
    go_wp2_with (first
      | (go_at_call 43; (with_reducible refine (c43 _ _ _ _).mono ?_); rintro e w3 ⟨rfl, rfl⟩)
      | (go_at_call 49; (with_reducible refine (c49 H.out hx (by omega)).mono ?_); rintro e w2 ⟨⟨v, rfl⟩, hst2, ht2⟩; have HS2 := Lib.hid hst2; have HT2 := Lib.hid ht2; clear hst2 ht2))
    go_ret
    exact ⟨⟨_, rfl⟩, _, _, HS2.out, by rw [dropLast_put hR hx], (HH.out.less (Nat.le_succ _)).dropLast hR, HT2.out⟩
/-- An entry is taken away. -/
theorem c24 {F : Nat → Prop} {bd bm : Nat} {rv : Value} {R : List En} {x : En} {w : World} (i : Nat) (h : St F bd bm rv R w) (hH : Heap R R.length) (hx : R[i]? = some x) (hn : R.length < 3000) :
    Calls Try.prog 24 #[ifc bd, .int .i64 i] w (RemOut F bd bm R x w) := by
  obtain ⟨g, cap, cur, hv, _⟩ := h.rows hx
  have hi := (List.getElem?_eq_some_iff.1 hx).1
  obtain ⟨n, hl⟩ : ∃ n, R.length = n + 1 := ⟨R.length - 1, by omega⟩
  rw [hl] at hv hH
  subst hv
  exact c24s i h hH hx (by omega)
end Go.Proofs.DU
