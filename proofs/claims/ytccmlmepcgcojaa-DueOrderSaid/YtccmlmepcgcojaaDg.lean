/- Proved: what 'down' of a heap comes to. Each theorem says its own conditions. -/
import Derived.Test.YtccmlmepcgcojaaDf
set_option linter.unusedVariables false
set_option linter.unusedSimpArgs false
namespace Go.Proofs.DU
open Go.RowKit
theorem Kept.below {F : Nat → Prop} {bd bm n : Nat} {rv : Value} {R R1 : List En} {w w1 w2 : World} (h : Kept F bd bm rv n R R1 w w1) (hB : Below w1.heap.size w1 w2) : Kept F bd bm rv n R R1 w w2 :=
  ⟨h.st.below hB, h.perm, h.rest, h.turn.trans (Turn.of hB) fun _ _ h => h⟩
theorem less_st {F : Nat → Prop} {bd bm g n c i j : Nat} {R : List En} {a b : En} {x y : Int} {w : World} (h : St F bd bm (.slice (some ⟨g, 0, none⟩) n c) R w) (ha : R[i]? = some a) (hb : R[j]? = some b) (hx : x = i) (hy : y = j) :
    Calls Try.prog 44 #[.slice (some ⟨g, 0, none⟩) n c, .int .i64 x, .int .i64 y] w fun e w' => e = .returned (.bool (lt a b)) ∧ Below w.heap.size w w' := by
  subst hx hy
  obtain ⟨hR, _, cur, hh, _, _, _, hct, _, _⟩ := h.at
  obtain ⟨a0, a1, _, _⟩ := h.cells ha
  obtain ⟨b0, b1, _, _⟩ := h.cells hb
  have h1 := (List.getElem?_eq_some_iff.1 ha).1
  have h2 := (List.getElem?_eq_some_iff.1 hb).1
  exact c44 g n c i j a b w (by omega) (by omega) (St.cellR hh hct ha) (St.cellR hh hct hb) a0 a1 b0 b1
theorem swap_st {F : Nat → Prop} {bd bm g m c i j n : Nat} {R R1 : List En} {a b : En} {x y : Int} {w w1 : World} (h : Kept F bd bm (.slice (some ⟨g, 0, none⟩) m c) n R R1 w w1) (ha : R1[i]? = some a) (hb : R1[j]? = some b) (hij : i ≠ j) (hi : i < n) (hj : j < n) (hx : x = i) (hy : y = j) :
    Calls Try.prog 45 #[.slice (some ⟨g, 0, none⟩) m c, .int .i64 x, .int .i64 y] w1 fun e w' => e = .returned (.tuple #[]) ∧ Kept F bd bm (.slice (some ⟨g, 0, none⟩) m c) n R (swp R1 i j) w w' := by
  subst hx hy
  obtain ⟨hR, _, cur, hh, _, _, _, hct, hgd, hge⟩ := h.st.at
  obtain ⟨a0, a1, a2, af⟩ := h.st.cells ha
  obtain ⟨b0, b1, b2, bf⟩ := h.st.cells hb
  have h1 := (List.getElem?_eq_some_iff.1 ha).1
  have h2 := (List.getElem?_eq_some_iff.1 hb).1
  refine (c45 g m c i j a.b b.b w1 (by omega) (by omega) hij (St.cellR hh hct ha) (St.cellR hh hct hb) (fun o => frozen_of_heap hh o) a2 b2 (af 2) (bf 2) (h.st.apart ha hb hij) (hge a (List.mem_of_getElem? ha)) (hge b (List.mem_of_getElem? hb)) _ rfl).mono ?_
  rintro e w3 ⟨rfl, hw⟩
  exact ⟨rfl, h.swap (Below.refl _ _) ha hb hij hi hj (by rw [hR]) hh hgd hge hw.symm⟩
def DnR (F : Nat → Prop) (bd bm : Nat) (rv : Value) (n i0 : Nat) (R : List En) (w : World) (i : Value) (wr : World) : Prop := ∃ k R', i = .int .i64 (k : Nat) ∧ k < n ∧ Kept F bd bm rv n R R' w wr ∧ Sink R' n i0 k
def DnOut (F : Nat → Prop) (bd bm : Nat) (rv : Value) (n i0 : Nat) (R : List En) (w : World) (e : Ending) (w' : World) : Prop := ∃ k R', e = .returned (.bool (decide (i0 < k))) ∧ Kept F bd bm rv n R R' w w' ∧ Sink R' n i0 k ∧ Low R' n k
set_option maxRecDepth 100000 in
set_option maxHeartbeats 4000000 in
theorem c25s {F : Nat → Prop} {bd bm g m cap : Nat} {R : List En} {n : Nat} (i0 : Nat) (w : World) (h : St F bd bm (.slice (some ⟨g, 0, none⟩) m cap) R w) (hr : Hole R n i0) (hjn : i0 < n) (hn : n ≤ R.length) (hbig : R.length < 4000) :
    Calls Try.prog 25 #[ifc bd, .int .i64 i0, .int .i64 n] w (DnOut F bd bm (.slice (some ⟨g, 0, none⟩) m cap) n i0 R w) := by
  unfold ifc
  have hL := fun w => m_less bd (.slice (some ⟨g, 0, none⟩) m cap) w
  have hS := fun w => m_swap bd (.slice (some ⟨g, 0, none⟩) m cap) w
  have H := Lib.hid h
  have HR := Lib.hid hr
  clear h hr
  go_enter Try.func25, Try.ntmps25
  go_wp2
  go_loopw [7] (fun i wr => DnR F bd bm (.slice (some ⟨g, 0, none⟩) m cap) n i0 R w i wr) (fun i _ => n - (intOf i).toNat)
  case atStart => exact ⟨i0, R, rfl, hjn, Kept.refl H.out, HR.out.sink⟩
  case round =>
    obtain ⟨k, R', rfl, hk, hkept, hsink⟩ := hrel
    have hlen := hkept.len
    obtain ⟨a, ha⟩ : ∃ a, R'[k]? = some a := ⟨_, List.getElem?_eq_getElem (by omega)⟩
    have y0 := hkept.st.head.1
    have k0 : (0 : Int) ≤ (k : Int) := by omega
    have k1 : (k : Int) ≤ 4000 := by omega
    have HK := Lib.hid hkept; have HS := Lib.hid hsink
    clear hkept hsink
    rcases Nat.lt_or_ge (2 * k + 1) n with hc | hc
    · have d1 : (2 * (k : Int) + 1) < (n : Int) := by omega
      obtain ⟨b, hb⟩ : ∃ b, R'[2 * k + 1]? = some b := ⟨_, List.getElem?_eq_getElem (by omega)⟩
      have hx1 : (2 * (k : Int) + 1) = ((2 * k + 1 : Nat) : Int) := by omega
      have hkj1 : k ≠ 2 * k + 1 := by omega
      have HX1 := Lib.hid hx1
      clear hx1
      rcases Nat.lt_or_ge (2 * k + 2) n with hc2 | hc2
      · have d2 : (2 * (k : Int) + 1 + 1) < (n : Int) := by omega
        obtain ⟨b2, hb2⟩ : ∃ b, R'[2 * k + 2]? = some b := ⟨_, List.getElem?_eq_getElem (by omega)⟩
        have hx2 : (2 * (k : Int) + 1 + 1) = ((2 * k + 2 : Nat) : Int) := by omega
        have hkj2 : k ≠ 2 * k + 2 := by omega
        have HX2 := Lib.hid hx2
        clear hx2
        cases hl2 : lt b2 b with
        | true =>
          cases hlt : lt b2 a with
          | false =>
            go_wp2_with (first
              | (go_at_call 44; (with_reducible refine (less_st HK.out.st hb2 hb HX2.out HX1.out).mono ?_); rintro e w2 ⟨rfl, hB2⟩; have HK2 := Lib.hid (HK.out.below hB2); have z2 := HK2.out.st.head.1; clear hB2)
              | (go_at_call 44; (with_reducible refine (less_st HK2.out.st hb2 ha HX2.out rfl).mono ?_); rintro e w3 ⟨rfl, hB3⟩; have HK3 := Lib.hid (HK2.out.below hB3); have z3 := HK3.out.st.head.1; clear hB3))
            go_ret
            exact ⟨k, R', rfl, HK3.out, HS.out, Least.low (least_right hc2 hb2 hb hl2) hb2 ha hlt⟩
          | true =>
            go_wp2_with (first
              | (go_at_call 44; (with_reducible refine (less_st HK.out.st hb2 hb HX2.out HX1.out).mono ?_); rintro e w2 ⟨rfl, hB2⟩; have HK2 := Lib.hid (HK.out.below hB2); have z2 := HK2.out.st.head.1; clear hB2)
              | (go_at_call 44; (with_reducible refine (less_st HK2.out.st hb2 ha HX2.out rfl).mono ?_); rintro e w3 ⟨rfl, hB3⟩; have HK3 := Lib.hid (HK2.out.below hB3); have z3 := HK3.out.st.head.1; clear hB3)
              | (go_at_call 45; (with_reducible refine (swap_st HK3.out ha hb2 hkj2 hk hc2 rfl HX2.out).mono ?_); rintro e w4 ⟨rfl, hk4⟩; have HK4 := Lib.hid hk4; clear hk4))
            go_roundw
            case rel => exact ⟨2 * k + 2, _, by go_num, hc2, HK4.out, HS.out.step (least_right hc2 hb2 hb hl2) hb2 ha hlt⟩
            case measure => simp [intOf]; omega
        | false =>
          have hle : ∀ x y, R'[2 * k + 2]? = some x → R'[2 * k + 1]? = some y → lt x y = false := fun x y hx hy => by
            rw [hb2] at hx; rw [hb] at hy; cases hx; cases hy; exact hl2
          have HLE := Lib.hid hle
          clear hle
          cases hlt : lt b a with
          | false =>
            go_wp2_with (first
              | (go_at_call 44; (with_reducible refine (less_st HK.out.st hb2 hb HX2.out HX1.out).mono ?_); rintro e w2 ⟨rfl, hB2⟩; have HK2 := Lib.hid (HK.out.below hB2); have z2 := HK2.out.st.head.1; clear hB2)
              | (go_at_call 44; (with_reducible refine (less_st HK2.out.st hb ha HX1.out rfl).mono ?_); rintro e w3 ⟨rfl, hB3⟩; have HK3 := Lib.hid (HK2.out.below hB3); have z3 := HK3.out.st.head.1; clear hB3))
            go_ret
            exact ⟨k, R', rfl, HK3.out, HS.out, Least.low (least_left hc (.inr HLE.out)) hb ha hlt⟩
          | true =>
            go_wp2_with (first
              | (go_at_call 44; (with_reducible refine (less_st HK.out.st hb2 hb HX2.out HX1.out).mono ?_); rintro e w2 ⟨rfl, hB2⟩; have HK2 := Lib.hid (HK.out.below hB2); have z2 := HK2.out.st.head.1; clear hB2)
              | (go_at_call 44; (with_reducible refine (less_st HK2.out.st hb ha HX1.out rfl).mono ?_); rintro e w3 ⟨rfl, hB3⟩; have HK3 := Lib.hid (HK2.out.below hB3); have z3 := HK3.out.st.head.1; clear hB3)
              | (go_at_call 45; (with_reducible refine (swap_st HK3.out ha hb hkj1 hk hc rfl HX1.out).mono ?_); rintro e w4 ⟨rfl, hk4⟩; have HK4 := Lib.hid hk4; clear hk4))
            go_roundw
            case rel => exact ⟨2 * k + 1, _, by go_num, hc, HK4.out, HS.out.step (least_left hc (.inr HLE.out)) hb ha hlt⟩
            case measure => simp [intOf]; omega
      · have d2 : ¬ (2 * (k : Int) + 1 + 1) < (n : Int) := by omega
        cases hlt : lt b a with
        | false =>
          go_wp2_with (first
            | (go_at_call 44; (with_reducible refine (less_st HK.out.st hb ha HX1.out rfl).mono ?_); rintro e w3 ⟨rfl, hB3⟩; have HK3 := Lib.hid (HK.out.below hB3); have z3 := HK3.out.st.head.1; clear hB3))
          go_ret
          exact ⟨k, R', rfl, HK3.out, HS.out, Least.low (least_left hc (.inl (by omega))) hb ha hlt⟩
        | true =>
          go_wp2_with (first
            | (go_at_call 44; (with_reducible refine (less_st HK.out.st hb ha HX1.out rfl).mono ?_); rintro e w3 ⟨rfl, hB3⟩; have HK3 := Lib.hid (HK.out.below hB3); have z3 := HK3.out.st.head.1; clear hB3)
            | (go_at_call 45; (with_reducible refine (swap_st HK3.out ha hb hkj1 hk hc rfl HX1.out).mono ?_); rintro e w4 ⟨rfl, hk4⟩; have HK4 := Lib.hid hk4; clear hk4))
          go_roundw
          case rel => exact ⟨2 * k + 1, _, by go_num, hc, HK4.out, HS.out.step (least_left hc (.inl (by omega))) hb ha hlt⟩
          case measure => simp [intOf]; omega
    · have d1 : ¬ (2 * (k : Int) + 1) < (n : Int) := by omega
      go_wp2
      go_ret
      exact ⟨k, R', rfl, HK.out, HS.out, low_none hc⟩
/-- One sinks. -/
theorem c25 {F : Nat → Prop} {bd bm : Nat} {rv : Value} {R : List En} {n : Nat} (j : Nat) (w : World) (h : St F bd bm rv R w) (hr : Hole R n j) (hjn : j < n) (hn : n ≤ R.length) (hbig : R.length < 4000) :
    Calls Try.prog 25 #[ifc bd, .int .i64 j, .int .i64 n] w (DnOut F bd bm rv n j R w) := by
  have he : R[j]? = some (R[j]'(by omega)) := List.getElem?_eq_getElem (by omega)
  obtain ⟨g, cap, cur, hv, _⟩ := h.rows he
  subst hv
  exact c25s j w h hr hjn hn hbig
end Go.Proofs.DU
