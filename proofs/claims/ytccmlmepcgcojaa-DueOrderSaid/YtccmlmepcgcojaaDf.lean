/- Proved: what 'up' of a heap comes to. Each theorem says its own conditions. -/
import Derived.Test.YtccmlmepcgcojaaDe
set_option linter.unusedVariables false
set_option linter.unusedSimpArgs false
namespace Go.Proofs.DU
open Go.RowKit
theorem St.at {F : Nat → Prop} {bd bm g n cap : Nat} {R : List En} {W : World} (h : St F bd bm (.slice (some ⟨g, 0, none⟩) n cap) R W) : R.length = n ∧ F g ∧ ∃ cur, W.heap[g]? = some (.cells cur 54 (0, 0)) ∧ n ≤ cap ∧ cap ≤ maxLen ∧ cur.size = cap ∧ cur.toList.take R.length = R.map (fun e => ptr e.b) ∧ g ≠ bd ∧ ∀ e ∈ R, g ≠ e.b := by
  rcases h.row.2 with ⟨h0, _⟩ | ⟨g', cap', cur, hv, _, hh, h1, h2, h3, h4⟩
  · cases h0
  · cases hv
    refine ⟨rfl, h.fr g rfl, cur, hh, h1, h2, by simpa using h3, by simpa using h4, fun e => ?_, fun x hx e => ?_⟩
    · subst e
      have := h.hd
      rw [hh] at this
      simp at this
    · obtain ⟨j, hj⟩ := List.getElem?_of_mem hx
      have := h.ent j x hj
      rw [← e, hh] at this
      simp [entC] at this
def ifc (bd : Nat) : Value := .iface 59 (.pointer (some ⟨bd, 0, none⟩))
def UpR (F : Nat → Prop) (bd bm : Nat) (rv : Value) (n : Nat) (R : List En) (w : World) (i : Value) (wr : World) : Prop := ∃ k R', i = .int .i64 (k : Nat) ∧ k < n ∧ Kept F bd bm rv n R R' w wr ∧ Rise R' n k
def UpOut (F : Nat → Prop) (bd bm : Nat) (rv : Value) (n : Nat) (R : List En) (w : World) (e : Ending) (w' : World) : Prop := e = .returned (.tuple #[]) ∧ ∃ R', Kept F bd bm rv n R R' w w' ∧ Heap R' n
theorem wrap_small (p : Nat) (h : p < 4611686018427387904) : wrap64 (p : Int) = p := by
  unfold wrap64
  have : (((p : Int) + 9223372036854775808) % 18446744073709551616) = (p : Int) + 9223372036854775808 := Int.emod_eq_of_lt (by omega) (by omega)
  omega
theorem up_facts {k p : Nat} (hpos : 0 < k) (hk : k < 4000) (hp : (k - 1) / 2 = p) : ((k : Int) - 1).tdiv 2 = (p : Int) ∧ ¬ ((p : Nat) : Int) = k ∧ wrap64 (p : Int) = p ∧ wrap64 ((k : Int) - 1) = (k : Int) - 1 ∧ p < k := by
  refine ⟨?_, by omega, wrap_small p (by omega), IntWalk.wrap64_in _ (by omega), by omega⟩
  rw [Int.tdiv_eq_ediv_of_nonneg (by omega)]
  omega
theorem lt_big {a b n : Nat} (h : a < n) (h2 : n ≤ b) (h3 : b < 4000) : a < 4000 := by omega
set_option maxRecDepth 100000 in
set_option maxHeartbeats 4000000 in
theorem c26s {F : Nat → Prop} {bd bm g m cap : Nat} {R : List En} {n : Nat} (j : Nat) (w : World) (h : St F bd bm (.slice (some ⟨g, 0, none⟩) m cap) R w) (hr : Rise R n j) (hjn : j < n) (hn : n ≤ R.length) (hbig : R.length < 4000) :
    Calls Try.prog 26 #[ifc bd, .int .i64 j] w (UpOut F bd bm (.slice (some ⟨g, 0, none⟩) m cap) n R w) := by
  unfold ifc
  have hL := fun w => m_less bd (.slice (some ⟨g, 0, none⟩) m cap) w
  have hS := fun w => m_swap bd (.slice (some ⟨g, 0, none⟩) m cap) w
  have hm := h.at.1
  have H := Lib.hid h
  have HR := Lib.hid hr
  clear h hr
  go_enter Try.func26, Try.ntmps26
  go_wp2
  go_loopw [1] (fun i wr => UpR F bd bm (.slice (some ⟨g, 0, none⟩) m cap) n R w i wr) (fun i _ => (intOf i).toNat)
  case atStart => exact ⟨j, R, rfl, hjn, Kept.refl H.out, HR.out⟩
  case round =>
    obtain ⟨k, R', rfl, hk, hkept, hrise⟩ := hrel
    have hlen := hkept.len
    obtain ⟨a, ha⟩ : ∃ a, R'[k]? = some a := ⟨_, List.getElem?_eq_getElem (by omega)⟩
    obtain ⟨hR, hFg, cur, hh, -, -, -, hct, hgd, hge⟩ := hkept.st.at
    obtain ⟨y0, y1, yf⟩ := hkept.st.head
    rcases Nat.eq_zero_or_pos k with rfl | hpos
    · have HK := Lib.hid hkept; have HRi := Lib.hid hrise
      clear hkept hrise hge hct hh
      go_wp2
      go_end0
      exact ⟨rfl, R', HK.out, HRi.out.done (.inl rfl)⟩
    · obtain ⟨p, hp⟩ : ∃ p, (k - 1) / 2 = p := ⟨_, rfl⟩
      have hpk : p < k := by omega
      have hkm : k < m := by omega
      have hpm : p < m := by omega
      have hkp : k ≠ p := by omega
      have hpk' : p ≠ k := by omega
      have hpn : p < n := by omega
      obtain ⟨b, hb⟩ : ∃ b, R'[p]? = some b := ⟨_, List.getElem?_eq_getElem (by omega)⟩
      have ca := St.cellR hh hct ha
      have cb := St.cellR hh hct hb
      obtain ⟨a0, a1, a2, af⟩ := hkept.st.cells ha
      obtain ⟨b0, b1, b2, bf⟩ := hkept.st.cells hb
      have hab := hkept.st.apart ha hb hkp
      have hne : g ≠ a.b := hge a (List.mem_of_getElem? ha)
      have hne2 : g ≠ b.b := hge b (List.mem_of_getElem? hb)
      have hfz := frozen_of_heap hh
      have HK := Lib.hid hkept; have HRi := Lib.hid hrise; have HG := Lib.hid hge; have HH := Lib.hid hh; have HCT := Lib.hid hct
      clear hkept hrise hge hct
      have e1 := (up_facts hpos (lt_big hk hn hbig) hp).1
      have e2 := (up_facts hpos (lt_big hk hn hbig) hp).2.1
      have b1' : (0 : Int) ≤ (p : Int) := by omega
      have b2' : (p : Int) ≤ 4000 := by omega
      have b3' : (0 : Int) < (k : Int) := by omega
      have b4' : (k : Int) ≤ 4000 := by omega
      have l0 := World.block_lt_of_cell? wr _ y0
      have l1 := World.block_lt_of_cell? wr _ ca
      have l2 := World.block_lt_of_cell? wr _ a2
      have l3 := World.block_lt_of_cell? wr _ b2
      simp only at l0 l1 l2 l3
      cases hlt : lt a b with
      | false =>
        go_wp2_with (first
          | (go_at_call 44; (refine (c44 g m cap k p a b _ hkm hpm ca cb a0 a1 b0 b1).mono ?_); rintro e w2 ⟨rfl, hB2⟩; have HB := Lib.hid hB2; clear hB2))
        go_end0
        refine ⟨rfl, R', ⟨HK.out.st.below HB.out, HK.out.perm, HK.out.rest, HK.out.turn.trans (Turn.of HB.out) fun _ _ h => h⟩, HRi.out.done (.inr fun x y hx hy => ?_)⟩
        rw [ha] at hx
        rw [hp, hb] at hy
        cases hx; cases hy
        exact hlt
      | true =>
        go_wp2_with (first
          | (go_at_call 44; (refine (c44 g m cap k p a b _ hkm hpm ca cb a0 a1 b0 b1).mono ?_); rintro e w2 ⟨rfl, hB2⟩; obtain ⟨bc, bf'⟩ := bcell hB2; have z0 := (bc _ _ l0).trans y0; have za := (bc _ _ l1).trans ca; have zb := (bc _ _ l1).trans cb; have za2 := (bc _ _ l2).trans a2; have zb2 := (bc _ _ l3).trans b2; have zg := (fun o => (bf' g o l1).trans (hfz o)); have zfa := (bf' _ 2 l2).trans (af 2); have zfb := (bf' _ 2 l3).trans (bf 2); have HB := Lib.hid hB2; clear hB2 bc bf')
          | (go_at_call 45; (refine (c45 g m cap p k b.b a.b _ hpm hkm hpk' zb za zg zb2 za2 zfb zfa (Ne.symm hab) hne2 hne _ rfl).mono ?_); rintro e w3 ⟨rfl, hw3⟩; have HW := Lib.hid hw3; clear hw3))
        go_roundw
        case rel =>
          have hs := Kept.swap HK.out HB.out hb ha hpk' hpn hk (g := g) (cap := cap) (by rw [hR]) HH.out hgd HG.out HW.out.symm
          refine ⟨p, _, rfl, hpn, hs, ?_⟩
          have := HRi.out.step hk hpos ha (by rw [hp]; exact hb) hlt
          rw [hp] at this
          exact this
        case measure => simpa [intOf] using hpk
/-- One rises. -/
theorem c26 {F : Nat → Prop} {bd bm : Nat} {rv : Value} {R : List En} {n : Nat} (j : Nat) (w : World) (h : St F bd bm rv R w) (hr : Rise R n j) (hjn : j < n) (hn : n ≤ R.length) (hbig : R.length < 4000) :
    Calls Try.prog 26 #[ifc bd, .int .i64 j] w (UpOut F bd bm rv n R w) := by
  have he : R[j]? = some (R[j]'(by omega)) := List.getElem?_eq_getElem (by omega)
  obtain ⟨g, cap, cur, hv, _⟩ := h.rows he
  subst hv
  exact c26s j w h hr hjn hn hbig
end Go.Proofs.DU
