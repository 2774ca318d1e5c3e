/- Proved: the mails that 'Mails' hands back have bytes of blocks of their own. Each theorem says its own conditions. -/
import Derived.Test.YtopnmikijbajfaaNyf
set_option linter.unusedVariables false
set_option linter.unusedSimpArgs false
namespace Go.Proofs.NT
open Go.RowKit Go.Ai
theorem MAt.snocD {N : Nat} {L : List Ml} {w w2 w3 w4 : World} {lv : Value} {a b : Int} {s : List UInt8} {v : Value} {xs : List Value} {g cap : Nat}
    (h2 : w.ownsRow 0 39 3 lv L.length xs) (h3 : ∀ g, lv.ownBlock = some g → N ≤ g) (h5 : Rows mlE (fun b => N ≤ b ∧ lv.ownBlock ≠ some b) w xs L) (hN : N ≤ w.heap.size)
    (hB : Below w.heap.size w w2) (hb : BytAt (w.heap.size ≤ ·) w2 v s) (hB3 : Below w2.heap.size w2 w3) (hown : w4.ownsRow 0 39 3 (.slice (some ⟨g, 0, none⟩) (L.length + 1) cap) (L.length + 1) (xs ++ [.int .u32 a, .int .u32 b, v])) (hgrow : w3.grownBy w4 lv.ownBlock) (hat : lv.ownBlock = some g ∨ g = w3.heap.size) :
    w4.ownsRow 0 39 3 (.slice (some ⟨g, 0, none⟩) (L.length + 1) cap) (L ++ [(⟨a, b, s⟩ : Ml)]).length (xs ++ [.int .u32 a, .int .u32 b, v]) ∧ (Keeps (fun b => lv.ownBlock ≠ some b) w w4 ∧ Keeps (fun b => lv.ownBlock ≠ some b) w2 w4) ∧ (∀ g', (Value.slice (some ⟨g, 0, none⟩) (L.length + 1) cap).ownBlock = some g' → N ≤ g') ∧ Rows mlE (fun b => N ≤ b ∧ (Value.slice (some ⟨g, 0, none⟩) (L.length + 1) cap).ownBlock ≠ some b) w4 (xs ++ [.int .u32 a, .int .u32 b, v]) (L ++ [⟨a, b, s⟩]) := by
  have s2 := hB.size
  have s3 := hB3.size
  have s4 := hgrow.size
  have hold : ∀ b, b < w2.heap.size → lv.ownBlock ≠ some b → g ≠ b := fun b hb ho e => by
    subst e
    rcases hat with h | h
    · exact ho h
    · omega
  have hk : Keeps (fun b => lv.ownBlock ≠ some b) w3 w4 := ⟨hgrow.size, fun b hb ho => hgrow.block b hb (fun e => ho e.symm)⟩
  have hk3 : Keeps (fun b => lv.ownBlock ≠ some b) w2 w4 := (Keeps.below hB3).trans hk
  have hk2 : Keeps (fun b => lv.ownBlock ≠ some b) w w4 := (Keeps.below hB).trans hk3
  refine ⟨by rw [List.length_append]; exact hown, ⟨hk2, hk3⟩, fun g' e => ?_, ?_⟩
  · cases e
    rcases hat with h | h
    · exact h3 g h
    · show N ≤ g; omega
  · refine Rows.snoc ?_ ?_
    · refine Rows.weaken (ok := fun b => (N ≤ b ∧ lv.ownBlock ≠ some b) ∧ b < w.heap.size) ?_ fun b hb ho => ⟨ho.1.1, fun e => hold b (by omega) ho.1.2 (Option.some.inj e)⟩
      exact Rows.mono (Rows.weaken h5 fun b hb ho => ⟨ho, hb⟩) (hk2.less fun b _ ho => ho.1.2)
    · refine ⟨v, rfl, ?_⟩
      refine BytAt.weaken (ok := fun b => w.heap.size ≤ b ∧ b < w2.heap.size) ?_ fun b hb ho => ⟨by omega, fun e => hold b ho.2 (fun e => by have := (h2.lt b e).2; omega) (Option.some.inj e)⟩
      exact BytAt.mono (BytAt.weaken hb fun b hb ho => ⟨ho, hb⟩) (hk3.less fun b _ ho e => by have := (h2.lt b e).2; omega)
/-- No two mails' bytes in one block. -/
def Dis (xs : List Value) : Prop := ∀ (i j : Nat) (p : Addr) (l c : Nat) (p' : Addr) (l' c' : Nat), i < j → xs[i * 3 + 2]? = some (.slice (some p) l c) → xs[j * 3 + 2]? = some (.slice (some p') l' c') → p.block ≠ p'.block
theorem Dis.snoc {xs : List Value} {x y v : Value} {n k : Nat} (h : Dis xs) (hx : xs.length = k * 3) (hlt : ∀ (i : Nat) (p : Addr) (l c : Nat), xs[i * 3 + 2]? = some (.slice (some p) l c) → p.block < n) (hv : ∀ (p : Addr) (l c : Nat), v = .slice (some p) l c → n ≤ p.block) : Dis (xs ++ [x, y, v]) := by
  intro i j p l c p' l' c' hij h1 h2
  have hj : j ≤ k := by
    have := (List.getElem?_eq_some_iff.1 h2).1
    rw [List.length_append, hx] at this
    simp at this
    omega
  rw [List.getElem?_append_left (by omega)] at h1
  rcases Nat.lt_or_ge j k with hjk | hjk
  · rw [List.getElem?_append_left (by omega)] at h2
    exact h i j p l c p' l' c' hij h1 h2
  · rw [List.getElem?_append_right (by omega), hx, show j * 3 + 2 - k * 3 = 2 by omega] at h2
    have := hlt i p l c h1
    have := hv p' l' c' (by simpa using h2)
    omega
theorem rows_blk {ok : Nat → Prop} {W : World} {xs : List Value} {L : List Ml} (h : Rows mlE ok W xs L) {i : Nat} {p : Addr} {l c : Nat} (e : xs[i * 3 + 2]? = some (.slice (some p) l c)) : p.block < W.heap.size ∧ ok p.block := by
  have hx : xs.length = L.length * 3 := h.1
  have hi : i < L.length := by have := (List.getElem?_eq_some_iff.1 e).1; omega
  obtain ⟨v, ec, hb⟩ := h.2 i _ (List.getElem?_eq_getElem hi)
  have ec : (xs.drop (i * 3)).take 3 = [.int .u32 L[i].a, .int .u32 L[i].b, v] := ec
  have : ((xs.drop (i * 3)).take 3)[2]? = some (.slice (some p) l c) := by
    rw [List.getElem?_take, if_pos (by omega), List.getElem?_drop]; exact e
  rw [ec] at this
  have hv : v = .slice (some p) l c := by simpa using this
  subst hv
  rcases hb with ⟨e, _⟩ | ⟨b, cap, e, ho, hlt, _⟩
  · cases e
  · cases e; exact ⟨hlt, ho⟩
/-- Nothing of the bytes' blocks is frozen. -/
def FzR (W : World) (xs : List Value) : Prop := ∀ (i : Nat) (p : Addr) (l c : Nat), xs[i * 3 + 2]? = some (.slice (some p) l c) → ∀ j, W.frozen? ⟨p.block, j, none⟩ = false
def R10d (w : World) (L : List Ml) (o i : Value) (wr : World) : Prop := ∃ (k : Nat), i = .int .i64 k ∧ k ≤ L.length ∧ ∃ xs, wr.ownsRow 0 39 3 o (L.take k).length xs ∧ (∀ g, o.ownBlock = some g → w.heap.size ≤ g) ∧ Rows mlE (fun b => w.heap.size ≤ b ∧ o.ownBlock ≠ some b) wr xs (L.take k) ∧ Dis xs ∧ FzR wr xs ∧ Below w.heap.size w wr
def MailsD (L : List Ml) (w : World) (e : Ending) (w' : World) : Prop := ∃ v xs, e = .returned v ∧ w'.ownsRow 0 39 3 v L.length xs ∧ (∀ g, v.ownBlock = some g → w.heap.size ≤ g) ∧ Rows mlE (fun b => w.heap.size ≤ b ∧ v.ownBlock ≠ some b) w' xs L ∧ Dis xs ∧ FzR w' xs ∧ Below w.heap.size w w'
set_option maxRecDepth 100000 in
set_option maxHeartbeats 4000000 in
theorem c10d {F : Nat → Prop} {bn : Nat} {L : List Ml} {w : World} (hS : ∀ m ∈ L, m.s.length ≤ 20000) (hL : L.length ≤ 512) (h : NetAt F bn L w) : Calls Try.prog 10 #[nptr bn] w (MailsD L w) := by
  obtain ⟨p, c, hc⟩ := h.cell
  have HG : ∀ (i : Nat) (m : Ml), L[i]? = some m → ∃ g pl pv pc, p = some ⟨g, 0, none⟩ ∧ g < w.heap.size ∧ w.cell? ⟨g, i * 3, none⟩ = some (.int .u32 m.a) ∧ w.cell? ⟨g, i * 3 + 1, none⟩ = some (.int .u32 m.b) ∧ w.cell? ⟨g, i * 3 + 2, none⟩ = some (.slice pv pl pc) ∧ BIn w (.slice pv pl pc) m.s := by
    intro i m e
    obtain ⟨g, c', pv, pl, pc, h1, h2, h3, h4, h5, h6⟩ := h.get e
    rw [hc] at h1
    cases h1
    exact ⟨g, pl, pv, pc, rfl, h2, h3, h4, h5, h6.bin⟩
  obtain ⟨i0, hi0, hz0, hz1, hz2⟩ := info_parts info39
  have HGH := Lib.hid HG
  clear HG h
  have HS := Lib.hid hS
  clear hS
  generalize hn : L.length = n at hc hL
  have Hn := Lib.hid hn
  clear hn
  go_enter Try.func10, Try.ntmps10
  go_wp2
  go_loopw [3, 14] (fun o i wr => R10d w L o i wr) (fun _ i _ => n - (intOf i).toNat)
  case atStart => exact ⟨0, rfl, Nat.zero_le _, [], by simpa using World.ownsRow_nil _ _ _ _, (fun g h => by cases h), by simpa using Rows.nil, (fun i j p l c p' l' c' _ h => by simp at h), (fun i p l c h => by simp at h), Below.refl _ _⟩
  case round =>
    obtain ⟨k, rfl, hk, xs, hown, hog, hrow, hdis, hfr, hB⟩ := hrel
    rw [Hn.out] at hk
    by_cases hlt : k < n
    · obtain ⟨m, hm⟩ : ∃ m, L[k]? = some m := ⟨_, List.getElem?_eq_getElem (by rw [Hn.out]; exact hlt)⟩
      obtain ⟨g, pl, pv, pc, rfl, hg, x0, x1, x2, hbin⟩ := HGH.out k m hm
      have y0 := ((bcell hB).1 _ _ hg).trans x0
      have y1 := ((bcell hB).1 _ _ hg).trans x1
      have y2 := ((bcell hB).1 _ _ hg).trans x2
      have hgr : g < wr.heap.size := Nat.lt_of_lt_of_le hg hB.size
      have hsm : m.s.length ≤ 20000 := HS.out m (List.mem_of_getElem? hm)
      have hlenk : (L.take k).length = k := by rw [List.length_take, Hn.out]; omega
      rw [hlenk] at hown
      have HO := Lib.hid hown; have HOG := Lib.hid hog; have HD := Lib.hid hdis; have HFR := Lib.hid hfr; have HR := Lib.hid hrow; have HB := Lib.hid hB; have HBI := Lib.hid (hbin.mono hB)
      obtain ⟨po, co, rfl⟩ := own_slice hown
      have K19 := c19f m.a m.b m.s (.slice pv pl pc)
      obtain ⟨ma, mb, ms⟩ := m
      have HM := Lib.hid hm
      simp only at *
      clear hown hog hrow hdis hfr hB hbin x0 x1 x2 hm hg
      go_wp2_with (first
        | (go_at_call 19; refine (K19 _ hsm (HBI.out.mono ((Below.refl _ wr).alloc (Nat.le_refl _) _))).mono ?_; rintro e w2 ⟨p2, l2, c2, rfl, hb2, hB2, hfz2⟩; have HFZ := Lib.hid hfz2; clear hfz2; have HB2 := Lib.hid (((Below.refl _ wr).alloc (Nat.le_refl _) _).trans (hB2.mono (by simp))); have HBY := Lib.hid hb2; clear hB2 hb2)
        | (at_builtin; go_must (refine wpList_append_lies _ (by rfl) _ _ 35 (by rfl) 0 39 i0 _ 3 32 Try.underlying35 hi0 hz0 hz1 hz2 rfl (by omega) _ k xs (by rfl) ((own_below HO.out HB2.out).alloc _) ⟨w2.heap.size, 0, none⟩ 1 1 [.int .u32 ma, .int .u32 mb, .slice p2 l2 c2] (by rfl) (by rfl) (World.news_of_block (cs := #[.int .u32 ma, .int .u32 mb, .slice p2 l2 c2]) (t := 39) (fr := (0, 0)) (heap_alloc_new w2 _)) (by simp [Value.oneCell']) (by omega) (by unfold maxLen; omega) (by omega) (by omega) (w2.heap.size + 1) (by simp) ?_); intro gg cap w4 hown4 hgrow hat hlt4; have HO4 := Lib.hid hown4; have HG4 := Lib.hid hgrow; have HA4 := Lib.hid hat; clear hown4 hgrow hat))
      go_roundw
      case rel =>
        have hB2 := HB2.out
        obtain ⟨r1, r2⟩ := MAt.snoc (N := w.heap.size) (a := ma) (b := mb) (s := ms) (by rw [hlenk]; exact HO.out) HOG.out HR.out HB.out.size hB2 (BytAt.weaken HBY.out fun b _ ho => by simp at ho; show wr.heap.size ≤ b; omega) ((Below.refl _ w2).alloc (Nat.le_refl _) _) (by rw [hlenk]; exact HO4.out) HG4.out (by simpa using HA4.out)
        have hxl : xs.length = k * 3 := by have : xs.length = (L.take k).length * 3 := HR.out.1; rw [hlenk] at this; exact this
        have htk := take_succ HM.out
        have hd : Dis (xs ++ [.int .u32 ma, .int .u32 mb, .slice p2 l2 c2]) := by
          refine Dis.snoc (n := wr.heap.size) (k := k) HD.out hxl (fun i p l c e => ?_) (fun p l c e => ?_)
          · exact (rows_blk HR.out e).1
          · cases e
            rcases HBY.out with ⟨e, _⟩ | ⟨b, cap, e, ho, _⟩
            · cases e
            · cases e; simp at ho; show wr.heap.size ≤ b; omega
        obtain ⟨r1', ⟨kp, kp2⟩, r3, r4⟩ := MAt.snocD (N := w.heap.size) (a := ma) (b := mb) (s := ms) (by rw [hlenk]; exact HO.out) HOG.out HR.out HB.out.size hB2 (BytAt.weaken HBY.out fun b _ ho => by simp at ho; show wr.heap.size ≤ b; omega) ((Below.refl _ w2).alloc (Nat.le_refl _) _) (by rw [hlenk]; exact HO4.out) HG4.out (by simpa using HA4.out)
        rw [hlenk] at r1' r3 r4
        have hfr' : FzR w4 (xs ++ [.int .u32 ma, .int .u32 mb, .slice p2 l2 c2]) := by
          intro i p l c e j
          rcases Nat.lt_or_ge i k with hik | hik
          · rw [List.getElem?_append_left (by omega)] at e
            have hb := rows_blk HR.out e
            exact (World.frozen?_of_block (a := ⟨p.block, j, none⟩) (kp.2 p.block hb.1 hb.2.2)).trans (HFR.out i p l c e j)
          · have hi := (List.getElem?_eq_some_iff.1 e).1
            rw [List.length_append, hxl] at hi
            simp at hi
            obtain rfl : i = k := by omega
            rw [List.getElem?_append_right (by omega), hxl, show i * 3 + 2 - i * 3 = 2 by omega] at e
            have e : Value.slice p2 l2 c2 = .slice (some p) l c := by simpa using e
            cases e
            have hb : wr.heap.size ≤ p.block ∧ p.block < w2.heap.size := by
              rcases HBY.out with ⟨e, _⟩ | ⟨b, cap, e, ho, hlt, _⟩
              · cases e
              · cases e; simp at ho; exact ⟨by show wr.heap.size ≤ b; omega, hlt⟩
            exact (World.frozen?_of_block (a := ⟨p.block, j, none⟩) (kp2.2 p.block hb.2 (fun e => by have := (World.ownsRow.lt HO.out _ e).2; omega))).trans (HFZ.out p _ _ rfl j)
        refine ⟨k + 1, by go_num, by rw [Hn.out]; omega, _, ?_, r3, ?_, hd, hfr', r2.below HB.out (fun b h => h) HB.out.size⟩
        · rw [htk]; exact r1'
        · rw [htk]; exact r4
      case measure => simp [intOf]; omega
    · have hkn : k = n := by omega
      subst hkn
      go_wp2
      go_ret
      refine ⟨_, xs, rfl, ?_, hog, ?_, hdis, hfr, hB⟩
      · have := hown
        rw [List.take_of_length_le (by rw [Hn.out]; exact Nat.le_refl _)] at this
        exact this
      · have := hrow
        rw [List.take_of_length_le (by rw [Hn.out]; exact Nat.le_refl _)] at this
        exact this
end Go.Proofs.NT
