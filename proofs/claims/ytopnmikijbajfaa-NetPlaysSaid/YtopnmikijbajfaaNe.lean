/- Proved: what 'Len', 'Mails' and 'Double' come to. Each theorem says its own conditions. -/
import Derived.Test.YtopnmikijbajfaaNd
set_option linter.unusedVariables false
set_option linter.unusedSimpArgs false
namespace Go.Proofs.NT
open Go.RowKit Go.Ai
theorem c16 (bn : Nat) (p : Option Addr) (l c : Nat) (w : World) (h : w.cell? ⟨bn, 0, none⟩ = some (.slice p l c)) : Calls Try.prog 16 #[nptr bn] w fun e w' => e = .returned (.int .i64 l) ∧ w = w' := by
  go_enter Try.func16, Try.ntmps16
  go_wp2
  go_ret
  exact ⟨rfl, rfl⟩
/-- A row of mails of its own. -/
def MAt (N : Nat) (W : World) (v : Value) (L : List Ml) : Prop := ∃ xs, W.ownsRow 0 39 3 v L.length xs ∧ (∀ g, v.ownBlock = some g → N ≤ g) ∧ Rows mlE (fun b => N ≤ b ∧ v.ownBlock ≠ some b) W xs L
theorem MAt.nil (N : Nat) (W : World) : MAt N W (.slice none 0 0) [] := ⟨[], World.ownsRow_nil _ _ _ _, (fun g h => by cases h), Rows.nil⟩
theorem MAt.snoc {N : Nat} {L : List Ml} {w w2 w3 w4 : World} {lv : Value} {a b : Int} {s : List UInt8} {v : Value} {xs : List Value} {g cap : Nat}
    (h2 : w.ownsRow 0 39 3 lv L.length xs) (h3 : ∀ g, lv.ownBlock = some g → N ≤ g) (h5 : Rows mlE (fun b => N ≤ b ∧ lv.ownBlock ≠ some b) w xs L) (hN : N ≤ w.heap.size)
    (hB : Below w.heap.size w w2) (hb : BytAt (w.heap.size ≤ ·) w2 v s) (hB3 : Below w2.heap.size w2 w3) (hown : w4.ownsRow 0 39 3 (.slice (some ⟨g, 0, none⟩) (L.length + 1) cap) (L.length + 1) (xs ++ [.int .u32 a, .int .u32 b, v])) (hgrow : w3.grownBy w4 lv.ownBlock) (hat : lv.ownBlock = some g ∨ g = w3.heap.size) :
    MAt N w4 (.slice (some ⟨g, 0, none⟩) (L.length + 1) cap) (L ++ [⟨a, b, s⟩]) ∧ Turn (fun b => N ≤ b) w w4 := by
  have s2 := hB.size
  have s3 := hB3.size
  have s4 := hgrow.size
  have hold : ∀ b, b < w2.heap.size → lv.ownBlock ≠ some b → g ≠ b := fun b hb ho e => by
    subst e
    rcases hat with h | h
    · exact ho h
    · omega
  have hk : Keeps (fun b => lv.ownBlock ≠ some b) w3 w4 := ⟨hgrow.size, fun b hb ho => hgrow.block b hb (fun e => ho e.symm)⟩
  have hk3 : Keeps (fun b => lv.ownBlock ≠ some b) w2 w4 := (Keeps.below hB3).trans hk
  have hk2 : Keeps (fun b => lv.ownBlock ≠ some b) w w4 := (Keeps.below hB).trans hk3
  refine ⟨⟨xs ++ [.int .u32 a, .int .u32 b, v], by rw [List.length_append]; exact hown, fun g' e => ?_, ?_⟩, ?_⟩
  · cases e
    rcases hat with h | h
    · exact h3 g h
    · show N ≤ g; omega
  · refine Rows.snoc ?_ ?_
    · refine Rows.weaken (ok := fun b => (N ≤ b ∧ lv.ownBlock ≠ some b) ∧ b < w.heap.size) ?_ fun b hb ho => ⟨ho.1.1, fun e => hold b (by omega) ho.1.2 (Option.some.inj e)⟩
      exact Rows.mono (Rows.weaken h5 fun b hb ho => ⟨ho, hb⟩) (hk2.less fun b _ ho => ho.1.2)
    · refine ⟨v, rfl, ?_⟩
      refine BytAt.weaken (ok := fun b => w.heap.size ≤ b ∧ b < w2.heap.size) ?_ fun b hb ho => ⟨by omega, fun e => hold b ho.2 (fun e => by have := (h2.lt b e).2; omega) (Option.some.inj e)⟩
      exact BytAt.mono (BytAt.weaken hb fun b hb ho => ⟨ho, hb⟩) (hk3.less fun b _ ho e => by have := (h2.lt b e).2; omega)
  · exact Turn.trans (F' := fun b => N ≤ b) (Turn.of (hB.trans (hB3.mono s2))) (Turn.grown hgrow fun g' e => h3 g' e) (fun b _ h => h)
def R10 (w : World) (L : List Ml) (o i : Value) (wr : World) : Prop := ∃ k : Nat, i = .int .i64 k ∧ k ≤ L.length ∧ MAt w.heap.size wr o (L.take k) ∧ Below w.heap.size w wr
def MailsOut (L : List Ml) (w : World) (e : Ending) (w' : World) : Prop := ∃ v, e = .returned v ∧ MAt w.heap.size w' v L ∧ Below w.heap.size w w'
theorem take_succ {L : List Ml} {k : Nat} {m : Ml} (h : L[k]? = some m) : L.take (k + 1) = L.take k ++ [m] := by
  rw [List.take_add_one, h]; rfl
set_option maxRecDepth 100000 in
set_option maxHeartbeats 4000000 in
theorem c10 {F : Nat → Prop} {bn : Nat} {L : List Ml} {w : World} (hS : ∀ m ∈ L, m.s.length ≤ 20000) (hL : L.length ≤ 512) (h : NetAt F bn L w) : Calls Try.prog 10 #[nptr bn] w (MailsOut L w) := by
  obtain ⟨p, c, hc⟩ := h.cell
  have HG : ∀ (i : Nat) (m : Ml), L[i]? = some m → ∃ g pl pv pc, p = some ⟨g, 0, none⟩ ∧ g < w.heap.size ∧ w.cell? ⟨g, i * 3, none⟩ = some (.int .u32 m.a) ∧ w.cell? ⟨g, i * 3 + 1, none⟩ = some (.int .u32 m.b) ∧ w.cell? ⟨g, i * 3 + 2, none⟩ = some (.slice pv pl pc) ∧ BIn w (.slice pv pl pc) m.s := by
    intro i m e
    obtain ⟨g, c', pv, pl, pc, h1, h2, h3, h4, h5, h6⟩ := h.get e
    rw [hc] at h1
    cases h1
    exact ⟨g, pl, pv, pc, rfl, h2, h3, h4, h5, h6.bin⟩
  obtain ⟨i0, hi0, hz0, hz1, hz2⟩ := info_parts info39
  have HGH := Lib.hid HG
  clear HG h
  have HS := Lib.hid hS
  clear hS
  generalize hn : L.length = n at hc hL
  have Hn := Lib.hid hn
  clear hn
  go_enter Try.func10, Try.ntmps10
  go_wp2
  go_loopw [3, 14] (fun o i wr => R10 w L o i wr) (fun _ i _ => n - (intOf i).toNat)
  case atStart => exact ⟨0, rfl, Nat.zero_le _, by simpa using MAt.nil _ _, Below.refl _ _⟩
  case round =>
    obtain ⟨k, rfl, hk, ⟨xs, hown, hog, hrow⟩, hB⟩ := hrel
    rw [Hn.out] at hk
    by_cases hlt : k < n
    · obtain ⟨m, hm⟩ : ∃ m, L[k]? = some m := ⟨_, List.getElem?_eq_getElem (by rw [Hn.out]; exact hlt)⟩
      obtain ⟨g, pl, pv, pc, rfl, hg, x0, x1, x2, hbin⟩ := HGH.out k m hm
      have y0 := ((bcell hB).1 _ _ hg).trans x0
      have y1 := ((bcell hB).1 _ _ hg).trans x1
      have y2 := ((bcell hB).1 _ _ hg).trans x2
      have hgr : g < wr.heap.size := Nat.lt_of_lt_of_le hg hB.size
      have hsm : m.s.length ≤ 20000 := HS.out m (List.mem_of_getElem? hm)
      have hlenk : (L.take k).length = k := by rw [List.length_take, Hn.out]; omega
      rw [hlenk] at hown
      have HO := Lib.hid hown; have HOG := Lib.hid hog; have HR := Lib.hid hrow; have HB := Lib.hid hB; have HBI := Lib.hid (hbin.mono hB)
      obtain ⟨po, co, rfl⟩ := own_slice hown
      have K19 := c19 m.a m.b m.s (.slice pv pl pc)
      obtain ⟨ma, mb, ms⟩ := m
      have HM := Lib.hid hm
      simp only at *
      clear hown hog hrow hB hbin x0 x1 x2 hm hg
      go_wp2_with (first
        | (go_at_call 19; refine (K19 _ hsm (HBI.out.mono ((Below.refl _ wr).alloc (Nat.le_refl _) _))).mono ?_; rintro e w2 ⟨p2, l2, c2, rfl, hb2, hB2⟩; have HB2 := Lib.hid (((Below.refl _ wr).alloc (Nat.le_refl _) _).trans (hB2.mono (by simp))); have HBY := Lib.hid hb2; clear hB2 hb2)
        | (at_builtin; go_must (refine wpList_append_lies _ (by rfl) _ _ 35 (by rfl) 0 39 i0 _ 3 32 Try.underlying35 hi0 hz0 hz1 hz2 rfl (by omega) _ k xs (by rfl) ((own_below HO.out HB2.out).alloc _) ⟨w2.heap.size, 0, none⟩ 1 1 [.int .u32 ma, .int .u32 mb, .slice p2 l2 c2] (by rfl) (by rfl) (World.news_of_block (cs := #[.int .u32 ma, .int .u32 mb, .slice p2 l2 c2]) (t := 39) (fr := (0, 0)) (heap_alloc_new w2 _)) (by simp [Value.oneCell']) (by omega) (by unfold maxLen; omega) (by omega) (by omega) (w2.heap.size + 1) (by simp) ?_); intro gg cap w4 hown4 hgrow hat hlt4; have HO4 := Lib.hid hown4; have HG4 := Lib.hid hgrow; have HA4 := Lib.hid hat; clear hown4 hgrow hat))
      go_roundw
      case rel =>
        have hB2 := HB2.out
        obtain ⟨r1, r2⟩ := MAt.snoc (N := w.heap.size) (a := ma) (b := mb) (s := ms) (by rw [hlenk]; exact HO.out) HOG.out HR.out HB.out.size hB2 (BytAt.weaken HBY.out fun b _ ho => by simp at ho; show wr.heap.size ≤ b; omega) ((Below.refl _ w2).alloc (Nat.le_refl _) _) (by rw [hlenk]; exact HO4.out) HG4.out (by simpa using HA4.out)
        rw [hlenk] at r1
        refine ⟨k + 1, by go_num, by rw [Hn.out]; omega, ?_, r2.below HB.out (fun b h => h) HB.out.size⟩
        rw [take_succ HM.out]
        exact r1
      case measure => simp [intOf]; omega
    · have hkn : k = n := by omega
      subst hkn
      go_wp2
      go_ret
      refine ⟨_, rfl, ⟨xs, ?_, hog, ?_⟩, hB⟩
      · have := hown
        rw [List.take_of_length_le (by rw [Hn.out]; exact Nat.le_refl _)] at this
        exact this
      · have := hrow
        rw [List.take_of_length_le (by rw [Hn.out]; exact Nat.le_refl _)] at this
        exact this
end Go.Proofs.NT
