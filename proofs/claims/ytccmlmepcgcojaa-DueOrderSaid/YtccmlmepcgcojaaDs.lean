/- Proved: what the document's 'Take' comes to, and 'Equal' of two rows of keys. Each theorem says its own conditions. -/
import Derived.Test.YtccmlmepcgcojaaDr
set_option linter.unusedVariables false
set_option linter.unusedSimpArgs false
namespace Go.Proofs.DU
open Go.RowKit
theorem turn_none {w w' : World} (h : Turn (fun _ => False) w w') : Below w.heap.size w w' := ⟨h.os, h.tape, h.output, h.size, fun b hb => h.block b hb (fun h => h)⟩
structure RTk (now : Int) (v : Value) (L : List (Int × Int)) (w : World) (v1 o : Value) (ks : List Int) (L1 : List (Int × Int)) (wr : World) : Prop where
  tk : ∀ ks2 L2, Tk now L1 ks2 L2 → Tk now L (ks ++ ks2) L2
  ref : RefAt 0 wr v1 L1
  own : ∀ g, v1.ownBlock = some g → v.ownBlock = some g ∨ w.heap.size ≤ g
  row : KAt wr o ks
  row' : ∀ g, o.ownBlock = some g → w.heap.size ≤ g
  keys : (L1.map (·.1)).Nodup
  below : Below w.heap.size w wr
  len : ks.length + L1.length = L.length
def RTakeOut (now : Int) (v : Value) (L : List (Int × Int)) (w : World) (e : Ending) (w' : World) : Prop := ∃ kv v' ks L', e = .returned (.tuple #[kv, v']) ∧ Tk now L ks L' ∧ KAt w' kv ks ∧ (∀ g, kv.ownBlock = some g → w.heap.size ≤ g) ∧ RefAt 0 w' v' L' ∧ (∀ g, v'.ownBlock = some g → v.ownBlock = some g ∨ w.heap.size ≤ g) ∧ Below w.heap.size w w'
theorem own_base {w : World} {base b2 e size n : Nat} {v : Value} {xs : List Value} (h : w.ownsRow base e size v n xs) (hb : b2 ≤ base) : w.ownsRow b2 e size v n xs := by
  refine ⟨h.1, ?_⟩
  rcases h.2 with h | ⟨g, cap, cur, rfl, h1, h2⟩
  · exact .inl h
  · exact .inr ⟨g, cap, cur, rfl, by omega, h2⟩
theorem own_below {w w' : World} {base e size n : Nat} {v : Value} {xs : List Value} (h : w.ownsRow base e size v n xs) (hb : Below w.heap.size w w') : w'.ownsRow base e size v n xs := own_keep h fun g _ hl => hb.block g hl
/-- Rows of two kinds lie in two blocks. -/
theorem own_two {w : World} {b1 b2 e1 e2 s1 s2 n1 n2 : Nat} {v1 v2 : Value} {x1 x2 : List Value} (h1 : w.ownsRow b1 e1 s1 v1 n1 x1) (h2 : w.ownsRow b2 e2 s2 v2 n2 x2) (hne : e1 ≠ e2) : ∀ g, v1.ownBlock = some g → v2.ownBlock ≠ some g := by
  intro g hg
  rcases h1.2 with ⟨rfl, _⟩ | ⟨g', cap, cur, rfl, _, hh, _⟩
  · cases hg
  · cases hg
    exact own_ne h2 hh hne
set_option maxRecDepth 100000 in
set_option maxHeartbeats 4000000 in
theorem c23 (v : Value) (L : List (Int × Int)) (now : Int) (w : World) (h : RefAt 0 w v L) (hn : (L.map (·.1)).Nodup) (hL : L.length < 2000) : Calls Try.prog 23 #[v, .int .u64 now] w (RTakeOut now v L w) := by
  obtain ⟨i0, hi0, hz0, hz1, hz2⟩ := info_parts info23
  have hB0 : Below w.heap.size w (w.alloc (.cells #[] 23)) := (Below.refl _ w).alloc (Nat.le_refl _) _
  have hk0 : KAt (w.alloc (.cells #[] 23)) (.slice (some ⟨w.heap.size, 0, none⟩) 0 0) [] := ⟨rfl, .inr ⟨w.heap.size, 0, #[], rfl, Nat.zero_le _, heap_alloc_new w _, Nat.le_refl _, Nat.zero_le _, rfl, rfl⟩⟩
  have H := Lib.hid h
  have HN := Lib.hid hn; have HB0 := Lib.hid hB0; have HK0 := Lib.hid hk0
  clear h hn hB0 hk0
  go_enter Try.func23, Try.ntmps23
  go_wp2
  go_loopw [0, 6] (fun v1 o wr => ∃ ks L1, RTk now v L w v1 o ks L1 wr) (fun _ o _ => L.length - sliceLen o)
  case atStart => exact ⟨[], L, fun _ _ h => h, own_below H.out HB0.out, fun g h => .inl h, HK0.out, (fun g hg => by cases hg; exact Nat.le_refl _), HN.out, HB0.out, by simp⟩
  case round =>
    obtain ⟨ks, L1, hr⟩ := hrel
    obtain ⟨po, co, rfl⟩ := own_slice hr.row
    obtain ⟨pv, cv, rfl⟩ := own_slice hr.ref
    have HR := Lib.hid hr
    have hl := hr.len
    have hl1 : L1.length < 3000 := by omega
    have hkl : ks.length < 2000 := by omega
    clear hr
    go_wp2_with (fail)
    go_at_call 16
    refine (c16 _ L1 0 wr HR.out.ref hl1).mono ?_
    rintro e w1 ⟨ht, hh, ⟨hL1, rfl⟩ | ⟨j, x, rfl, hx, hf⟩⟩
    · have HB1 := Lib.hid (turn_none ht); have HL1 := Lib.hid hL1
      clear ht hh hL1
      go_wp2
      go_ret2
      exact ⟨_, _, ks, L1, rfl, by have := HR.out.tk [] L1 (.stop fun x hx => by rw [HL1.out] at hx; exact absurd hx.1 (by simp)); simpa using this, own_below HR.out.row HB1.out, HR.out.row', own_below HR.out.ref HB1.out, HR.out.own, HR.out.below.trans (HB1.out.mono HR.out.below.size)⟩
    · have HB1 := Lib.hid (turn_none ht)
      have hr1 : RefAt 0 w1 (.slice pv L1.length cv) L1 := own_below HR.out.ref HB1.out
      obtain ⟨g, c', hv, _, _, x0, x1⟩ := hr1.get hx
      have hj := (List.getElem?_eq_some_iff.1 hx).1
      cases hv
      have HX := Lib.hid hf; have HR1 := Lib.hid hr1; have HXJ := Lib.hid hx
      obtain ⟨xk, xt⟩ := x
      simp only at x0 x1
      clear ht hh hr1 hx hf
      have j0 : ¬ ((j : Int) < 0) := by omega
      by_cases hle : xt ≤ now
      · have hd : ¬ now < xt := by omega
        have hk1 := own_below HR.out.row HB1.out
        unfold KAt at hk1
        have hlm : (ks.map fun k => Value.int .u64 k).length = ks.length := by simp
        generalize hxs : (ks.map fun k => Value.int .u64 k) = xs at hk1 hlm
        have HXS := Lib.hid hxs; have HK1 := Lib.hid hk1
        have hsz1 := HB1.out.size
        have K4 : ∀ w4 : World, (w1.alloc (.cells #[.int .u64 xk] 23)).grownBy w4 (Value.slice po ks.length co).ownBlock → RefAt 0 w4 (.slice (some ⟨g, 0, none⟩) L1.length cv) L1 ∧ Below w.heap.size w w4 := fun w4 hg => by
          have hB : Below w1.heap.size w1 (w1.alloc (.cells #[.int .u64 xk] 23)) := (Below.refl _ _).alloc (Nat.le_refl _) _
          have ha := own_below HR1.out hB
          refine ⟨own_keep ha fun b hb hlb => hg.block b hlb (fun e => own_two ha (own_below HK1.out hB) (by decide) b hb e.symm), ?_⟩
          have hw1 : Below w.heap.size w w1 := HR.out.below.trans (HB1.out.mono HR.out.below.size)
          exact (hw1.trans (hB.mono hw1.size)).grown hg (by have := hw1.size; simp; omega) fun b hb => HR.out.row' b hb
        have HK4 := Lib.hid K4
        clear hxs hk1 K4
        go_wp2_with (first
          | (at_builtin; refine wpList_append_lies _ (by rfl) _ _ 22 (by rfl) 0 23 i0 _ 1 8 Try.underlying22 hi0 hz0 hz1 hz2 rfl (by omega) (.slice po ks.length co) ks.length xs (by rfl) (World.ownsRow.alloc HK1.out _) ⟨w1.heap.size, 0, none⟩ 1 1 [.int .u64 xk] (by rfl) (by rfl) (World.news_of_block (cs := #[.int .u64 xk]) (t := 23) (fr := (0, 0)) (heap_alloc_new w1 _)) (by simp [Value.oneCell']) (by omega) (by unfold maxLen; omega) (by omega) (by simp) (w1.heap.size + 1) (by simp) ?_; intro gg cp w4 hown4 hgrow hat hlt4; have hr4 := (HK4.out w4 hgrow).1; obtain ⟨g4, c4, hv4, _, _, z0, z1⟩ := hr4.get HXJ.out; cases hv4; have HR4 := Lib.hid hr4; have HO4 := Lib.hid hown4; have HG4 := Lib.hid hgrow; have HA4 := Lib.hid hat; clear hown4 hgrow hat hr4)
          | (go_at_call 22; (with_reducible refine (c22 _ L1 0 xk _ HR4.out hl1).mono ?_); rintro e w5 ⟨v5, rfl, hr5, hB5⟩; have HR5 := Lib.hid hr5; have HB5 := Lib.hid hB5; clear hr5 hB5))
        go_roundw
        case rel =>
          have hw4 := (HK4.out w4 HG4.out).2
          have hgg : w.heap.size ≤ gg := by
            rcases HA4.out with h | h
            · exact HR.out.row' gg h
            · have := HR.out.below.size; omega
          refine ⟨ks ++ [xk], cutL L1 xk, ⟨fun ks2 L2 h => ?_, own_base HR5.out (Nat.zero_le _), fun g' hg' => .inr (Nat.le_trans hw4.size (HR5.out.lt g' hg').1), ?_, fun g' e => by cases e; exact hgg, cut_nodup HR.out.keys, hw4.trans (HB5.out.mono hw4.size), ?_⟩⟩
          · have := HR.out.tk (xk :: ks2) L2 (.go HX.out hle h)
            simpa using this
          · unfold KAt
            rw [List.length_append, List.map_append, HXS.out]
            exact own_below HO4.out HB5.out
          · have h1 := cut_len HR.out.keys HX.out.1
            have h2 := HR.out.len
            simp at h1 ⊢
            omega
        case measure =>
          have h1 := List.length_pos_of_mem HX.out.1
          have h2 := HR.out.len
          simp [sliceLen]
          omega
      · have hd : now < xt := by omega
        go_wp2
        go_ret2
        exact ⟨_, _, ks, L1, rfl, by have := HR.out.tk [] L1 (.stop fun y hy => by rw [hy.uniq HX.out]; exact hd); simpa using this, own_below HR.out.row HB1.out, HR.out.row', HR1.out, HR.out.own, HR.out.below.trans (HB1.out.mono HR.out.below.size)⟩
end Go.Proofs.DU
