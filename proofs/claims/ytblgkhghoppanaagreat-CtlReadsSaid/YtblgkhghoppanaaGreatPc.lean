/- Proved: contracts of single functions of the program and lemmas that they need; each theorem says its own conditions. -/
import Derived.Test.YtblgkhghoppanaaGreatPb
set_option linter.unusedVariables false
set_option linter.unusedSimpArgs false
namespace Go.Proofs.PK
open Go.RowKit
set_option maxRecDepth 100000 in
set_option maxHeartbeats 4000000 in
theorem c54 (x : Int) (w : World) (h0 : 0 ≤ x) (h1 : x ≤ 18446744073709551615) : Calls Tryz.prog 54 #[.int .u64 x] w fun e w' => w' = w ∧ ∃ r : Nat, e = .returned (.int .i64 r) ∧ r ≤ 100 := by
  go_enter Tryz.func54, Tryz.ntmps54
  go_wp2_with (first | (go_at_call 67; refine (c67 x w h0 h1).mono ?_; rintro e w1 ⟨rfl, r, rfl, hr0, hr1⟩))
  go_ret
  refine ⟨rfl, ((max r 1 + 6) / 7).toNat, ?_, ?_⟩
  · rw [Int.toNat_of_nonneg (by omega)]; rfl
  · omega
/-- What can be read in an older world can be read in a newer one. -/
theorem rd_up {w w1 : World} {b o : Nat} {l : List Nat} (hB : Below w.heap.size w w1) (hb : 0 < l.length → b < w.heap.size) (hr : ∀ (j : Nat) (x : Value), (B l)[j]? = some x → w.cell? ((⟨b, o, none⟩ : Addr).add j) = some x) : ∀ (j : Nat) (x : Value), (B l)[j]? = some x → w1.cell? ((⟨b, o, none⟩ : Addr).add j) = some x := fun j x hx => by
  have hj : j < (B l).length := (List.getElem?_eq_some_iff.1 hx).1
  rw [B_len] at hj
  have := hr j x hx
  rw [Addr.add_lit] at this ⊢
  exact (hB.cell (p := ⟨b, o + j, none⟩) (hb (by omega))).trans this
set_option maxRecDepth 100000 in
set_option maxHeartbeats 4000000 in
theorem c53 (v : Value) (l : List Nat) (m : Nat) (w : World) (h : Rd w v l) (hl : l.length ≤ 100000) (hm : m ≤ 100) : Calls Tryz.prog 53 #[v, .int .i64 m] w (PutOut l w) := by
  obtain ⟨b, o, cap, rfl, hb, hr⟩ := h
  obtain ⟨i0, hi0, hz0, hz1, hz2⟩ := info_parts info5
  obtain ⟨w1, hmk, hown1, hgrow1⟩ := run_make_own (P := Tryz.prog) w w.heap.size 24 5 i0 (.int .u8 0) 1 Tryz.underlying24 hi0 hz0 hz1 .i64 .i64 (l.length + m) (by rw [hz2]; omega) (by unfold maxLen; omega) (Nat.le_refl _)
  have hB1 : Below w.heap.size w w1 := (Below.refl _ w).grown hgrow1 (Nat.le_refl _) (fun j hj => by cases hj)
  have HR := Lib.hid (rd_up hB1 hb hr)
  clear hr hb
  rw [Int.natCast_add] at hmk
  go_enter Tryz.func53, Tryz.ntmps53
  go_wp2_with (first
    | (at_builtin; refine wpList_append_own _ rfl _ _ 24 rfl w.heap.size 5 i0 (.int .u8 0) 1 1 Tryz.underlying24 hi0 hz0 hz1 hz2 rfl (by decide) _ 0 [] rfl hown1 ⟨b, o, none⟩ l.length cap (B l) rfl (B_len l) HR.out (B_one l) (by unfold maxLen; omega) (by omega) hB1.size ?_; intro v2 w2 hown2 hgrow2 hnil2))
  go_ret
  rw [Nat.zero_add, List.nil_append] at hown2
  exact ⟨v2, rfl, hown2, hB1.grown hgrow2 hB1.size (fun j hj => by cases hj; simp)⟩
end Go.Proofs.PK
namespace Go.Proofs.PK
open Go.RowKit
theorem or128_fin : ∀ b : Fin 256, bits .or .u8 ((b.val : Nat) : Int) 128 = ((b.val % 128 + 128 : Nat) : Int) := by decide +kernel
theorem or128 (k : Nat) : bits .or .u8 ((k : Int) % 256) 128 = ((k % 128 + 128 : Nat) : Int) := by
  have h : bits .or .u8 ((k % 256 : Nat) : Int) 128 = ((k % 256 % 128 + 128 : Nat) : Int) := or128_fin ⟨k % 256, Nat.mod_lt _ (by omega)⟩
  have e : k % 256 % 128 = k % 128 := by omega
  rw [e] at h
  exact h
set_option maxRecDepth 100000 in
set_option maxHeartbeats 4000000 in
theorem c32 (v : Value) (l : List Nat) (m : Nat) (w : World) (h : Rd w v l) (hl : l.length ≤ 100000) (hm : m < 18446744073709551616) : Calls Tryz.prog 32 #[v, .int .u64 m] w (PutOut (l ++ enc m) w) := by
  obtain ⟨i0, hi0, hz0, hz1, hz2⟩ := info_parts info5
  have C54 := c54 (m : Int) w (by omega) (by omega)
  have C53 := fun (r : Nat) (hr : r ≤ 100) => c53 v l r w h hl hr
  have OR := fun (k : Nat) => or128 k
  go_enter Tryz.func32, Tryz.ntmps32
  go_wp2_with (first
    | (go_at_call 54; refine C54.mono ?_; rintro e w1 ⟨hw, r, rfl, hr⟩; obtain rfl := hw.symm)
    | (go_at_call 53; refine (C53 _ hr).mono ?_; rintro e w1 ⟨v1, rfl, hown1, hB1⟩))
  go_loopw [5, 1] (fun out n wr => R36 l m w out n wr) (fun _ n _ => (intOf n).toNat)
  case atStart => exact ⟨m, l, rfl, hown1, rfl, Nat.le_refl _, hB1⟩
  case round =>
    obtain ⟨k, ys, rfl, hown, he, hk, hB⟩ := hrel
    have hlen : ys.length + (enc k).length = l.length + (enc m).length := by have := congrArg List.length he; simpa using this
    have hten := enc_ten hm
    have hyl : ys.length ≤ 100010 := by omega
    have hBs := hB.size
    clear hlen hten
    have HE := Lib.hid he; have HB := Lib.hid hB
    clear he hB
    by_cases hbig : 128 ≤ k
    · go_wp2_with (at_builtin; refine wpList_append_own _ rfl _ _ 24 rfl w.heap.size 5 i0 (.int .u8 0) 1 1 Tryz.underlying24 hi0 hz0 hz1 hz2 rfl (by decide) _ _ _ rfl (hown.alloc _) ⟨wr.heap.size, 0, none⟩ 1 1 [.int .u8 ((k % 128 + 128 : Nat) : Int)] rfl rfl (one_new _ _ _) (by intro u hu; simp at hu; subst hu; rfl) (by unfold maxLen; omega) (by omega) (by simp; omega) ?_; intro v2 w2 hown2 hgrow2 hnil2)
      go_roundw
      case rel => exact ⟨k / 128, ys ++ [k % 128 + 128], by simp, own_snoc _ (by simp) hown2, by rw [← HE.out, enc_big hbig]; simp, by omega, (HB.out.alloc HB.out.size _).grown hgrow2 (by simp; omega) (fun j hj => (hown.lt j hj).1)⟩
      case measure => simp [intOf]; omega
    · go_wp2_with (at_builtin; refine wpList_append_own _ rfl _ _ 24 rfl w.heap.size 5 i0 (.int .u8 0) 1 1 Tryz.underlying24 hi0 hz0 hz1 hz2 rfl (by decide) _ _ _ rfl (hown.alloc _) ⟨wr.heap.size, 0, none⟩ 1 1 [.int .u8 (k : Int)] rfl rfl (one_new _ _ _) (by intro u hu; simp at hu; subst hu; rfl) (by unfold maxLen; omega) (by omega) (by simp; omega) ?_; intro v2 w2 hown2 hgrow2 hnil2)
      go_ret
      refine ⟨v2, rfl, ?_, (HB.out.alloc HB.out.size _).grown hgrow2 (by simp; omega) (fun j hj => (hown.lt j hj).1)⟩
      rw [← HE.out, enc_small (by omega)]
      exact own_snoc k rfl hown2
end Go.Proofs.PK
