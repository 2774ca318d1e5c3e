/- Proved: contracts of single functions of the program and lemmas that they need; each theorem says its own conditions. -/
import Derived.Test.YtblgkhghoppanaaGreatProg
import Derived.WalkKit
import Derived.WalkMore
import Derived.OwnWalk
import Derived.Lib.Hide
import Derived.Laws.AppendOwn
import Derived.Deep.AppendSrc
set_option linter.unusedVariables false
set_option linter.unusedSimpArgs false
namespace Go.Proofs.PK
open Go.RowKit
theorem bcell {W w1 : World} (hb : Below W.heap.size W w1) : (∀ b o, b < W.heap.size → w1.cell? ⟨b, o, none⟩ = W.cell? ⟨b, o, none⟩) ∧ (∀ b o, b < W.heap.size → w1.frozen? ⟨b, o, none⟩ = W.frozen? ⟨b, o, none⟩) :=
  ⟨fun b o h => hb.cell (p := ⟨b, o, none⟩) h, fun b o h => hb.frozen (p := ⟨b, o, none⟩) h⟩
theorem one_new (W : World) (v : Value) (t : TypeId) : ∀ (j : Nat) (u : Value), [v][j]? = some u → (W.alloc (.cells #[v] t)).cell? ((⟨W.heap.size, 0, none⟩ : Addr).add j) = some u := fun j u hu => by
  cases j with
  | zero =>
    cases hu
    rw [Addr.add_lit]
    have h : (W.alloc (.cells #[v] t)).heap[W.heap.size]? = some (.cells #[v] t) := heap_alloc_new W _
    unfold World.cell?
    rw [h]
    rfl
  | succ j => simp at hu
/-- A number's writing. -/
def enc (n : Nat) : List Nat := if h : n < 128 then [n] else (n % 128 + 128) :: enc (n / 128)
termination_by n
theorem enc_small {n : Nat} (h : n < 128) : enc n = [n] := by rw [enc, dif_pos h]
theorem enc_big {n : Nat} (h : 128 ≤ n) : enc n = (n % 128 + 128) :: enc (n / 128) := by rw [enc, dif_neg (by omega)]
theorem enc_len : ∀ (k n : Nat), n < 128 ^ (k + 1) → (enc n).length ≤ k + 1
  | 0, n, h => by rw [enc_small (by simpa using h)]; simp
  | k + 1, n, h => by
    by_cases hn : n < 128
    · rw [enc_small hn]; simp
    · rw [enc_big (by omega)]
      have := enc_len k (n / 128) (by rw [Nat.pow_succ] at h; omega)
      simp only [List.length_cons]; omega
theorem enc_ten {n : Nat} (h : n < 18446744073709551616) : (enc n).length ≤ 10 := enc_len 9 n (by omega)
def B (l : List Nat) : List Value := l.map fun (x : Nat) => Value.int .u8 (x : Int)
theorem B_app (a b : List Nat) : B (a ++ b) = B a ++ B b := by simp [B]
theorem B_one (l : List Nat) : ∀ u ∈ B l, u.oneCell' = true := fun u hu => by obtain ⟨x, _, rfl⟩ := List.mem_map.1 hu; rfl
theorem B_len (l : List Nat) : (B l).length = l.length * 1 := by simp [B]
/-- A row of bytes that can be read. -/
def Rd (w : World) (v : Value) (l : List Nat) : Prop := ∃ b o cap, v = .slice (some ⟨b, o, none⟩) l.length cap ∧ (0 < l.length → b < w.heap.size) ∧ ∀ (j : Nat) (x : Value), (B l)[j]? = some x → w.cell? ((⟨b, o, none⟩ : Addr).add j) = some x
def PutOut (l : List Nat) (w : World) (e : Ending) (w' : World) : Prop := ∃ v, e = .returned v ∧ w'.ownsRow w.heap.size 5 1 v l.length (B l) ∧ Below w.heap.size w w'
theorem rd_of_own {w : World} {base : Nat} {v : Value} {l : List Nat} (h : w.ownsRow base 5 1 v l.length (B l)) (hl : 0 < l.length) : Rd w v l := by
  rcases h.2 with ⟨_, h0⟩ | ⟨g, cap, cur, rfl, h1, h2, _⟩
  · omega
  · exact ⟨g, 0, cap, rfl, fun _ => (Array.getElem?_eq_some_iff.1 h2).1, fun j x hx => h.cells (g := g) rfl j x hx⟩
theorem Rd.mono {w w' : World} {v : Value} {l : List Nat} (h : Rd w v l) (hB : Below w.heap.size w w') : Rd w' v l := by
  obtain ⟨b, o, cap, rfl, h1, h2⟩ := h
  refine ⟨b, o, cap, rfl, fun hp => Nat.lt_of_lt_of_le (h1 hp) hB.size, fun j x hx => ?_⟩
  have hj : j < (B l).length := (List.getElem?_eq_some_iff.1 hx).1
  rw [B_len] at hj
  have := h2 j x hx
  rw [Addr.add_lit] at this ⊢
  exact (hB.cell (p := ⟨b, o + j, none⟩) (h1 (by omega))).trans this
theorem info5 : (Tryz.prog.info? 5).map (fun i => (i.zero, i.size, i.bytes)) = some (some (.int .u8 0), 1, 1) := by kernel_rfl
theorem own_snoc {w : World} {base : Nat} {v : Value} {ys : List Nat} {z : Int} (x : Nat) (hz : z = (x : Int)) (h : w.ownsRow base 5 1 v (ys.length + 1) (B ys ++ [.int .u8 z])) : w.ownsRow base 5 1 v (ys ++ [x]).length (B (ys ++ [x])) := by
  rw [B_app]
  subst hz
  simpa [B] using h
def R36 (l : List Nat) (m : Nat) (w : World) (out n : Value) (wr : World) : Prop := ∃ (k : Nat) (ys : List Nat), n = .int .u64 k ∧ wr.ownsRow w.heap.size 5 1 out ys.length (B ys) ∧ ys ++ enc k = l ++ enc m ∧ k ≤ m ∧ Below w.heap.size w wr
set_option maxRecDepth 100000 in
set_option maxHeartbeats 4000000 in
theorem c36 (v : Value) (l : List Nat) (m : Nat) (w : World) (h : Rd w v l) (hl : l.length ≤ 100000) (hm : m < 18446744073709551616) : Calls Tryz.prog 36 #[v, .int .u64 m] w (PutOut (l ++ enc m) w) := by
  obtain ⟨b, o, cap, rfl, hb, hr⟩ := h
  obtain ⟨i0, hi0, hz0, hz1, hz2⟩ := info_parts info5
  have hr0 : ∀ (j : Nat) (x : Value), (B l)[j]? = some x → (w.alloc (.cells #[] 5)).cell? ((⟨b, o, none⟩ : Addr).add j) = some x := fun j x hx => by
    have hj : j < (B l).length := (List.getElem?_eq_some_iff.1 hx).1
    rw [B_len] at hj
    have := hr j x hx
    rw [Addr.add_lit] at this ⊢
    exact (((Below.refl _ w).alloc (Nat.le_refl _) _).cell (p := ⟨b, o + j, none⟩) (hb (by omega))).trans this
  have HR := Lib.hid hr0
  clear hr hb hr0
  have H0 : (w.alloc (.cells #[] 5)).ownsRow w.heap.size 5 1 (.slice (some ⟨w.heap.size, 0, none⟩) 0 0) 0 [] := World.ownsRow_made w #[] 0 (Nat.le_refl _) (by unfold maxLen; omega) (by simp)
  have hz : 1 ≤ i0.size := by omega
  go_enter Tryz.func36, Tryz.ntmps36
  go_wp2_with (first
    | (at_builtin; refine wpList_append_own _ rfl _ _ 24 rfl w.heap.size 5 i0 (.int .u8 0) 1 1 Tryz.underlying24 hi0 hz0 hz1 hz2 rfl (by decide) _ 0 [] rfl H0 ⟨b, o, none⟩ l.length cap (B l) rfl (B_len l) HR.out (B_one l) (by unfold maxLen; omega) (by omega) (by simp) ?_; intro v1 w1 hown1 hgrow1 hnil1))
  rw [Nat.zero_add, List.nil_append] at hown1
  have hB1 : Below w.heap.size w w1 := ((Below.refl _ w).alloc (Nat.le_refl _) _).grown hgrow1 (by simp) (fun j hj => by cases hj; simp)
  clear hnil1 hgrow1 H0 HR
  go_loopw [5, 1] (fun out n wr => R36 l m w out n wr) (fun _ n _ => (intOf n).toNat)
  case atStart => exact ⟨m, l, rfl, hown1, rfl, Nat.le_refl _, hB1⟩
  case round =>
    obtain ⟨k, ys, rfl, hown, he, hk, hB⟩ := hrel
    have hlen : ys.length + (enc k).length = l.length + (enc m).length := by have := congrArg List.length he; simpa using this
    have hten := enc_ten hm
    have hyl : ys.length ≤ 100010 := by omega
    have hBs := hB.size
    clear hlen hten
    have HE := Lib.hid he; have HB := Lib.hid hB
    clear he hB
    by_cases hbig : 128 ≤ k
    · go_wp2_with (at_builtin; refine wpList_append_own _ rfl _ _ 24 rfl w.heap.size 5 i0 (.int .u8 0) 1 1 Tryz.underlying24 hi0 hz0 hz1 hz2 rfl (by decide) _ _ _ rfl (hown.alloc _) ⟨wr.heap.size, 0, none⟩ 1 1 [.int .u8 ((k : Int) % 128 + 128)] rfl rfl (one_new _ _ _) (by intro u hu; simp at hu; subst hu; rfl) (by unfold maxLen; omega) (by omega) (by simp; omega) ?_; intro v2 w2 hown2 hgrow2 hnil2)
      go_roundw
      case rel => exact ⟨k / 128, ys ++ [k % 128 + 128], by simp, own_snoc _ (by simp) hown2, by rw [← HE.out, enc_big hbig]; simp, by omega, (HB.out.alloc HB.out.size _).grown hgrow2 (by simp; omega) (fun j hj => (hown.lt j hj).1)⟩
      case measure => simp [intOf]; omega
    · go_wp2_with (at_builtin; refine wpList_append_own _ rfl _ _ 24 rfl w.heap.size 5 i0 (.int .u8 0) 1 1 Tryz.underlying24 hi0 hz0 hz1 hz2 rfl (by decide) _ _ _ rfl (hown.alloc _) ⟨wr.heap.size, 0, none⟩ 1 1 [.int .u8 (k : Int)] rfl rfl (one_new _ _ _) (by intro u hu; simp at hu; subst hu; rfl) (by unfold maxLen; omega) (by omega) (by simp; omega) ?_; intro v2 w2 hown2 hgrow2 hnil2)
      go_ret
      refine ⟨v2, rfl, ?_, (HB.out.alloc HB.out.size _).grown hgrow2 (by simp; omega) (fun j hj => (hown.lt j hj).1)⟩
      rw [← HE.out, enc_small (by omega)]
      exact own_snoc k rfl hown2
end Go.Proofs.PK
