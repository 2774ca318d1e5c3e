/- Proved: what a mail's key comes to, and 'cut', 'New', 'fixed'. Each theorem says its own conditions. -/
import Derived.Test.YtopnmikijbajfaaNi
set_option linter.unusedVariables false
set_option linter.unusedSimpArgs false
namespace Go.Proofs.NT
open Go.RowKit Go.Ai
def u8 (n : Int) : UInt8 := UInt8.ofNat n.toNat
theorem u8_eq {n : Int} (h : 0 ≤ n) (h2 : n < 256) : (((u8 n).toNat : Nat) : Int) = n := by
  unfold u8
  rw [UInt8.toNat_ofNat']
  omega
def keyB (a b : Int) : List UInt8 := [u8 (a % 256), u8 (a / 256 % 256), u8 (a / 65536 % 256), u8 (a / 16777216), u8 (b % 256), u8 (b / 256 % 256), u8 (b / 65536 % 256), u8 (b / 16777216)]
def kf (a b : Int) (s : List UInt8) : ByteArray := (⟨(keyB a b).toArray⟩ : ByteArray) ++ (⟨s.toArray⟩ : ByteArray)
set_option maxRecDepth 100000 in
set_option maxHeartbeats 1000000 in
theorem c7 (a b : Int) (s : List UInt8) (w : World) (ha : 0 ≤ a) (ha2 : a < 4294967296) (hb : 0 ≤ b) (hb2 : b < 4294967296) (hs : s.length ≤ 20000) : Calls Try.prog 7 #[.int .u32 a, .int .u32 b, .string ⟨s.toArray⟩] w fun e w' => e = .returned (.string (kf a b s)) ∧ Below w.heap.size w w' := by
  have hcv : (convert 28 9 (.slice (some ⟨w.heap.size, 0, none⟩) 8 8)).run Try.prog (w.alloc (.cells #[.int .u8 (a % 256), .int .u8 (a / 256 % 256), .int .u8 (a / 65536 % 256), .int .u8 (a / 16777216), .int .u8 (b % 256), .int .u8 (b / 256 % 256), .int .u8 (b / 65536 % 256), .int .u8 (b / 16777216)] 5)) = .ok (.string ⟨(keyB a b).toArray⟩) (w.alloc (.cells #[.int .u8 (a % 256), .int .u8 (a / 256 % 256), .int .u8 (a / 65536 % 256), .int .u8 (a / 16777216), .int .u8 (b % 256), .int .u8 (b / 256 % 256), .int .u8 (b / 65536 % 256), .int .u8 (b / 16777216)] 5)) := by
    refine conv_bin (s := keyB a b) (.inr ⟨w.heap.size, 0, 8, rfl, fun _ => by simp, fun j x hx => ?_⟩)
    rw [cell_of_heap (heap_alloc_new w _), Nat.zero_add]
    simp only [B, keyB, List.map_cons, List.map_nil] at hx
    rw [u8_eq (by omega) (by omega), u8_eq (by omega) (by omega), u8_eq (by omega) (by omega), u8_eq (by omega) (by omega), u8_eq (by omega) (by omega), u8_eq (by omega) (by omega), u8_eq (by omega) (by omega), u8_eq (by omega) (by omega)] at hx
    simpa using hx
  have hlk : ¬ (9223372036854775807 < (keyB a b).length + s.length) := by simp [keyB]; omega
  go_enter Try.func7, Try.ntmps7
  go_wp2
  go_ret
  exact ⟨rfl, (Below.refl _ w).alloc (Nat.le_refl _) _⟩
theorem c6 (w : World) : Calls Try.prog 6 #[] w fun e w' => e = .returned (nptr w.heap.size) ∧ w' = w.alloc (.cells #[.slice none 0 0] 56) := by
  go_enter Try.func6, Try.ntmps6
  go_wp2
  go_ret
  exact ⟨rfl, rfl⟩
theorem net_new (w : World) : NetAt (fun b => b = w.heap.size) w.heap.size [] (w.alloc (.cells #[.slice none 0 0] 56)) :=
  ⟨.slice none 0 0, [], heap_alloc_new w _, World.ownsRow_nil _ _ _ _, (fun g h => by cases h), rfl, Rows.nil⟩
theorem progOk' : Go.Ai.progOk Try.prog = true := by kernel_rfl
theorem c13 (w : World) : Calls Try.prog 13 #[] w fun e w' => e = .returned (.bool true) ∧ Below w.heap.size w w' :=
  Go.Ai.ai_closed progOk' (Checked.mixed Try.checked) 1000 200 13 [] (.bool true) rfl (Go.Ai.fast_true (by kernel_rfl)) rfl w
/-- An operation that came in lies there. -/
structure Opr where
  kd : Int
  a : Int
  b : Int
  s : List UInt8
  k : Int
def OpAt (W : World) (b o : Nat) (x : Opr) : Prop := ∃ p c, b < W.heap.size ∧ W.cell? ⟨b, o, none⟩ = some (.int .i64 x.kd) ∧ W.cell? ⟨b, o + 1, none⟩ = some (.int .u32 x.a) ∧ W.cell? ⟨b, o + 2, none⟩ = some (.int .u32 x.b) ∧ W.cell? ⟨b, o + 3, none⟩ = some (.slice p x.s.length c) ∧ W.cell? ⟨b, o + 4, none⟩ = some (.int .i64 x.k) ∧
  (x.s.length ≤ 20000 → BIn W (.slice p x.s.length c) x.s)
theorem OpAt.mono {W W' : World} {b o : Nat} {x : Opr} (h : OpAt W b o x) (hB : Below W.heap.size W W') : OpAt W' b o x := by
  obtain ⟨p, c, hb, h0, h1, h2, h3, h4, h5⟩ := h
  have hc := fun j => (bcell hB).1 b j hb
  exact ⟨p, c, Nat.lt_of_lt_of_le hb hB.size, (hc _).trans h0, (hc _).trans h1, (hc _).trans h2, (hc _).trans h3, (hc _).trans h4, fun hs => (h5 hs).mono hB⟩
/-- What 'cut' lets through. -/
def CutOut (b o l c : Nat) (xs : List Opr) (W : World) (e : Ending) (w' : World) : Prop := ∃ n, e = .returned (.slice (some ⟨b, o, none⟩) n c) ∧ n ≤ l ∧ n ≤ 201 ∧ (∀ (i : Nat) (x : Opr), i < n → xs[i]? = some x → x.s.length ≤ 6000) ∧ Below W.heap.size W w'
set_option maxRecDepth 100000 in
set_option maxHeartbeats 4000000 in
theorem c8 (b o l c : Nat) (W : World) (xs : List Opr) (hl : xs.length = l) (hlc : l ≤ c) (hmax : c ≤ 9223372036854775807) (hops : ∀ (i : Nat) (x : Opr), xs[i]? = some x → OpAt W b (o + i * 5) x) (hlen : ∀ (i : Nat) (x : Opr), xs[i]? = some x → x.s.length ≤ 9223372036854775807) :
    Calls Try.prog 8 #[.slice (some ⟨b, o, none⟩) l c] W (CutOut b o l c xs W) := by
  have HO := Lib.hid hops
  have HLN := Lib.hid hlen
  have HL := Lib.hid hl
  clear hops hlen hl
  go_enter Try.func8, Try.ntmps8
  go_wp2
  go_loopw [3, 8] (fun sz i wr => ∃ (k : Nat) (z : Int), i = .int .i64 k ∧ k ≤ l ∧ k ≤ 201 ∧ sz = .int .i64 z ∧ 0 ≤ z ∧ z ≤ 6000 ∧ (∀ (i : Nat) (x : Opr), i < k → xs[i]? = some x → x.s.length ≤ 6000) ∧ Below W.heap.size W wr) (fun _ i _ => l - (intOf i).toNat)
  case atStart => exact ⟨0, 0, rfl, Nat.zero_le _, by omega, rfl, by omega, by omega, fun i x h => by omega, Below.refl _ _⟩
  case round =>
    obtain ⟨k, z, rfl, hk, hk2, rfl, hz0, hz1, hsm, hB⟩ := hrel
    have HS := Lib.hid hsm; have HB := Lib.hid hB
    clear hsm
    by_cases hlt : k < l
    · obtain ⟨x, hx⟩ : ∃ x, xs[k]? = some x := ⟨_, List.getElem?_eq_getElem (by rw [HL.out]; exact hlt)⟩
      obtain ⟨p, c', hb, y0, y1, y2, y3, y4, _⟩ := (HO.out k x hx).mono hB
      obtain ⟨kd, xa, xb, xsb, xk⟩ := x
      simp only at *
      have hln := HLN.out k _ hx
      simp only at hln
      have HX := Lib.hid hx
      clear hB hx
      generalize hSL : xsb.length = sl at *
      have HSL := Lib.hid hSL
      clear hSL
      by_cases h200 : 200 < k
      · have h200' : decide ((200 : Int) < (k : Int)) = true := by simp; omega
        go_wp2
        all_goals (go_ret; exact ⟨k, rfl, hk, hk2, HS.out, HB.out.alloc HB.out.size _⟩)
      · have h200' : decide ((200 : Int) < (k : Int)) = false := by simp; omega
        by_cases h9 : (sl : Int) ≤ 90000
        · by_cases h6 : z + (sl : Int) ≤ 6000
          · have h6' : decide ((6000 : Int) < z + (sl : Int)) = false := by simp; omega
            go_wp2
            go_roundw
            case rel =>
              refine ⟨k + 1, z + sl, by go_num, by omega, by omega, rfl, by omega, h6, fun i x hi hx => ?_, HB.out.alloc HB.out.size _⟩
              by_cases hik : i = k
              · subst hik
                have := HX.out
                rw [hx] at this
                cases this
                show xsb.length ≤ 6000
                rw [HSL.out]; omega
              · exact HS.out i x (by omega) hx
            case measure => simp [intOf]; omega
          · have h6' : decide ((6000 : Int) < z + (sl : Int)) = true := by simp; omega
            go_wp2
            go_ret
            exact ⟨k, rfl, hk, hk2, HS.out, HB.out.alloc HB.out.size _⟩
        · have h6' : decide ((6000 : Int) < z + 90000) = true := by simp; omega
          go_wp2
          go_ret
          exact ⟨k, rfl, hk, hk2, HS.out, HB.out.alloc HB.out.size _⟩
    · go_wp2
      go_ret
      exact ⟨l, rfl, Nat.le_refl _, by omega, fun i x hi => HS.out i x (by omega), hB⟩
end Go.Proofs.NT
