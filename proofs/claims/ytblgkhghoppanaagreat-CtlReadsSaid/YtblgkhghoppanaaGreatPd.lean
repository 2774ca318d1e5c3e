/- Proved: contracts of single functions of the program and lemmas that they need; each theorem says its own conditions. -/
import Derived.Test.YtblgkhghoppanaaGreatPc
import Derived.Lib.AppendStr
set_option linter.unusedVariables false
set_option linter.unusedSimpArgs false
namespace Go.Proofs.PK
open Go.RowKit
/-- All are bytes. -/
def Byt (l : List Nat) : Prop := ∀ x ∈ l, x < 256
/-- A text of bytes. -/
def S (l : List Nat) : ByteArray := ⟨(l.map UInt8.ofNat).toArray⟩
theorem S_size (l : List Nat) : (S l).size = l.length := by simp [S, ByteArray.size]
theorem strCells_S {l : List Nat} (h : Byt l) : Lib.strCells (S l) = B l := by
  unfold Lib.strCells S B
  simp only [List.map_map]
  refine List.map_congr_left fun x hx => ?_
  have := h x hx
  simp [Function.comp, UInt8.toNat_ofNat', Nat.mod_eq_of_lt this]
theorem Byt.app {a b : List Nat} (ha : Byt a) (hb : Byt b) : Byt (a ++ b) := fun x hx => by
  rcases List.mem_append.1 hx with h | h
  · exact ha x h
  · exact hb x h
theorem enc_byt (n : Nat) : Byt (enc n) := by
  induction n using enc.induct with
  | case1 n h => rw [enc_small h]; intro x hx; simp at hx; omega
  | case2 n h ih =>
    rw [enc_big (by omega)]
    intro x hx
    rcases List.mem_cons.1 hx with rfl | h
    · omega
    · exact ih x h
set_option maxRecDepth 100000 in
set_option maxHeartbeats 400000 in
theorem d37 (v : Value) (l t : List Nat) (s : ByteArray) (w : World) (h : Rd w v l) (hl : l.length ≤ 90000) (ht : t.length ≤ 100000) (hs : Lib.strCells s = B t) (hsz : s.size = t.length) : Calls Tryz.prog 37 #[v, .string s] w (PutOut (l ++ enc t.length ++ t) w) := by
  obtain ⟨i0, hi0, hz0, hz1, hz2⟩ := info_parts info5
  have C36 := c36 v l t.length w h (by omega) (by omega)
  have hten := enc_ten (n := t.length) (by omega)
  have hL : (l ++ enc t.length).length ≤ 90010 := by rw [List.length_append]; omega
  generalize hq : l ++ enc t.length = q at *
  clear hq hten
  go_enter Tryz.func37, Tryz.ntmps37
  go_wp2_with (first
    | (go_at_call 36; refine C36.mono ?_; rintro e w1 ⟨v1, rfl, hown1, hB1⟩)
    | (at_builtin; refine Lib.wpList_append_own_string _ rfl _ _ 24 9 rfl w.heap.size 5 i0 Tryz.underlying24 Tryz.underlying9 hi0 hz0 hz1 hz2 v1 q.length (B q) rfl hown1 s rfl (by rw [hsz]; unfold maxLen; omega) (by rw [hsz]; omega) hB1.size ?_; intro v2 w2 hown2 hgrow2 hnil2))
  go_ret
  rw [hsz, hs, ← B_app, ← List.length_append] at hown2
  exact ⟨v2, rfl, hown2, hB1.grown hgrow2 hB1.size (fun j hj => (hown1.lt j hj).1)⟩
set_option maxRecDepth 100000 in
set_option maxHeartbeats 400000 in
theorem d33 (v : Value) (l t : List Nat) (s : ByteArray) (w : World) (h : Rd w v l) (hl : l.length ≤ 90000) (ht : t.length ≤ 100000) (hs : Lib.strCells s = B t) (hsz : s.size = t.length) : Calls Tryz.prog 33 #[v, .string s] w (PutOut (l ++ enc t.length ++ t) w) := by
  obtain ⟨i0, hi0, hz0, hz1, hz2⟩ := info_parts info5
  have C32 := c32 v l t.length w h (by omega) (by omega)
  have hten := enc_ten (n := t.length) (by omega)
  have hL : (l ++ enc t.length).length ≤ 90010 := by rw [List.length_append]; omega
  generalize hq : l ++ enc t.length = q at *
  clear hq hten
  go_enter Tryz.func33, Tryz.ntmps33
  go_wp2_with (first
    | (go_at_call 32; refine C32.mono ?_; rintro e w1 ⟨v1, rfl, hown1, hB1⟩)
    | (at_builtin; refine Lib.wpList_append_own_string _ rfl _ _ 24 9 rfl w.heap.size 5 i0 Tryz.underlying24 Tryz.underlying9 hi0 hz0 hz1 hz2 v1 q.length (B q) rfl hown1 s rfl (by rw [hsz]; unfold maxLen; omega) (by rw [hsz]; omega) hB1.size ?_; intro v2 w2 hown2 hgrow2 hnil2))
  go_ret
  rw [hsz, hs, ← B_app, ← List.length_append] at hown2
  exact ⟨v2, rfl, hown2, hB1.grown hgrow2 hB1.size (fun j hj => (hown1.lt j hj).1)⟩
end Go.Proofs.PK
