/- Proved: contracts of single functions of the program and lemmas that they need; each theorem says its own conditions. -/
import Derived.Deep.RegionHeld
import Derived.Test.YtblgkhghoppanaaGreatPl
set_option linter.unusedVariables false
set_option linter.unusedSimpArgs false
namespace Go.Proofs.PK
open Go.RowKit
def Tr (w : World) (e : Ending) (w' : World) : Prop := e = .returned (.bool true) ∧ Below w.heap.size w w'
set_option maxHeartbeats 1000000 in
theorem c9 (a b d : Nat) (p : Option Addr) (l cap : Nat) (w : World) : Calls Tryz.prog 9 #[argn a b d (.slice p l cap)] w fun e w' => e = .returned (.bool (decide (5000 < (l : Int)))) ∧ Below w.heap.size w w' := by
  go_enter Tryz.func9, Tryz.ntmps9
  go_wp2
  go_ret
  exact ⟨rfl, (Below.refl _ w).alloc (Nat.le_refl _) _⟩
/-- Four cells of a block. -/
def Q4 (n : Nat) (c0 c1 c2 c3 : Value) (W : World) : Prop := W.cell? ⟨n, 0, none⟩ = some c0 ∧ W.cell? ⟨n, 1, none⟩ = some c1 ∧ W.cell? ⟨n, 2, none⟩ = some c2 ∧ W.cell? ⟨n, 3, none⟩ = some c3
theorem Q4.mono {n : Nat} {c0 c1 c2 c3 : Value} {W W' : World} (h : Q4 n c0 c1 c2 c3 W) (hn : n < W.heap.size) (hB : Below W.heap.size W W') : Q4 n c0 c1 c2 c3 W' := by
  obtain ⟨hc, _⟩ := bcell hB
  exact ⟨(hc _ _ hn).trans h.1, (hc _ _ hn).trans h.2.1, (hc _ _ hn).trans h.2.2.1, (hc _ _ hn).trans h.2.2.2⟩
theorem q4_new (w : World) (c0 c1 c2 c3 : Value) (t : TypeId) : Q4 w.heap.size c0 c1 c2 c3 (w.alloc (.cells #[c0, c1, c2, c3] t)) := by
  obtain ⟨h0, h1, h2, h3, _⟩ := blk4 (heap_alloc_new w (.cells #[c0, c1, c2, c3] t))
  exact ⟨h0, h1, h2, h3⟩
theorem blt {w w' : World} {n : Nat} (hn : n < w.heap.size) (hB : Below w.heap.size w w') : n < w'.heap.size := Nat.lt_of_lt_of_le hn hB.size
theorem rdn_slice {w : World} {v : Value} {l : List Nat} (h : RdN w v l) : ∃ p l c, v = .slice p l c := by
  rcases h with ⟨c, rfl, _⟩ | ⟨b, o, cap, rfl, _⟩
  · exact ⟨_, _, _, rfl⟩
  · exact ⟨_, _, _, rfl⟩
theorem rdc_of_own {w : World} {base : Nat} {v : Value} {l : List Nat} (h : w.ownsRow base 5 1 v l.length (B l)) (hl : 0 < l.length) : RdC w v l := by
  rcases h.2 with ⟨_, h0⟩ | ⟨g, cap, cur, rfl, h1, h2, h3, _⟩
  · omega
  · refine ⟨g, 0, cap, rfl, h3, fun _ => (Array.getElem?_eq_some_iff.1 h2).1, fun j x hx => ?_⟩
    have := h.cells (g := g) rfl j (.int .u8 x) (by unfold B; rw [List.getElem?_map, hx]; rfl)
    rwa [Addr.add_lit] at this
set_option maxRecDepth 100000 in
set_option maxHeartbeats 1000000 in
theorem law3g (a b d : Nat) (p : Option Addr) (l cap : Nat) (w : World) (h5 : 5000 < l) (hfix : ∀ w', Below w.heap.size w w' → Calls Tryz.prog 10 #[] w' (Tr w')) : Calls Tryz.prog 3 #[argn a b d (.slice p l cap)] w (Tr w) := by
  have hB1 : Below w.heap.size w (boxed a b d (.slice p l cap) w) := (Below.refl _ w).alloc (Nat.le_refl _) _
  have HB1 := Lib.hid hB1
  clear hB1
  go_enter Tryz.func3, Tryz.ntmps3
  go_wp2_with (first
    | (go_at_call 9; refine (c9 a b d p l cap _).mono ?_; rintro e w2 ⟨rfl, hB2⟩; have hB2' := btrans HB1.out hB2)
    | (go_at_call 10; refine (hfix _ hB2').mono ?_; rintro e w3 ⟨rfl, hB3⟩; have hB3' := btrans hB2' hB3))
  all_goals go_ret
  all_goals exact ⟨rfl, hB3'⟩
set_option maxRecDepth 100000 in
set_option maxHeartbeats 1000000 in
theorem law3 (a b d : Nat) (p : Option Addr) (l cap : Nat) (q q2 : List Nat) (w : World) (hq2 : 0 < q2.length)
    (h5 : ¬ 5000 < l) (hfix : ∀ w', Below w.heap.size w w' → Calls Tryz.prog 10 #[] w' (Tr w'))
    (hown : ∀ w', Below w.heap.size w w' → Calls Tryz.prog 12 #[argn a b d (.slice p l cap)] w' (OwnOut a b d q w')) 
    (hput : ∀ sv w', RdN w' sv q → Calls Tryz.prog 11 #[argn a b d sv] w' (PutOut q2 w'))
    (hput' : ∀ w', Below w.heap.size w w' → Calls Tryz.prog 14 #[argn a b d (.slice p l cap)] w' (PutOut q2 w'))
    (hget : ∀ sv w', RdC w' sv q2 → Calls Tryz.prog 13 #[sv] w' (GotC (.ok (a, b, d, q)) w'))
    (hsame : ∀ sv w', Below w.heap.size w w' → RdN w' sv q → Calls Tryz.prog 15 #[argn a b d (.slice p l cap), argn a b d sv] w' (Tr w'))
    (s : ByteArray) (hconv : ∀ sv w', RdN w' sv q2 → (convert 24 9 sv).run Tryz.prog w' = .ok (.string s) w') :
    Calls Tryz.prog 3 #[argn a b d (.slice p l cap)] w (Tr w) := by
  have hB1 : Below w.heap.size w (boxed a b d (.slice p l cap) w) := (Below.refl _ w).alloc (Nat.le_refl _) _
  have K1 := q4_new w (.int .u8 (a : Int)) (.int .u32 (b : Int)) (.int .u64 (d : Int)) (.slice p l cap) 26
  have L1 : w.heap.size < (boxed a b d (.slice p l cap) w).heap.size := by simp
  have HB1 := Lib.hid hB1; have HK1 := Lib.hid K1; have HL1 := Lib.hid L1
  have HCONV := Lib.hid hconv
  clear hB1 K1 L1 hconv
  go_enter Tryz.func3, Tryz.ntmps3
  go_wp2_with (first
    | (go_at_call 9; refine (c9 a b d p l cap _).mono ?_; rintro e w2 ⟨rfl, hB2⟩; have hB2' := btrans HB1.out hB2; have k2 := HK1.out.mono HL1.out hB2; have l2 := blt HL1.out hB2; obtain ⟨x0, x1, x2, x3⟩ := id k2)
    | (go_at_call 12; refine (hown _ hB2').mono ?_; rintro e w3 ⟨sv, rfl, hr3, hB3⟩; have hB3' := btrans hB2' hB3; have k3 := k2.mono l2 hB3; have l3 := blt l2 hB3)
    | (go_at_call 11; refine (hput _ _ hr3).mono ?_; rintro e w4 ⟨v4, rfl, hown4, hB4⟩; have hB4' := btrans hB3' hB4; have k4 := k3.mono l3 hB4; have l4 := blt l3 hB4)
    | (go_at_call 13; refine (hget _ _ (rdc_of_own hown4 hq2)).mono ?_; rintro e w5 ⟨sv5, rfl, hr5, hB5⟩; have hB5' := btrans hB4' hB5; have k5 := k4.mono l4 hB5; have l5 := blt l4 hB5; have r5 := (rd_of_own hown4 hq2).mono hB5; obtain ⟨p5, n5, m5, rfl⟩ := rdn_slice hr5))
  clear x0 x1 x2 x3 k2 l2 k3 l3 k4 l4 hB2 hB3 hB4 hB5 hB2' hB3' hB4' hr3 hown4
  have hB6 : Below w5.heap.size w5 (w5.alloc (.cells #[.int .u8 (a : Int), .int .u32 (b : Int), .int .u64 (d : Int), .slice p5 n5 m5] 26)) := (Below.refl _ _).alloc (Nat.le_refl _) _
  have m6 := q4_new w5 (.int .u8 (a : Int)) (.int .u32 (b : Int)) (.int .u64 (d : Int)) (.slice p5 n5 m5) 26
  have n6 : w5.heap.size < (w5.alloc (.cells #[.int .u8 (a : Int), .int .u32 (b : Int), .int .u64 (d : Int), .slice p5 n5 m5] 26)).heap.size := by simp
  generalize w5.alloc (.cells #[.int .u8 (a : Int), .int .u32 (b : Int), .int .u64 (d : Int), .slice p5 n5 m5] 26) = W6 at *
  have hB6' := btrans hB5' hB6
  have k6 := k5.mono l5 hB6
  have l6 := blt l5 hB6
  have r6 := r5.mono hB6
  have s6 := hr5.mono hB6
  obtain ⟨x0, x1, x2, x3⟩ := id k6
  obtain ⟨y0, y1, y2, y3⟩ := id m6
  have cv6 := HCONV.out _ W6.drew (.inr r6.drew)
  clear hB6 hB5' k5 l5 r5 hr5
  have hB6d := hB6'.drew
  have k6d : Q4 w.heap.size (.int .u8 (a : Int)) (.int .u32 (b : Int)) (.int .u64 (d : Int)) (.slice p l cap) W6.drew := k6
  have m6d : Q4 w5.heap.size (.int .u8 (a : Int)) (.int .u32 (b : Int)) (.int .u64 (d : Int)) (.slice p5 n5 m5) W6.drew := m6
  have l6d : w.heap.size < W6.drew.heap.size := l6
  have n6d : w5.heap.size < W6.drew.heap.size := n6
  have r6d : Rd W6.drew v4 q2 := r6
  have s6d : RdN W6.drew (.slice p5 n5 m5) q := s6
  clear hB6' k6 m6 r6 s6
  go_region_held (fun w' => w'.cell? ⟨w.heap.size, 0, none⟩ = some (.int .u8 a) ∧ w'.cell? ⟨w.heap.size, 1, none⟩ = some (.int .u32 b) ∧ w'.cell? ⟨w.heap.size, 2, none⟩ = some (.int .u64 d) ∧ w'.cell? ⟨w.heap.size, 3, none⟩ = some (.slice p l cap) ∧ w'.cell? ⟨w5.heap.size, 0, none⟩ = some (.int .u8 a) ∧ w'.cell? ⟨w5.heap.size, 1, none⟩ = some (.int .u32 b) ∧ w'.cell? ⟨w5.heap.size, 2, none⟩ = some (.int .u64 d) ∧ w'.cell? ⟨w5.heap.size, 3, none⟩ = some (.slice p5 n5 m5) ∧ (convert 24 9 v4).run Tryz.prog w' = .ok (.string s) w')
    (go_keep)
    (first
      | (go_at_call 10; refine (hfix _ hB6d).mono ?_; rintro e w7 ⟨rfl, hB7⟩; have hB7' := btrans hB6d hB7; have k7 := k6d.mono l6d hB7; have l7 := blt l6d hB7; have m7 := m6d.mono n6d hB7; have n7 := blt n6d hB7; have r7 := r6d.mono hB7; have s7 := s6d.mono hB7; obtain ⟨x70, x71, x72, x73⟩ := id k7; obtain ⟨y70, y71, y72, y73⟩ := id m7; have cv7 := HCONV.out _ _ (.inr r7))
      | (go_at_call 14; refine (hput' _ hB7').mono ?_; rintro e w8 ⟨v8, rfl, hown8, hB8⟩; have hB8' := btrans hB7' hB8; have k8 := k7.mono l7 hB8; have l8 := blt l7 hB8; have m8 := m7.mono n7 hB8; have n8 := blt n7 hB8; have r8 := r7.mono hB8; have s8 := s7.mono hB8; obtain ⟨x80, x81, x82, x83⟩ := id k8; obtain ⟨y80, y81, y82, y83⟩ := id m8; have cv8 := HCONV.out _ _ (.inr r8); have cw8 := HCONV.out _ _ (.inr (rd_of_own hown8 hq2)))
      | (go_at_call 15; refine (hsame _ _ hB8' s8).mono ?_; rintro e w9 ⟨rfl, hB9⟩; have hB9' := btrans hB8' hB9; have k9 := k8.mono l8 hB9; have m9 := m8.mono n8 hB9; have r9 := r8.mono hB9; obtain ⟨x90, x91, x92, x93⟩ := id k9; obtain ⟨y90, y91, y92, y93⟩ := id m9; have cv9 := HCONV.out _ _ (.inr r9)))
  rename_i hS
  clear hS
  go_wp2
  go_ret
  exact ⟨rfl, hB9'⟩
end Go.Proofs.PK
