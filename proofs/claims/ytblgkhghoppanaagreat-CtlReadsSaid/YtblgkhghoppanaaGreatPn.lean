/- Proved: contracts of single functions of the program and lemmas that they need; each theorem says its own conditions. -/
import Derived.Test.YtblgkhghoppanaaGreatPm
set_option linter.unusedVariables false
set_option linter.unusedSimpArgs false
namespace Go.Proofs.PK
open Go.RowKit
def GotE (a b d er : Nat) (q : List Nat) (w : World) (e : Ending) (w' : World) : Prop := ∃ sv, e = .returned (.tuple #[argn a b d sv, .int .i64 er]) ∧ RdN w' sv q ∧ Below w.heap.size w w'
set_option maxRecDepth 100000 in
set_option maxHeartbeats 1000000 in
theorem law4g (p : Option Addr) (l cap : Nat) (w : World) (h5 : 3000 < l) (hfix : ∀ w', Below w.heap.size w w' → Calls Tryz.prog 10 #[] w' (Tr w')) : Calls Tryz.prog 4 #[.slice p l cap] w (Tr w) := by
  go_enter Tryz.func4, Tryz.ntmps4
  go_wp2_with (first
    | (go_at_call 10; refine (hfix _ (Below.refl _ _)).mono ?_; rintro e w3 ⟨rfl, hB3⟩))
  all_goals go_ret
  all_goals exact ⟨rfl, hB3⟩
set_option maxRecDepth 100000 in
set_option maxHeartbeats 1000000 in
theorem law4e (a b d er : Nat) (p : Option Addr) (l cap : Nat) (q : List Nat) (w : World) (h5 : ¬ 3000 < l) (he : ¬ er = 0)
    (hfix : ∀ w', Below w.heap.size w w' → Calls Tryz.prog 10 #[] w' (Tr w'))
    (hget : ∀ w', Below w.heap.size w w' → Calls Tryz.prog 13 #[.slice p l cap] w' (GotE a b d er q w'))
    (hget' : ∀ w', Below w.heap.size w w' → Calls Tryz.prog 16 #[.slice p l cap] w' (GotE a b d er q w'))
    (hsame : ∀ s1 s2 w', RdN w' s1 q → RdN w' s2 q → Calls Tryz.prog 15 #[argn a b d s1, argn a b d s2] w' (Tr w')) :
    Calls Tryz.prog 4 #[.slice p l cap] w (Tr w) := by
  have hb : ((er : Int) != 0) = true := by simpa using he
  go_enter Tryz.func4, Tryz.ntmps4
  go_wp2_with (first
    | (go_at_call 13; refine (hget _ (Below.refl _ _)).mono ?_; rintro e w2 ⟨sv2, rfl, hr2, hB2⟩; obtain ⟨p2, n2, m2, rfl⟩ := rdn_slice hr2))
  have hB3 : Below w2.heap.size w2 (w2.alloc (.cells #[.int .u8 (a : Int), .int .u32 (b : Int), .int .u64 (d : Int), .slice p2 n2 m2] 26)) := (Below.refl _ _).alloc (Nat.le_refl _) _
  have m3 := q4_new w2 (.int .u8 (a : Int)) (.int .u32 (b : Int)) (.int .u64 (d : Int)) (.slice p2 n2 m2) 26
  have n3 : w2.heap.size < (w2.alloc (.cells #[.int .u8 (a : Int), .int .u32 (b : Int), .int .u64 (d : Int), .slice p2 n2 m2] 26)).heap.size := by simp
  generalize w2.alloc (.cells #[.int .u8 (a : Int), .int .u32 (b : Int), .int .u64 (d : Int), .slice p2 n2 m2] 26) = W3 at *
  have hB3' := btrans hB2 hB3
  have s3 := hr2.mono hB3
  clear hB2 hB3 hr2
  go_wp2_with (first
    | (go_at_call 16; refine (hget' _ hB3').mono ?_; rintro e w4 ⟨sv4, rfl, hr4, hB4⟩; obtain ⟨p4, n4, m4, rfl⟩ := rdn_slice hr4; have hB4' := btrans hB3' hB4; have r4 := s3.mono hB4; have k4 := m3.mono n3 hB4; have l4 := blt n3 hB4))
  have hB5 : Below w4.heap.size w4 (w4.alloc (.cells #[.int .u8 (a : Int), .int .u32 (b : Int), .int .u64 (d : Int), .slice p4 n4 m4] 26)) := (Below.refl _ _).alloc (Nat.le_refl _) _
  have m5 := q4_new w4 (.int .u8 (a : Int)) (.int .u32 (b : Int)) (.int .u64 (d : Int)) (.slice p4 n4 m4) 26
  have n5 : w4.heap.size < (w4.alloc (.cells #[.int .u8 (a : Int), .int .u32 (b : Int), .int .u64 (d : Int), .slice p4 n4 m4] 26)).heap.size := by simp
  generalize w4.alloc (.cells #[.int .u8 (a : Int), .int .u32 (b : Int), .int .u64 (d : Int), .slice p4 n4 m4] 26) = W5 at *
  have hB5' := btrans hB4' hB5
  have k5 := k4.mono l4 hB5
  have l5 := blt l4 hB5
  have r5 := r4.mono hB5
  have s5 := hr4.mono hB5
  clear hB4' hB4 hB5 k4 l4 r4 hr4 m3 n3 hB3' s3
  go_wp2_with (first
    | (go_at_call 10; refine (hfix _ hB5').mono ?_; rintro e w6 ⟨rfl, hB6⟩; have hB6' := btrans hB5' hB6; have k6 := k5.mono l5 hB6; have l6 := blt l5 hB6; have m6 := m5.mono n5 hB6; have n6 := blt n5 hB6; have r6 := r5.mono hB6; have s6 := s5.mono hB6; obtain ⟨x0, x1, x2, x3⟩ := id k6; obtain ⟨y0, y1, y2, y3⟩ := id m6)
    | (go_at_call 15; refine (hsame _ _ _ r6 s6).mono ?_; rintro e w7 ⟨rfl, hB7⟩; have hB7' := btrans hB6' hB7; have k7 := k6.mono l6 hB7; have l7 := blt l6 hB7; have r7 := r6.mono hB7; obtain ⟨z0, z1, z2, z3⟩ := id k7))
  clear hB5' k5 l5 m5 n5 r5 s5 hB6 k6 l6 m6 n6 r6 s6 x0 x1 x2 x3 y0 y1 y2 y3 hB6' hB7
  go_region
  all_goals go_wp2
  all_goals go_ret
  all_goals exact ⟨rfl, hB7'.drew⟩
set_option maxRecDepth 100000 in
set_option maxHeartbeats 1000000 in
theorem law4o (a b d er : Nat) (p : Option Addr) (l cap : Nat) (q q2 : List Nat) (w : World) (h5 : ¬ 3000 < l) (he : er = 0)
    (hfix : ∀ w', Below w.heap.size w w' → Calls Tryz.prog 10 #[] w' (Tr w'))
    (hget : ∀ w', Below w.heap.size w w' → Calls Tryz.prog 13 #[.slice p l cap] w' (GotE a b d er q w'))
    (hget' : ∀ w', Below w.heap.size w w' → Calls Tryz.prog 16 #[.slice p l cap] w' (GotE a b d er q w'))
    (hsame : ∀ s1 s2 w', RdN w' s1 q → RdN w' s2 q → Calls Tryz.prog 15 #[argn a b d s1, argn a b d s2] w' (Tr w'))
    (hput : ∀ sv w', RdN w' sv q → Calls Tryz.prog 11 #[argn a b d sv] w' (PutOut q2 w'))
    (s : ByteArray) (hcv : ∀ w', Below w.heap.size w w' → (convert 24 9 (.slice p l cap)).run Tryz.prog w' = .ok (.string s) w') (hcw : ∀ sv w', RdN w' sv q2 → (convert 24 9 sv).run Tryz.prog w' = .ok (.string s) w') :
    Calls Tryz.prog 4 #[.slice p l cap] w (Tr w) := by
  subst he
  have HCV := Lib.hid hcv
  have HCW := Lib.hid hcw
  clear hcv hcw
  go_enter Tryz.func4, Tryz.ntmps4
  go_wp2_with (first
    | (go_at_call 13; refine (hget _ (Below.refl _ _)).mono ?_; rintro e w2 ⟨sv2, rfl, hr2, hB2⟩; obtain ⟨p2, n2, m2, rfl⟩ := rdn_slice hr2))
  have hB3 : Below w2.heap.size w2 (w2.alloc (.cells #[.int .u8 (a : Int), .int .u32 (b : Int), .int .u64 (d : Int), .slice p2 n2 m2] 26)) := (Below.refl _ _).alloc (Nat.le_refl _) _
  have m3 := q4_new w2 (.int .u8 (a : Int)) (.int .u32 (b : Int)) (.int .u64 (d : Int)) (.slice p2 n2 m2) 26
  have n3 : w2.heap.size < (w2.alloc (.cells #[.int .u8 (a : Int), .int .u32 (b : Int), .int .u64 (d : Int), .slice p2 n2 m2] 26)).heap.size := by simp
  generalize w2.alloc (.cells #[.int .u8 (a : Int), .int .u32 (b : Int), .int .u64 (d : Int), .slice p2 n2 m2] 26) = W3 at *
  have hB3' := btrans hB2 hB3
  have s3 := hr2.mono hB3
  clear hB2 hB3 hr2
  go_wp2_with (first
    | (go_at_call 16; refine (hget' _ hB3').mono ?_; rintro e w4 ⟨sv4, rfl, hr4, hB4⟩; obtain ⟨p4, n4, m4, rfl⟩ := rdn_slice hr4; have hB4' := btrans hB3' hB4; have r4 := s3.mono hB4; have k4 := m3.mono n3 hB4; have l4 := blt n3 hB4))
  have hB5 : Below w4.heap.size w4 (w4.alloc (.cells #[.int .u8 (a : Int), .int .u32 (b : Int), .int .u64 (d : Int), .slice p4 n4 m4] 26)) := (Below.refl _ _).alloc (Nat.le_refl _) _
  have m5 := q4_new w4 (.int .u8 (a : Int)) (.int .u32 (b : Int)) (.int .u64 (d : Int)) (.slice p4 n4 m4) 26
  have n5 : w4.heap.size < (w4.alloc (.cells #[.int .u8 (a : Int), .int .u32 (b : Int), .int .u64 (d : Int), .slice p4 n4 m4] 26)).heap.size := by simp
  generalize w4.alloc (.cells #[.int .u8 (a : Int), .int .u32 (b : Int), .int .u64 (d : Int), .slice p4 n4 m4] 26) = W5 at *
  have hB5' := btrans hB4' hB5
  have k5 := k4.mono l4 hB5
  have l5 := blt l4 hB5
  have r5 := r4.mono hB5
  have s5 := hr4.mono hB5
  clear hB4' hB4 hB5 k4 l4 r4 hr4 m3 n3 hB3' s3
  go_wp2_with (first
    | (go_at_call 10; refine (hfix _ hB5').mono ?_; rintro e w6 ⟨rfl, hB6⟩; have hB6' := btrans hB5' hB6; have k6 := k5.mono l5 hB6; have l6 := blt l5 hB6; have m6 := m5.mono n5 hB6; have n6 := blt n5 hB6; have r6 := r5.mono hB6; have s6 := s5.mono hB6; obtain ⟨x0, x1, x2, x3⟩ := id k6; obtain ⟨y0, y1, y2, y3⟩ := id m6)
    | (go_at_call 15; refine (hsame _ _ _ r6 s6).mono ?_; rintro e w7 ⟨rfl, hB7⟩; have hB7' := btrans hB6' hB7; have k7 := k6.mono l6 hB7; have l7 := blt l6 hB7; have r7 := r6.mono hB7; obtain ⟨z0, z1, z2, z3⟩ := id k7))
  clear hB5' k5 l5 m5 n5 r5 s5 hB6 k6 l6 m6 n6 r6 s6 x0 x1 x2 x3 y0 y1 y2 y3 hB6' hB7
  have hB7d := hB7'.drew
  have k7d : Q4 w2.heap.size (.int .u8 (a : Int)) (.int .u32 (b : Int)) (.int .u64 (d : Int)) (.slice p2 n2 m2) w7.drew := k7
  have l7d : w2.heap.size < w7.drew.heap.size := l7
  have r7d : RdN w7.drew (.slice p2 n2 m2) q := r7
  have cv7 := HCV.out _ hB7d
  clear k7 l7 r7 hB7'
  go_region_held (fun w' => w'.cell? ⟨w2.heap.size, 0, none⟩ = some (.int .u8 a) ∧ w'.cell? ⟨w2.heap.size, 1, none⟩ = some (.int .u32 b) ∧ w'.cell? ⟨w2.heap.size, 2, none⟩ = some (.int .u64 d) ∧ w'.cell? ⟨w2.heap.size, 3, none⟩ = some (.slice p2 n2 m2) ∧ (convert 24 9 (.slice p l cap)).run Tryz.prog w' = .ok (.string s) w')
    (go_keep)
    (first
      | (go_at_call 11; refine (hput _ _ r7d).mono ?_; rintro e w8 ⟨v8, rfl, hown8, hB8⟩; have hB8' := btrans hB7d hB8; have k8 := k7d.mono l7d hB8; obtain ⟨u0, u1, u2, u3⟩ := id k8; have cv8 := HCV.out _ hB8'; have cw8 := HCW.out _ _ (rdn_of_own hown8)))
  rename_i hS
  clear hS
  go_wp2
  go_ret
  exact ⟨rfl, hB8'⟩
end Go.Proofs.PK
