/- Proved: how an act of the document's disk begins. Each theorem says its own conditions. -/
import Derived.Test.YteleocgomdhcfaaKd
set_option linter.unusedVariables false
set_option linter.unusedSimpArgs false
namespace Go.Proofs.DK
open Go.RowKit
theorem heap_two (w : World) (a b : Obj) : ((w.alloc a).alloc b).heap[w.heap.size + 1]? = some b := by
  have h := heap_alloc_new (w.alloc a) b
  simpa using h
theorem cellof {w : World} {b : Nat} {c : Array Value} {t : TypeId} {fz : Nat × Nat} (h : w.heap[b]? = some (.cells c t fz)) (j : Nat) : w.cell? ⟨b, j, none⟩ = c[j]? := by
  unfold World.cell?
  rw [h]
  rfl
theorem frozenof {w : World} {b : Nat} {c : Array Value} {t : TypeId} (h : w.heap[b]? = some (.cells c t (0, 0))) (j : Nat) : w.frozen? ⟨b, j, none⟩ = false := by
  unfold World.frozen?
  rw [h]
  simp
set_option maxHeartbeats 2000000 in
theorem c39 (S : Ds) (p : Option Addr) (l c : Nat) (w : World) (h0 : 0 ≤ S.falls) (h1 : S.falls ≤ 100000) (h2 : 0 ≤ S.fuse) (h3 : S.fuse ≤ 9223372036854775807) : Calls Try.prog 39 #[MV S (.slice p l c)] w fun e w' => e = .returned (.tuple #[.int .i64 S.how, MV S.begin (.slice p l c)]) ∧ Below w.heap.size w w' := by
  rcases how_cases S with ⟨e, hd⟩ | ⟨e, hd, hf, hz⟩ | ⟨e, hd, hf⟩
  · have eb : S.begin = S := by simp [Ds.begin, hd]
    rw [e, eb]
    obtain ⟨room, fs, down, falls, fused, fuse, part⟩ := S
    simp only at h0 h1 h2 h3 hd
    clear e eb
    subst hd
    unfold MV
    go_enter Try.func39, Try.ntmps39
    go_wp2
    go_region_held (fun w' => w'.cell? ⟨w.heap.size, 0, none⟩ = some (.int .i64 room) ∧ w'.cell? ⟨w.heap.size, 1, none⟩ = some (.slice p l c) ∧ w'.cell? ⟨w.heap.size, 2, none⟩ = some (.bool true) ∧ w'.cell? ⟨w.heap.size, 3, none⟩ = some (.int .i64 falls) ∧ w'.cell? ⟨w.heap.size, 4, none⟩ = some (.bool fused) ∧ w'.cell? ⟨w.heap.size, 5, none⟩ = some (.int .i64 fuse) ∧ w'.cell? ⟨w.heap.size, 6, none⟩ = some (.int .i64 part)) (go_keep) (fail)
    all_goals go_wp2
    all_goals refine bodyPost_ret (v := .tuple #[.int .i64 2, .agg #[.int .i64 room, .slice p l c, .bool true, .int .i64 falls, .bool fused, .int .i64 fuse, .int .i64 part]]) (by simp [results, Try.results39, go_sem]) rfl ⟨rfl, ?_⟩
    all_goals first
      | exact ((Below.refl _ w).alloc (Nat.le_refl _) _).alloc (by simp) _
      | exact (((Below.refl _ w).alloc (Nat.le_refl _) _).alloc (by simp) _).drew
  · have eb : S.begin = S.crash := by simp [Ds.begin, hd, hf, hz]
    rw [e, eb]
    have K := Lib.hid (fun w' => c29 S p l c w' h0 h1)
    obtain ⟨room, fs, down, falls, fused, fuse, part⟩ := S
    simp only at h0 h1 h2 h3 hd hf hz
    have hz0 : fuse = 0 := by omega
    clear e eb hz
    subst hd hf hz0
    unfold MV Ds.crash at K ⊢
    simp only [Bool.false_eq_true, if_false] at K ⊢
    go_enter Try.func39, Try.ntmps39
    go_wp2_with (go_at_call 29; (with_reducible refine (K.out _).mono ?_); rintro e w2 ⟨rfl, hB⟩; have HB := Lib.hid hB; have z0 : w2.cell? ⟨w.heap.size + 1, 0, none⟩ = some (.int .i64 0) := (hB.cell (p := ⟨w.heap.size + 1, 0, none⟩) (by simp)).trans (cellof (heap_two _ _ _) 0); have z1 : w2.cell? ⟨w.heap.size + 1, 1, none⟩ = some (.slice none 0 0) := (hB.cell (p := ⟨w.heap.size + 1, 1, none⟩) (by simp)).trans (cellof (heap_two _ _ _) 1); have z2 : w2.cell? ⟨w.heap.size + 1, 2, none⟩ = some (.bool false) := (hB.cell (p := ⟨w.heap.size + 1, 2, none⟩) (by simp)).trans (cellof (heap_two _ _ _) 2); have z3 : w2.cell? ⟨w.heap.size + 1, 3, none⟩ = some (.int .i64 0) := (hB.cell (p := ⟨w.heap.size + 1, 3, none⟩) (by simp)).trans (cellof (heap_two _ _ _) 3); have z4 : w2.cell? ⟨w.heap.size + 1, 4, none⟩ = some (.bool false) := (hB.cell (p := ⟨w.heap.size + 1, 4, none⟩) (by simp)).trans (cellof (heap_two _ _ _) 4); have z5 : w2.cell? ⟨w.heap.size + 1, 5, none⟩ = some (.int .i64 0) := (hB.cell (p := ⟨w.heap.size + 1, 5, none⟩) (by simp)).trans (cellof (heap_two _ _ _) 5); have z6 : w2.cell? ⟨w.heap.size + 1, 6, none⟩ = some (.int .i64 0) := (hB.cell (p := ⟨w.heap.size + 1, 6, none⟩) (by simp)).trans (cellof (heap_two _ _ _) 6); have fz : ∀ o, w2.frozen? ⟨w.heap.size + 1, o, none⟩ = false := fun o => (hB.frozen (p := ⟨w.heap.size + 1, o, none⟩) (by simp)).trans (frozenof (heap_two _ _ _) o); clear hB)
    have h2 := HB.out.size
    simp at h2
    refine bodyPost_ret (v := .tuple #[.int .i64 1, .agg #[.int .i64 room, .slice p l c, .bool true, .int .i64 (falls + 1), .bool false, .int .i64 0, .int .i64 0]]) (by simp [results, Try.results39, go_sem, z0, z1, z2, z3, z4, z5, z6]) rfl ⟨rfl, ?_⟩
    repeat refine Below.setCell ?_ (by simp) _
    exact (((Below.refl _ w).alloc (Nat.le_refl _) _).alloc (by simp) _).trans (HB.out.mono (by simp; omega))
  · cases hfu : S.fused
    · have eb : S.begin = S := by simp [Ds.begin, hd, hfu]
      rw [e, eb]
      obtain ⟨room, fs, down, falls, fused, fuse, part⟩ := S
      simp only at h0 h1 h2 h3 hd hfu
      clear e eb hf
      subst hd hfu
      unfold MV
      go_enter Try.func39, Try.ntmps39
      go_wp2
      go_region_held (fun w' => w'.cell? ⟨w.heap.size, 0, none⟩ = some (.int .i64 room) ∧ w'.cell? ⟨w.heap.size, 1, none⟩ = some (.slice p l c) ∧ w'.cell? ⟨w.heap.size, 2, none⟩ = some (.bool false) ∧ w'.cell? ⟨w.heap.size, 3, none⟩ = some (.int .i64 falls) ∧ w'.cell? ⟨w.heap.size, 4, none⟩ = some (.bool false) ∧ w'.cell? ⟨w.heap.size, 5, none⟩ = some (.int .i64 fuse) ∧ w'.cell? ⟨w.heap.size, 6, none⟩ = some (.int .i64 part)) (go_keep) (fail)
      all_goals go_wp2
      all_goals refine bodyPost_ret (v := .tuple #[.int .i64 0, .agg #[.int .i64 room, .slice p l c, .bool false, .int .i64 falls, .bool false, .int .i64 fuse, .int .i64 part]]) (by simp [results, Try.results39, go_sem]) rfl ⟨rfl, ?_⟩
      all_goals first
        | exact ((Below.refl _ w).alloc (Nat.le_refl _) _).alloc (by simp) _
        | exact (((Below.refl _ w).alloc (Nat.le_refl _) _).alloc (by simp) _).drew
    · have hp : 0 < S.fuse := by
        rcases hf with h | h
        · rw [hfu] at h; cases h
        · exact h
      have eb : S.begin = { S with fuse := S.fuse - 1 } := by simp [Ds.begin, hd, hfu, hp]
      rw [e, eb]
      obtain ⟨room, fs, down, falls, fused, fuse, part⟩ := S
      simp only at h0 h1 h2 h3 hd hfu hp
      clear e eb hf
      subst hd hfu
      unfold MV
      go_enter Try.func39, Try.ntmps39
      go_wp2
      go_region_held (fun w' => w'.cell? ⟨w.heap.size, 0, none⟩ = some (.int .i64 room) ∧ w'.cell? ⟨w.heap.size, 1, none⟩ = some (.slice p l c) ∧ w'.cell? ⟨w.heap.size, 2, none⟩ = some (.bool false) ∧ w'.cell? ⟨w.heap.size, 3, none⟩ = some (.int .i64 falls) ∧ w'.cell? ⟨w.heap.size, 4, none⟩ = some (.bool true) ∧ w'.cell? ⟨w.heap.size, 5, none⟩ = some (.int .i64 (fuse - 1)) ∧ w'.cell? ⟨w.heap.size, 6, none⟩ = some (.int .i64 part)) (go_keep) (fail)
      all_goals go_wp2
      all_goals refine bodyPost_ret (v := .tuple #[.int .i64 0, .agg #[.int .i64 room, .slice p l c, .bool false, .int .i64 falls, .bool true, .int .i64 (fuse - 1), .int .i64 part]]) (by simp [results, Try.results39, go_sem]) rfl ⟨rfl, ?_⟩
      all_goals first
        | exact ((Below.refl _ w).alloc (Nat.le_refl _) _).alloc (by simp) _
        | exact (((Below.refl _ w).alloc (Nat.le_refl _) _).alloc (by simp) _).drew
end Go.Proofs.DK
