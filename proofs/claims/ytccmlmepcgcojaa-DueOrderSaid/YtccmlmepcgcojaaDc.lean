/- Proved: what 'Less' and 'Swap' of a row of entries come to. Each theorem says its own conditions. -/
import Derived.Test.YtccmlmepcgcojaaDb
set_option linter.unusedVariables false
set_option linter.unusedSimpArgs false
namespace Go.Proofs.DU
open Go.RowKit
def ptr (b : Nat) : Value := .pointer (some ⟨b, 0, none⟩)
theorem less_val (a b : En) : decide ((if cmpI a.t b.t = 0 then cmpI a.k b.k else cmpI a.t b.t) < 0) = lt a b := by
  unfold lt cmpI
  by_cases h1 : a.t < b.t
  · simp [h1]
  · by_cases h2 : b.t < a.t
    · have h3 : ¬ a.t = b.t := by omega
      simp [h1, h2, h3]
    · have h3 : a.t = b.t := by omega
      rw [h3]
      by_cases h4 : a.k < b.k
      · simp [h4]
      · by_cases h5 : b.k < a.k
        · simp [h4, h5]
        · simp [h4, h5]
set_option maxRecDepth 100000 in
set_option maxHeartbeats 2000000 in
theorem c44 (g n c i j : Nat) (a b : En) (w : World) (hin : i < n) (hjn : j < n) (hi : w.cell? ⟨g, i, none⟩ = some (.pointer (some ⟨a.b, 0, none⟩))) (hj : w.cell? ⟨g, j, none⟩ = some (.pointer (some ⟨b.b, 0, none⟩)))
    (a0 : w.cell? ⟨a.b, 0, none⟩ = some (.int .u64 a.k)) (a1 : w.cell? ⟨a.b, 1, none⟩ = some (.int .u64 a.t)) (b0 : w.cell? ⟨b.b, 0, none⟩ = some (.int .u64 b.k)) (b1 : w.cell? ⟨b.b, 1, none⟩ = some (.int .u64 b.t)) :
    Calls Try.prog 44 #[.slice (some ⟨g, 0, none⟩) n c, .int .i64 i, .int .i64 j] w fun e w' => e = .returned (.bool (lt a b)) ∧ Below w.heap.size w w' := by
  obtain ⟨ab, ak, at'⟩ := a
  obtain ⟨bb, bk, bt⟩ := b
  have hv := less_val ⟨ab, ak, at'⟩ ⟨bb, bk, bt⟩
  simp only at hi hj a0 a1 b0 b1 hv
  generalize hx : cmpI at' bt = x at hv
  generalize hy : cmpI ak bk = y at hv
  have K1 : ∀ w, Calls Try.prog 47 #[.int .u64 at', .int .u64 bt] w fun e w' => e = .returned (.int .i64 x) ∧ w = w' := fun w => by rw [← hx]; exact c47 _ _ w
  have K2 : ∀ w, Calls Try.prog 47 #[.int .u64 ak, .int .u64 bk] w fun e w' => e = .returned (.int .i64 y) ∧ w = w' := fun w => by rw [← hy]; exact c47 _ _ w
  clear hx hy
  have K3 : ∀ (w : World) (q : Nat), w.cell? ⟨q, 0, none⟩ = some (.int .i64 x) → w.cell? ⟨q, 1, none⟩ = some (.int .i64 y) → Calls Try.prog 46 #[.slice (some ⟨q, 0, none⟩) 2 2] w fun e w' => e = .returned (.int .i64 (if x = 0 then y else x)) ∧ w = w' := fun w q h0 h1 => c46 q 2 x y w h0 h1
  generalize hz : (if x = 0 then y else x) = z at hv K3
  clear hz
  go_enter Try.func44, Try.ntmps44
  go_wp2
  go_region_held (fun w' => w'.cell? ⟨g, i, none⟩ = some (.pointer (some ⟨ab, 0, none⟩)) ∧ w'.cell? ⟨g, j, none⟩ = some (.pointer (some ⟨bb, 0, none⟩)) ∧ w'.cell? ⟨ab, 0, none⟩ = some (.int .u64 ak) ∧ w'.cell? ⟨ab, 1, none⟩ = some (.int .u64 at') ∧ w'.cell? ⟨bb, 0, none⟩ = some (.int .u64 bk) ∧ w'.cell? ⟨bb, 1, none⟩ = some (.int .u64 bt)) (go_keep)
    (first
      | (go_at_call 47; (with_reducible refine (K1 _).mono ?_); rintro e w2 ⟨rfl, rfl⟩)
      | (go_at_call 47; (with_reducible refine (K2 _).mono ?_); rintro e w2 ⟨rfl, rfl⟩)
      | (go_at_call 46; (with_reducible refine (K3 _ w.heap.size (by simp [go_sem]) (by simp [go_sem])).mono ?_); rintro e w2 ⟨rfl, rfl⟩))
  all_goals go_wp2
  all_goals go_ret
  all_goals exact ⟨rfl, ((Below.refl _ w).alloc (Nat.le_refl _) _).drew⟩
set_option maxRecDepth 100000 in
set_option maxHeartbeats 2000000 in
theorem c45 (g n c i j ab bb : Nat) (w : World) (hin : i < n) (hjn : j < n) (hij : i ≠ j) (hi : w.cell? ⟨g, i, none⟩ = some (.pointer (some ⟨ab, 0, none⟩))) (hj : w.cell? ⟨g, j, none⟩ = some (.pointer (some ⟨bb, 0, none⟩)))
    (fg : ∀ o, w.frozen? ⟨g, o, none⟩ = false) (a2 : w.cell? ⟨ab, 2, none⟩ = some (.int .i64 i)) (b2 : w.cell? ⟨bb, 2, none⟩ = some (.int .i64 j)) (fa : w.frozen? ⟨ab, 2, none⟩ = false) (fb : w.frozen? ⟨bb, 2, none⟩ = false) (hab : ab ≠ bb) (hga : g ≠ ab) (hgb : g ≠ bb) (fin : World)
    (hfin : ((((w.setCell ⟨g, i, none⟩ (.pointer (some ⟨bb, 0, none⟩))).setCell ⟨g, j, none⟩ (.pointer (some ⟨ab, 0, none⟩))).drew.setCell ⟨bb, 2, none⟩ (.int .i64 i)).setCell ⟨ab, 2, none⟩ (.int .i64 j)).drew = fin) :
    Calls Try.prog 45 #[.slice (some ⟨g, 0, none⟩) n c, .int .i64 i, .int .i64 j] w fun e w' => e = .returned (.tuple #[]) ∧ w' = fin := by
  go_enter Try.func45, Try.ntmps45
  go_wp2
  go_region
  go_wp2
  have g1 : ((w.setCell ⟨g, i, none⟩ (.pointer (some ⟨bb, 0, none⟩))).setCell ⟨g, j, none⟩ (.pointer (some ⟨ab, 0, none⟩))).drew.cell? ⟨g, i, none⟩ = some (.pointer (some ⟨bb, 0, none⟩)) := by
    show ((w.setCell _ _).setCell _ _).cell? _ = _
    rw [World.cell?_setCell_other (h := fun e => by cases e; exact hij rfl)]
    exact World.cell?_setCell_same _ _ _ hi
  have hj' : (w.setCell ⟨g, i, none⟩ (.pointer (some ⟨bb, 0, none⟩))).cell? ⟨g, j, none⟩ = some (.pointer (some ⟨bb, 0, none⟩)) := by
    rw [World.cell?_setCell_other (h := fun e => by cases e; exact hij rfl)]; exact hj
  have g2 : ((w.setCell ⟨g, i, none⟩ (.pointer (some ⟨bb, 0, none⟩))).setCell ⟨g, j, none⟩ (.pointer (some ⟨ab, 0, none⟩))).drew.cell? ⟨g, j, none⟩ = some (.pointer (some ⟨ab, 0, none⟩)) := World.cell?_setCell_same _ _ _ hj'
  have other : ∀ (b o : Nat), g ≠ b → ((w.setCell ⟨g, i, none⟩ (.pointer (some ⟨bb, 0, none⟩))).setCell ⟨g, j, none⟩ (.pointer (some ⟨ab, 0, none⟩))).drew.cell? ⟨b, o, none⟩ = w.cell? ⟨b, o, none⟩ := fun b o h => by
    show ((w.setCell _ _).setCell _ _).cell? _ = _
    rw [World.cell?_setCell_other (h := fun e => by cases e; exact h rfl), World.cell?_setCell_other (h := fun e => by cases e; exact h rfl)]
  have a3 := (other ab 2 hga).trans a2
  have b3 := (other bb 2 hgb).trans b2
  have fr : ∀ p : Addr, ((w.setCell ⟨g, i, none⟩ (.pointer (some ⟨bb, 0, none⟩))).setCell ⟨g, j, none⟩ (.pointer (some ⟨ab, 0, none⟩))).drew.frozen? p = w.frozen? p := fun p => by
    show ((w.setCell _ _).setCell _ _).frozen? _ = _
    rw [World.frozen?_setCell, World.frozen?_setCell]
  have fa3 := (fr ⟨ab, 2, none⟩).trans fa
  have fb3 := (fr ⟨bb, 2, none⟩).trans fb
  clear other fr hj' fa fb a2 b2 hi hj fg
  generalize ((w.setCell ⟨g, i, none⟩ (.pointer (some ⟨bb, 0, none⟩))).setCell ⟨g, j, none⟩ (.pointer (some ⟨ab, 0, none⟩))).drew = W at *
  have HF := Lib.hid hfin
  clear hfin
  have n1 : bb ≠ g := fun e => hgb e.symm
  have n2 : ab ≠ g := fun e => hga e.symm
  go_region_held (fun w' => w'.cell? ⟨g, i, none⟩ = some (.pointer (some ⟨bb, 0, none⟩)) ∧ w'.cell? ⟨g, j, none⟩ = some (.pointer (some ⟨ab, 0, none⟩))) (go_keep) (fail)
  all_goals go_wp2
  all_goals go_end0
  all_goals exact ⟨rfl, HF.out⟩
end Go.Proofs.DU
