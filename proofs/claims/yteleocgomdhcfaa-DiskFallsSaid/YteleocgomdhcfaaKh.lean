/- Proved: what the document's 'Used' comes to. Each theorem says its own conditions. -/
import Derived.Test.YteleocgomdhcfaaKg
set_option linter.unusedVariables false
set_option linter.unusedSimpArgs false
set_option linter.unusedSectionVars false
namespace Go.Proofs.DK
open Go.RowKit
variable [Okb]
theorem used_snoc {fs : List Fl} {k : Nat} {f : Fl} (h : fs[k]? = some f) : used (fs.take (k + 1)) = used (fs.take k) + f.b.length := by
  unfold used
  rw [List.take_add_one, h]
  simp
theorem used_take (fs : List Fl) (k : Nat) : used (fs.take k) ≤ used fs := by
  have h : used fs = used (fs.take k) + used (fs.drop k) := by
    unfold used
    rw [← List.sum_append, ← List.map_append, List.take_append_drop]
  omega
set_option maxRecDepth 100000 in
set_option maxHeartbeats 4000000 in
theorem c41 (S : Ds) (p : Option Addr) (c : Nat) (w : World) (h : FsAt w p S.fs) (hL : S.fs.length ≤ 1000) (hU : used S.fs ≤ 1000000) : Calls Try.prog 41 #[MV S (.slice p S.fs.length c)] w fun e w' => e = .returned (.int .i64 (used S.fs)) ∧ Below w.heap.size w w' := by
  obtain ⟨room, fs, down, falls, fused, fuse, part⟩ := S
  simp only at h hL hU ⊢
  have HF := Lib.hid h
  clear h
  unfold MV
  simp only
  have hA : Below w.heap.size w (w.alloc (.cells #[.int .i64 room, .slice p fs.length c, .bool down, .int .i64 falls, .bool fused, .int .i64 fuse, .int .i64 part] 31)) := (Below.refl _ w).alloc (Nat.le_refl _) _
  generalize hN : fs.length = k0 at *
  have HN := Lib.hid hN
  clear hN
  go_enter Try.func41, Try.ntmps41
  go_wp2
  go_loopw [3, 8] (fun s i wr => ∃ k : Nat, i = .int .i64 k ∧ k ≤ k0 ∧ s = .int .i64 (used (fs.take k)) ∧ Below (w.heap.size + 1) (w.alloc (.cells #[.int .i64 room, .slice p k0 c, .bool down, .int .i64 falls, .bool fused, .int .i64 fuse, .int .i64 part] 31)) wr) (fun _ i _ => k0 - (intOf i).toNat)
  case atStart => exact ⟨0, rfl, Nat.zero_le _, rfl, Below.refl _ _⟩
  case round =>
    obtain ⟨k, rfl, hk, rfl, hB⟩ := hrel
    have z1 : wr.cell? ⟨w.heap.size, 1, none⟩ = some (.slice p k0 c) := (hB.cell (p := ⟨w.heap.size, 1, none⟩) (by simp)).trans (cellof (heap_alloc_new w _) 1)
    have hB2 : Below w.heap.size w wr := hA.trans (hB.mono (by omega))
    by_cases hlt : k < k0
    · obtain ⟨f, hf⟩ : ∃ f, fs[k]? = some f := ⟨_, List.getElem?_eq_getElem (by rw [HN.out]; exact hlt)⟩
      obtain ⟨b, rfl, hb, _, ⟨v, y1, pv, cv, rfl, _⟩, _⟩ := HF.out k f hf
      have y1 := (hB2.cell (p := ⟨b, _, none⟩) hb).trans y1
      have HB := Lib.hid hB
      have HS := Lib.hid (used_snoc hf)
      have hu1 := used_take fs (k + 1)
      have hu2 := used_snoc hf
      clear hB hB2 hf hA
      generalize hU1 : used (fs.take k) = u1 at *
      generalize hFL : f.b.length = fl at *
      rw [hu2] at hu1
      clear hu2
      go_wp2
      all_goals go_roundw
      all_goals first
        | (simp [intOf]; omega)
        | exact ⟨k + 1, by go_num, by omega, by rw [HS.out]; go_num, HB.out⟩
    · have hkn : k = k0 := by omega
      subst hkn
      have hall : fs.take k = fs := List.take_of_length_le (by rw [HN.out]; exact Nat.le_refl _)
      rw [hall]
      generalize hU1 : used fs = u1 at *
      go_wp2
      all_goals go_ret
      all_goals exact ⟨congrArg (fun x : Nat => Ending.returned (Value.int .i64 x)) hU1.symm, hB2⟩
end Go.Proofs.DK
