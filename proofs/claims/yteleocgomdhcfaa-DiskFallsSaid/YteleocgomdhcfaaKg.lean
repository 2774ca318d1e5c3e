/- Proved: what the document's 'Find' comes to. Each theorem says its own conditions. -/
import Derived.Test.YteleocgomdhcfaaKf
import Derived.Laws.Strings
set_option linter.unusedVariables false
set_option linter.unusedSimpArgs false
set_option linter.unusedSectionVars false
namespace Go.Proofs.DK
open Go.RowKit
variable [Okb]
theorem bs_toList (n : List UInt8) : (bs n).toList = n := by
  rw [ByteArray.toList_eq]
  simp [bs]
def FindOut (fs : List Fl) (n : List UInt8) (w : World) (e : Ending) (w' : World) : Prop := Below w.heap.size w w' ∧ ∃ i : Int, e = .returned (.int .i64 i) ∧ ((lookF fs n = none ∧ i = -1) ∨ ∃ (j : Nat) (f : Fl), i = j ∧ fs[j]? = some f ∧ f.n = n)
set_option maxRecDepth 100000 in
set_option maxHeartbeats 4000000 in
theorem c31 (S : Ds) (p : Option Addr) (c : Nat) (n : List UInt8) (w : World) (h : FsAt w p S.fs) (hL : S.fs.length ≤ 1000) : Calls Try.prog 31 #[MV S (.slice p S.fs.length c), .string (bs n)] w (FindOut S.fs n w) := by
  obtain ⟨room, fs, down, falls, fused, fuse, part⟩ := S
  simp only at h hL
  have HF := Lib.hid h
  clear h
  unfold MV
  simp only
  have hA : Below w.heap.size w (w.alloc (.cells #[.int .i64 room, .slice p fs.length c, .bool down, .int .i64 falls, .bool fused, .int .i64 fuse, .int .i64 part] 31)) := (Below.refl _ w).alloc (Nat.le_refl _) _
  generalize hN : fs.length = k0 at *
  have HN := Lib.hid hN
  clear hN
  go_enter Try.func31, Try.ntmps31
  go_wp2
  go_loopw [9] (fun i wr => ∃ k : Nat, i = .int .i64 k ∧ k ≤ k0 ∧ (∀ (j : Nat) (f : Fl), j < k → fs[j]? = some f → f.n ≠ n) ∧ Below (w.heap.size + 1) (w.alloc (.cells #[.int .i64 room, .slice p k0 c, .bool down, .int .i64 falls, .bool fused, .int .i64 fuse, .int .i64 part] 31)) wr) (fun i _ => k0 - (intOf i).toNat)
  case atStart => exact ⟨0, rfl, Nat.zero_le _, fun j f hj => by omega, Below.refl _ _⟩
  case round =>
    obtain ⟨k, rfl, hk, hall, hB⟩ := hrel
    have z1 : wr.cell? ⟨w.heap.size, 1, none⟩ = some (.slice p k0 c) := (hB.cell (p := ⟨w.heap.size, 1, none⟩) (by simp)).trans (cellof (heap_alloc_new w _) 1)
    have hB2 : Below w.heap.size w wr := hA.trans (hB.mono (by omega))
    by_cases hlt : k < k0
    · obtain ⟨f, hf⟩ : ∃ f, fs[k]? = some f := ⟨_, List.getElem?_eq_getElem (by rw [HN.out]; exact hlt)⟩
      obtain ⟨b, rfl, hb, y0, _, _⟩ := HF.out k f hf
      have y0 := (hB2.cell (p := ⟨b, _, none⟩) hb).trans y0
      have HB2 := Lib.hid hB2
      have HB := Lib.hid hB
      have HALL := Lib.hid hall
      have HE := Lib.hid hf
      clear hB hB2 hall hf hA
      by_cases ha : f.n = n
      · go_wp2
        all_goals go_ret
        all_goals exact ⟨HB2.out, _, rfl, .inr ⟨k, f, rfl, HE.out, ha⟩⟩
      · have hd : ((bs f.n).toList == (bs n).toList) = false := by
          rw [bs_toList, bs_toList]
          exact beq_eq_false_iff_ne.2 ha
        go_wp2
        all_goals go_roundw
        all_goals first
          | (simp [intOf]; omega)
          | (refine ⟨k + 1, by go_num, by omega, fun j g hj hg => ?_, HB.out⟩
             by_cases em : j = k
             · subst em
               rw [HE.out] at hg
               cases hg
               exact ha
             · exact HALL.out j g (by omega) hg)
    · have hkn : k = k0 := by omega
      subst hkn
      go_wp2
      all_goals go_ret
      all_goals refine ⟨hB2, _, rfl, .inl ⟨?_, rfl⟩⟩
      unfold lookF
      rw [List.find?_eq_none]
      intro x hx
      obtain ⟨j, hj⟩ := List.getElem?_of_mem hx
      simpa using hall j x (by have := (List.getElem?_eq_some_iff.1 hj).1; have := HN.out; omega) hj
end Go.Proofs.DK
