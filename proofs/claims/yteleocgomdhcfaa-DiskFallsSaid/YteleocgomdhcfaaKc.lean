/- Proved: each act of the document's disk keeps what holds of it. Each theorem says its own conditions. -/
import Derived.Test.YteleocgomdhcfaaKb
set_option linter.unusedVariables false
set_option linter.unusedSimpArgs false
namespace Go.Proofs.DK
variable {m : Nat} {S : Ds}
theorem how_cases (S : Ds) : (S.how = 2 ∧ S.down = true) ∨ (S.how = 1 ∧ S.down = false ∧ S.fused = true ∧ ¬ 0 < S.fuse) ∨ (S.how = 0 ∧ S.down = false ∧ (S.fused = false ∨ 0 < S.fuse)) := by
  unfold Ds.how
  cases h1 : S.down
  · cases h2 : S.fused
    · simp
    · by_cases h3 : 0 < S.fuse <;> simp [h3]
  · simp
theorem Ok.append (h : Ok m S) (n b : List UInt8) : Ok (m + 1) (S.append n b) := by
  unfold Ds.append
  split
  · exact h.more
  · split
    · rename_i hfit
      obtain ⟨hn, hb, hm⟩ := hfit
      have hsub : ∀ x ∈ S.fs, x ∈ S.begin.fs := fun x hx => by rw [begin_fs]; exact hx
      have hr := h.room
      simp only
      generalize hM : (if S.how = 1 then (S.part % ((b.length : Int) + 1)).toNat else b.length) = M
      have htk : (b.take M).length ≤ b.length := by rw [List.length_take]; omega
      have hu := h.used
      cases e : lookF S.fs n with
      | none =>
        have hno := look_none e
        have hlen : S.fs.length < 256 := by
          rcases Nat.lt_or_ge S.fs.length 256 with h1 | h1
          · exact h1
          · exact absurd ⟨e, h1⟩ hm
        refine h.begin.put (f := ⟨n, [] ++ b.take M, 0⟩) h.srt hsub (Nat.zero_le _) hn ?_ ?_
        · rw [show (Fl.mk n ([] ++ b.take M) 0).n = n from rfl, wo_none hno]; omega
        · rw [show (Fl.mk n ([] ++ b.take M) 0).n = n from rfl, wo_none hno]
          simp only [List.nil_append]
          omega
      | some f =>
        obtain ⟨hf, hfn⟩ := look_some e
        have h1 := used_wo hf
        have h2 := len_wo hf
        have h3 := h.safe f hf
        have h4 := h.many
        refine h.begin.put (f := ⟨f.n, f.b ++ b.take M, f.s⟩) h.srt hsub ?_ (h.name f hf) ?_ ?_
        · simp only [List.length_append]; omega
        · simp only; omega
        · simp only [List.length_append]; omega
    · exact h.begin
theorem Ok.sync (h : Ok m S) (n : List UInt8) : Ok (m + 1) (S.sync n) := by
  unfold Ds.sync
  split
  · exact h.begin
  · cases e : lookF S.fs n with
    | none => exact h.begin
    | some f =>
      obtain ⟨hf, hfn⟩ := look_some e
      have h1 := used_wo hf
      have h2 := len_wo hf
      have hu := h.used
      have h4 := h.many
      exact h.begin.put (f := ⟨f.n, f.b, f.b.length⟩) h.srt (fun x hx => by rw [begin_fs]; exact hx) (Nat.le_refl _) (h.name f hf) (by simp only; omega) (by simp only; omega)
theorem Ok.rename (h : Ok m S) (n t : List UInt8) : Ok (m + 1) (S.rename n t) := by
  unfold Ds.rename
  split
  · exact h.begin
  · split
    · exact h.begin
    · rename_i ht
      have ht : named t := Classical.not_not.1 ht
      cases e : lookF S.fs n with
      | none => exact h.begin
      | some f =>
        obtain ⟨hf, rfl⟩ := look_some e
        have h1 := used_wo hf
        have h2 := len_wo hf
        have hu := h.used
        have h4 := h.many
        have h5 := used_wo_le (woF S.fs f.n) t
        have h6 := wo_len (woF S.fs f.n) t
        exact h.begin.put (f := ⟨t, f.b, f.s⟩) (h.srt.wo _) (fun x hx => by rw [begin_fs]; exact (mem_wo.1 hx).1) (h.safe f hf) ht (by simp only; omega) (by simp only; omega)
theorem Ok.truncate (h : Ok m S) (n : List UInt8) (k : Int) : Ok (m + 1) (S.truncate n k) := by
  unfold Ds.truncate
  split
  · exact h.begin
  · cases e : lookF S.fs n with
    | none => exact h.begin
    | some f =>
      obtain ⟨hf, rfl⟩ := look_some e
      have h1 := used_wo hf
      have h2 := len_wo hf
      have hu := h.used
      have h4 := h.many
      have h3 := h.safe f hf
      simp only
      split
      · exact h.begin
      · rename_i hk
        have hl : (f.b.take k.toNat).length = k.toNat := by rw [List.length_take]; omega
        exact h.begin.put (f := ⟨f.n, f.b.take k.toNat, min f.s k.toNat⟩) h.srt (fun x hx => by rw [begin_fs]; exact hx) (by simp only [hl]; omega) (h.name f hf) (by simp only; omega) (by simp only [hl]; omega)
theorem Ok.delete (h : Ok m S) (n : List UInt8) : Ok (m + 1) (S.delete n) := by
  unfold Ds.delete
  split
  · exact h.begin
  · refine h.begin.files (h.srt.wo n) (fun x hx => h.safe x (mem_wo.1 hx).1) (fun x hx => h.name x (mem_wo.1 hx).1) ?_ ?_
    · have := wo_len S.fs n; have := h.many; omega
    · have := used_wo_le S.fs n; have := h.used; omega
theorem Ok.light (h : Ok m S) (n k : Int) : Ok (m + 1) (S.light n k) :=
  ⟨h.srt, h.safe, h.name, h.many, h.room, h.used, h.more.falls, by unfold Ds.light; simp only; omega, by unfold Ds.light; simp only; omega⟩
theorem keep_le (keep : List Int) (i : Nat) {f : Fl} (hf : f.s ≤ f.b.length) : f.s ≤ keepOf keep i f ∧ keepOf keep i f ≤ f.b.length := by
  unfold keepOf
  have h1 : (0 : Int) < (f.b.length : Int) - f.s + 1 := by omega
  have h2 := Int.emod_nonneg (max (keep.getD i 0) 0) (Int.ne_of_gt h1)
  have h3 := Int.emod_lt_of_pos (max (keep.getD i 0) 0) h1
  omega
theorem wakes_len (keep : List Int) : ∀ (i : Nat) (fs : List Fl), (wakes keep i fs).length = fs.length
  | _, [] => rfl
  | i, f :: fs => by simp [wakes, wakes_len keep (i + 1) fs]
theorem wakes_get (keep : List Int) : ∀ (i : Nat) (fs : List Fl) (j : Nat), (wakes keep i fs)[j]? = fs[j]?.map fun f => { f with b := f.b.take (keepOf keep (i + j) f), s := keepOf keep (i + j) f }
  | _, [], j => by simp [wakes]
  | i, f :: fs, 0 => by simp [wakes]
  | i, f :: fs, j + 1 => by
    have e : i + 1 + j = i + (j + 1) := by omega
    simp [wakes, wakes_get keep (i + 1) fs j, e]
theorem wakes_names (keep : List Int) : ∀ (i : Nat) (fs : List Fl), (wakes keep i fs).map (·.n) = fs.map (·.n)
  | _, [] => rfl
  | i, f :: fs => by simp [wakes, wakes_names keep (i + 1) fs]
theorem wakes_used (keep : List Int) : ∀ (i : Nat) (fs : List Fl), used (wakes keep i fs) ≤ used fs
  | _, [] => Nat.le_refl _
  | i, f :: fs => by
    have ih := wakes_used keep (i + 1) fs
    unfold used at *
    simp only [wakes, List.map_cons, List.sum_cons, List.length_take]
    omega
theorem srt_names {a b : List Fl} (h : Srt a) (e : b.map (·.n) = a.map (·.n)) : Srt b := by
  unfold Srt at *
  have h1 : (a.map (·.n)).Pairwise (· < ·) := List.pairwise_map.2 h
  rw [← e] at h1
  exact List.pairwise_map.1 h1
theorem wakes_mem {keep : List Int} {i : Nat} {fs : List Fl} {x : Fl} (h : x ∈ wakes keep i fs) : ∃ (j : Nat) (f : Fl), fs[j]? = some f ∧ x = { f with b := f.b.take (keepOf keep (i + j) f), s := keepOf keep (i + j) f } := by
  obtain ⟨j, hj⟩ := List.getElem?_of_mem h
  rw [wakes_get] at hj
  obtain ⟨f, hf, rfl⟩ := Option.map_eq_some_iff.1 hj
  exact ⟨j, f, hf, rfl⟩
theorem Ok.wake (h : Ok m S) (keep : List Int) : Ok (m + 1) (S.wake keep) := by
  unfold Ds.wake
  split
  · refine Ok.files (S := { S with down := false }) ⟨h.srt, h.safe, h.name, h.many, h.room, h.used, h.more.falls, h.fuse, h.part⟩ (srt_names h.srt (wakes_names keep 0 S.fs)) (fun x hx => ?_) (fun x hx => ?_) (by rw [wakes_len]; exact h.many) (Nat.le_trans (wakes_used keep 0 S.fs) h.used)
    · obtain ⟨j, f, hf, rfl⟩ := wakes_mem hx
      have := keep_le keep (0 + j) (h.safe f (List.mem_of_getElem? hf))
      simp only [List.length_take]
      omega
    · obtain ⟨j, f, hf, rfl⟩ := wakes_mem hx
      exact h.name f (List.mem_of_getElem? hf)
  · exact h.more
end Go.Proofs.DK
