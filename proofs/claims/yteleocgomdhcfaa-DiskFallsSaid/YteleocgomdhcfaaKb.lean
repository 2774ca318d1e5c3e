/- Proved: the document's disk in plain words, and what holds of it after each act. Each theorem says its own conditions. -/
import Derived.Test.YteleocgomdhcfaaKa
set_option linter.unusedVariables false
set_option linter.unusedSimpArgs false
namespace Go.Proofs.DK
structure Ds where
  room : Int
  fs : List Fl
  down : Bool
  falls : Int
  fused : Bool
  fuse : Int
  part : Int
def named (n : List UInt8) : Prop := 1 ≤ n.length ∧ n.length ≤ 32
instance (n : List UInt8) : Decidable (named n) := by unfold named; exact inferInstance
def Ds.crash (S : Ds) : Ds := { S with down := true, falls := if S.down then S.falls else S.falls + 1, fused := false, fuse := 0, part := 0 }
/-- How an act begins: 0 goes on, 1 is cut off, 2 the disk is down. -/
def Ds.how (S : Ds) : Nat := if S.down then 2 else if !S.fused then 0 else if 0 < S.fuse then 0 else 1
def Ds.begin (S : Ds) : Ds := if S.down then S else if !S.fused then S else if 0 < S.fuse then { S with fuse := S.fuse - 1 } else S.crash
def Ds.fits (S : Ds) (n b : List UInt8) : Prop := named n ∧ ¬ ((b.length : Int) > S.room - used S.fs) ∧ ¬ (lookF S.fs n = none ∧ 256 ≤ S.fs.length)
instance (S : Ds) (n b : List UInt8) : Decidable (S.fits n b) := by
  unfold Ds.fits
  have : Decidable (lookF S.fs n = none) := decidable_of_iff (lookF S.fs n |>.isNone) (by simp)
  exact inferInstance
def Ds.append (S : Ds) (n b : List UInt8) : Ds :=
  if S.how = 2 then S
  else if S.fits n b then
    let m := if S.how = 1 then (S.part % ((b.length : Int) + 1)).toNat else b.length
    let f := (lookF S.fs n).getD ⟨n, [], 0⟩
    { S.begin with fs := wiF S.fs { f with b := f.b ++ b.take m } }
  else S.begin
def Ds.sync (S : Ds) (n : List UInt8) : Ds :=
  if S.how ≠ 0 then S.begin else match lookF S.fs n with
  | none => S.begin
  | some f => { S.begin with fs := wiF S.fs { f with s := f.b.length } }
def Ds.rename (S : Ds) (n t : List UInt8) : Ds :=
  if S.how ≠ 0 then S.begin else if ¬ named t then S.begin else match lookF S.fs n with
  | none => S.begin
  | some f => { S.begin with fs := wiF (woF S.fs n) { f with n := t } }
def Ds.truncate (S : Ds) (n : List UInt8) (k : Int) : Ds :=
  if S.how ≠ 0 then S.begin else match lookF S.fs n with
  | none => S.begin
  | some f => if k < 0 ∨ k > f.b.length then S.begin else { S.begin with fs := wiF S.fs { f with b := f.b.take k.toNat, s := min f.s k.toNat } }
def Ds.delete (S : Ds) (n : List UInt8) : Ds :=
  if S.how ≠ 0 then S.begin else { S.begin with fs := woF S.fs n }
def Ds.light (S : Ds) (n k : Int) : Ds := { S with fused := true, fuse := max n 0, part := max k 0 }
def keepOf (keep : List Int) (i : Nat) (f : Fl) : Nat := f.s + (max (keep.getD i 0) 0 % ((f.b.length : Int) - f.s + 1)).toNat
def wakes (keep : List Int) : Nat → List Fl → List Fl
  | _, [] => []
  | i, f :: fs => { f with b := f.b.take (keepOf keep i f), s := keepOf keep i f } :: wakes keep (i + 1) fs
def Ds.wake (S : Ds) (keep : List Int) : Ds := if S.down then { S with down := false, fs := wakes keep 0 S.fs } else S
/-- What holds of a disk; 'm' bounds how often it fell. -/
structure Ok (m : Nat) (S : Ds) : Prop where
  srt : Srt S.fs
  safe : ∀ f ∈ S.fs, f.s ≤ f.b.length
  name : ∀ f ∈ S.fs, named f.n
  many : S.fs.length ≤ 256
  room : S.room = 10000
  used : used S.fs ≤ 10000
  falls : 0 ≤ S.falls ∧ S.falls ≤ m
  fuse : 0 ≤ S.fuse
  part : 0 ≤ S.part
theorem Ok.crash {m : Nat} {S : Ds} (h : Ok m S) : Ok (m + 1) S.crash := by
  refine ⟨h.srt, h.safe, h.name, h.many, h.room, h.used, ?_, Int.le_refl _, Int.le_refl _⟩
  have := h.falls
  unfold Ds.crash
  simp only
  split <;> omega
theorem Ok.more {m : Nat} {S : Ds} (h : Ok m S) : Ok (m + 1) S := ⟨h.srt, h.safe, h.name, h.many, h.room, h.used, ⟨h.falls.1, by have := h.falls; omega⟩, h.fuse, h.part⟩
theorem Ok.begin {m : Nat} {S : Ds} (h : Ok m S) : Ok (m + 1) S.begin := by
  unfold Ds.begin
  split
  · exact h.more
  · split
    · exact h.more
    · split
      · rename_i hf
        exact ⟨h.srt, h.safe, h.name, h.many, h.room, h.used, h.more.falls, by simp only; omega, h.part⟩
      · exact h.crash
theorem begin_fs (S : Ds) : S.begin.fs = S.fs := by
  unfold Ds.begin Ds.crash
  split
  · rfl
  · split
    · rfl
    · split <;> rfl
theorem Ok.files {m : Nat} {S : Ds} {fs : List Fl} (h : Ok m S) (h1 : Srt fs) (h2 : ∀ f ∈ fs, f.s ≤ f.b.length) (h3 : ∀ f ∈ fs, named f.n) (h4 : fs.length ≤ 256) (h5 : DK.used fs ≤ 10000) : Ok m { S with fs := fs } :=
  ⟨h1, h2, h3, h4, h.room, h5, h.falls, h.fuse, h.part⟩
theorem wo_len (fs : List Fl) (n : List UInt8) : (woF fs n).length ≤ fs.length := List.length_filter_le _ _
theorem wi_len (fs : List Fl) (f : Fl) : (wiF fs f).length = (woF fs f.n).length + 1 := (ins_perm f _).length_eq
theorem used_wi (fs : List Fl) (f : Fl) : used (wiF fs f) = used (woF fs f.n) + f.b.length := by
  have h1 := used_perm (ins_perm f (woF fs f.n))
  unfold wiF
  rw [h1]
  unfold used
  simp
  omega
theorem used_wo_le : ∀ (fs : List Fl) (n : List UInt8), used (woF fs n) ≤ used fs
  | [], _ => Nat.le_refl _
  | x :: xs, n => by
    have ih := used_wo_le xs n
    unfold used woF at *
    rw [List.filter_cons]
    split
    · simp only [List.map_cons, List.sum_cons]; omega
    · simp only [List.map_cons, List.sum_cons]; omega
theorem used_wo : ∀ {fs : List Fl} {f : Fl}, f ∈ fs → used (woF fs f.n) + f.b.length ≤ used fs
  | [], _, h => by cases h
  | x :: xs, f, h => by
    unfold used woF at *
    rw [List.filter_cons]
    have h1 := used_wo_le xs f.n
    unfold used woF at h1
    split
    · rename_i hx
      have hne : x.n ≠ f.n := by simpa using hx
      rcases List.mem_cons.1 h with rfl | h
      · exact absurd rfl hne
      · have ih := used_wo h
        unfold used woF at ih
        simp only [List.map_cons, List.sum_cons]; omega
    · rcases List.mem_cons.1 h with rfl | h
      · simp only [List.map_cons, List.sum_cons]; omega
      · have ih := used_wo h
        unfold used woF at ih
        simp only [List.map_cons, List.sum_cons]; omega
theorem len_wo : ∀ {fs : List Fl} {f : Fl}, f ∈ fs → (woF fs f.n).length + 1 ≤ fs.length
  | [], _, h => by cases h
  | fs, f, h => List.length_filter_lt_length_iff_exists.2 ⟨f, h, by simp⟩
/-- A file in place of one of its name, or of another one that is gone. -/
theorem Ok.put {m : Nat} {S : Ds} {fs : List Fl} {f : Fl} (h : Ok m S) (hs : Srt fs) (hsub : ∀ x ∈ fs, x ∈ S.fs) (hf : f.s ≤ f.b.length) (hn : named f.n) (hl : (woF fs f.n).length + 1 ≤ 256) (hu : DK.used (woF fs f.n) + f.b.length ≤ 10000) : Ok m { S with fs := wiF fs f } := by
  refine h.files (hs.wi f) (fun x hx => ?_) (fun x hx => ?_) (by rw [wi_len]; exact hl) (by rw [used_wi]; exact hu)
  · rcases mem_wi.1 hx with rfl | ⟨hx, _⟩
    · exact hf
    · exact h.safe x (hsub x hx)
  · rcases mem_wi.1 hx with rfl | ⟨hx, _⟩
    · exact hn
    · exact h.name x (hsub x hx)
end Go.Proofs.DK
