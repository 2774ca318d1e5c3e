/- Proved: laws of sorted rows of files, as the document keeps them. Each theorem says its own conditions. -/
import Derived.WalkKit
set_option linter.unusedVariables false
set_option linter.unusedSimpArgs false
namespace Go.Proofs.DK
/-- A file: its name, its bytes, how many of them are safe. -/
structure Fl where
  n : List UInt8
  b : List UInt8
  s : Nat
def Srt (fs : List Fl) : Prop := fs.Pairwise fun x y => x.n < y.n
def woF (fs : List Fl) (n : List UInt8) : List Fl := fs.filter fun x => !decide (x.n = n)
def insF (f : Fl) : List Fl → List Fl
  | [] => [f]
  | x :: xs => if f.n < x.n then f :: x :: xs else x :: insF f xs
def wiF (fs : List Fl) (f : Fl) : List Fl := insF f (woF fs f.n)
def lookF (fs : List Fl) (n : List UInt8) : Option Fl := fs.find? fun x => decide (x.n = n)
def used (fs : List Fl) : Nat := (fs.map fun x => x.b.length).sum
theorem Srt.wo {fs : List Fl} (h : Srt fs) (n : List UInt8) : Srt (woF fs n) := List.Pairwise.sublist List.filter_sublist h
theorem mem_wo {fs : List Fl} {n : List UInt8} {x : Fl} : x ∈ woF fs n ↔ x ∈ fs ∧ x.n ≠ n := by
  unfold woF
  rw [List.mem_filter]
  simp
theorem mem_ins {f x : Fl} : ∀ {fs : List Fl}, x ∈ insF f fs ↔ x = f ∨ x ∈ fs
  | [] => by simp [insF]
  | y :: ys => by
    unfold insF
    split
    · simp
    · rw [List.mem_cons, mem_ins, List.mem_cons]
      constructor
      · rintro (h | h | h)
        · exact .inr (.inl h)
        · exact .inl h
        · exact .inr (.inr h)
      · rintro (h | h | h)
        · exact .inr (.inl h)
        · exact .inl h
        · exact .inr (.inr h)
theorem ins_perm (f : Fl) : ∀ fs : List Fl, (insF f fs).Perm (f :: fs)
  | [] => by simp [insF]
  | y :: ys => by
    unfold insF
    split
    · exact List.Perm.refl _
    · exact ((ins_perm f ys).cons y).trans (List.Perm.swap _ _ _)
theorem lt_tri {a b : List UInt8} (h : ¬ a < b) (hne : a ≠ b) : b < a := by
  rcases Std.lt_trichotomy a b with h1 | h1 | h1
  · exact absurd h1 h
  · exact absurd h1 hne
  · exact h1
theorem ins_srt {f : Fl} : ∀ {fs : List Fl}, Srt fs → (∀ x ∈ fs, x.n ≠ f.n) → Srt (insF f fs)
  | [], _, _ => by simp [insF, Srt]
  | y :: ys, h, hne => by
    unfold Srt at h
    rw [List.pairwise_cons] at h
    unfold insF
    split
    · rename_i hlt
      unfold Srt
      rw [List.pairwise_cons, List.pairwise_cons]
      refine ⟨fun z hz => ?_, h⟩
      rcases List.mem_cons.1 hz with rfl | hz
      · exact hlt
      · exact List.lt_trans hlt (h.1 z hz)
    · rename_i hlt
      unfold Srt
      rw [List.pairwise_cons]
      refine ⟨fun z hz => ?_, ins_srt h.2 fun x hx => hne x (List.mem_cons_of_mem _ hx)⟩
      rcases mem_ins.1 hz with rfl | hz
      · exact lt_tri hlt fun e => hne y List.mem_cons_self e.symm
      · exact h.1 z hz
theorem Srt.wi {fs : List Fl} (h : Srt fs) (f : Fl) : Srt (wiF fs f) := ins_srt (h.wo f.n) fun x hx => (mem_wo.1 hx).2
theorem mem_wi {fs : List Fl} {f x : Fl} : x ∈ wiF fs f ↔ x = f ∨ (x ∈ fs ∧ x.n ≠ f.n) := by
  unfold wiF
  rw [mem_ins, mem_wo]
theorem Srt.uniq : ∀ {fs : List Fl}, Srt fs → ∀ {x y : Fl}, x ∈ fs → y ∈ fs → x.n = y.n → x = y
  | [], _, _, _, h, _, _ => by cases h
  | z :: zs, h, x, y, hx, hy, e => by
    unfold Srt at h
    rw [List.pairwise_cons] at h
    rcases List.mem_cons.1 hx with h1 | h1
    · rcases List.mem_cons.1 hy with h2 | h2
      · rw [h1, h2]
      · have := h.1 y h2
        rw [← h1, e] at this
        exact absurd this (List.lt_irrefl _)
    · rcases List.mem_cons.1 hy with h2 | h2
      · have := h.1 x h1
        rw [← h2, e] at this
        exact absurd this (List.lt_irrefl _)
      · exact Srt.uniq h.2 h1 h2 e
theorem look_some {fs : List Fl} {n : List UInt8} {f : Fl} (h : lookF fs n = some f) : f ∈ fs ∧ f.n = n := by
  unfold lookF at h
  exact ⟨List.mem_of_find?_eq_some h, by simpa using List.find?_some h⟩
theorem look_none {fs : List Fl} {n : List UInt8} (h : lookF fs n = none) : ∀ x ∈ fs, x.n ≠ n := by
  unfold lookF at h
  rw [List.find?_eq_none] at h
  exact fun x hx => by simpa using h x hx
theorem Srt.look {fs : List Fl} (h : Srt fs) {f : Fl} (hf : f ∈ fs) : lookF fs f.n = some f := by
  cases e : lookF fs f.n with
  | none => exact absurd rfl (look_none e f hf)
  | some g =>
    obtain ⟨hg, hn⟩ := look_some e
    rw [h.uniq hg hf hn]
/-- Two sorted rows of the same files are the same. -/
theorem Srt.eq_of_perm : ∀ {a b : List Fl}, Srt a → Srt b → a.Perm b → a = b
  | [], b, _, _, h => by rw [List.nil_perm.1 h]
  | x :: xs, [], _, _, h => by have := h.length_eq; simp at this
  | x :: xs, y :: ys, ha, hb, h => by
    have ha' := ha
    have hb' := hb
    unfold Srt at ha hb
    rw [List.pairwise_cons] at ha hb
    have e : x = y := by
      rcases List.mem_cons.1 (h.mem_iff.1 (List.mem_cons_self (a := x))) with h1 | h1
      · exact h1
      · rcases List.mem_cons.1 (h.mem_iff.2 (List.mem_cons_self (a := y))) with h2 | h2
        · exact h2.symm
        · exact absurd (List.lt_trans (hb.1 x h1) (ha.1 y h2)) (List.lt_irrefl _)
    subst e
    rw [Srt.eq_of_perm ha.2 hb.2 (List.Perm.cons_inv h)]
theorem wo_none {fs : List Fl} {n : List UInt8} (h : ∀ x ∈ fs, x.n ≠ n) : woF fs n = fs := by
  unfold woF
  rw [List.filter_eq_self]
  exact fun x hx => by simp [h x hx]
theorem used_perm {a b : List Fl} (h : a.Perm b) : used a = used b := (h.map _).sum_nat
end Go.Proofs.DK
