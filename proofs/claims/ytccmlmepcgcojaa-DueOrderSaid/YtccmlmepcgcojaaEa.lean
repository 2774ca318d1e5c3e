/- Proved: two lists of dues side by side; what they yield does not rest on the order in which they were filled. Each theorem says its own conditions. -/
import Derived.Test.YtccmlmepcgcojaaDz
set_option linter.unusedVariables false
set_option linter.unusedSimpArgs false
namespace Go.Proofs.DU
open Go.RowKit
def Same (L M : List (Int × Int)) : Prop := ∀ x, x ∈ L ↔ x ∈ M
theorem Same.first {L M : List (Int × Int)} {x : Int × Int} (h : Same L M) (hx : First L x) : First M x := ⟨(h x).1 hx.1, fun y hy => hx.2 y ((h y).2 hy)⟩
theorem Same.symm {L M : List (Int × Int)} (h : Same L M) : Same M L := fun x => (h x).symm
theorem Same.cut {L M : List (Int × Int)} (h : Same L M) (k : Int) : Same (cutL L k) (cutL M k) := fun x => by
  unfold cutL
  rw [List.mem_filter, List.mem_filter, h x]
theorem Tk.same {now : Int} {L L1 : List (Int × Int)} {ks : List Int} (h : Tk now L ks L1) {M : List (Int × Int)} (hs : Same L M) : ∃ M1, Tk now M ks M1 ∧ Same L1 M1 := by
  induction h generalizing M with
  | stop h => exact ⟨M, .stop fun x hx => h x (hs.symm.first hx), hs⟩
  | go h1 h2 t ih =>
    obtain ⟨M1, t1, s1⟩ := ih (hs.cut _)
    exact ⟨M1, .go (hs.first h1) h2 t1, s1⟩
/-- What two lists of the same members yield is the same, and what they keep has the same members. -/
theorem Tk.pair {now : Int} {L L1 M M1 : List (Int × Int)} {k1 k2 : List Int} (h : Tk now L k1 L1) (k : Tk now M k2 M1) (hs : Same L M) : k1 = k2 ∧ Same L1 M1 := by
  obtain ⟨M2, t2, s2⟩ := h.same hs
  obtain ⟨rfl, rfl⟩ := t2.det k
  exact ⟨rfl, s2⟩
theorem first_of : ∀ L : List (Int × Int), L ≠ [] → ∃ x, First L x
  | [], h => absurd rfl h
  | [y], _ => ⟨y, by simp, fun z hz => by
    obtain rfl : z = y := by simpa using hz
    exact .inr ⟨rfl, Int.le_refl _⟩⟩
  | y :: z :: M, _ => by
    obtain ⟨x, hx, hall⟩ := first_of (z :: M) (by simp)
    by_cases h : x.2 < y.2 ∨ (x.2 = y.2 ∧ x.1 ≤ y.1)
    · refine ⟨x, List.mem_cons_of_mem _ hx, fun u hu => ?_⟩
      rcases List.mem_cons.1 hu with rfl | hu
      · exact h
      · exact hall u hu
    · refine ⟨y, List.mem_cons_self, fun u hu => ?_⟩
      rcases List.mem_cons.1 hu with rfl | hu
      · exact .inr ⟨rfl, Int.le_refl _⟩
      · have := hall u hu
        omega
/-- Taken to the last time there is, nothing is kept. -/
theorem Tk.all {now : Int} {L L1 : List (Int × Int)} {ks : List Int} (h : Tk now L ks L1) (hle : ∀ x ∈ L, x.2 ≤ now) : L1 = [] := by
  by_cases e : L1 = []
  · exact e
  · obtain ⟨x, hx⟩ := first_of L1 e
    have h1 := h.last x hx
    have h2 := hle x (h.sub x hx.1)
    omega
theorem mem_set {L : List (Int × Int)} {k t : Int} {x : Int × Int} : x ∈ setL L k t ↔ (x ∈ L ∧ x.1 ≠ k) ∨ x = (k, t) := by
  unfold setL cutL
  rw [List.mem_append, List.mem_filter, List.mem_singleton]
  simp
theorem set_len (L : List (Int × Int)) (k t : Int) : (setL L k t).length ≤ L.length + 1 := by
  unfold setL
  have : (cutL L k).length ≤ L.length := List.length_filter_le _ _
  simp; omega
/-- The members are the pairs of the places in between. -/
def Holds (ts : Nat → Int) (lo hi : Nat) (L : List (Int × Int)) : Prop := ∀ x, x ∈ L ↔ ∃ i, lo ≤ i ∧ i < hi ∧ x = ((i : Int), ts i)
theorem Holds.nil (ts : Nat → Int) (n : Nat) : Holds ts n n [] := fun x => ⟨fun h => (by cases h), fun ⟨i, h1, h2, _⟩ => (by omega)⟩
theorem Holds.up {ts : Nat → Int} {k : Nat} {L : List (Int × Int)} (h : Holds ts 0 k L) : Holds ts 0 (k + 1) (setL L k (ts k)) := fun x => by
  rw [mem_set, h x]
  constructor
  · rintro (⟨⟨i, h1, h2, rfl⟩, _⟩ | rfl)
    · exact ⟨i, h1, by omega, rfl⟩
    · exact ⟨k, Nat.zero_le _, by omega, rfl⟩
  · rintro ⟨i, h1, h2, rfl⟩
    by_cases e : i = k
    · subst e; exact .inr rfl
    · exact .inl ⟨⟨i, h1, by omega, rfl⟩, by simp; omega⟩
theorem Holds.down {ts : Nat → Int} {j n : Nat} {L : List (Int × Int)} (h : Holds ts (j + 1) n L) (hj : j < n) : Holds ts j n (setL L j (ts j)) := fun x => by
  rw [mem_set, h x]
  constructor
  · rintro (⟨⟨i, h1, h2, rfl⟩, _⟩ | rfl)
    · exact ⟨i, by omega, h2, rfl⟩
    · exact ⟨j, Nat.le_refl _, hj, rfl⟩
  · rintro ⟨i, h1, h2, rfl⟩
    by_cases e : i = j
    · subst e; exact .inr rfl
    · exact .inl ⟨⟨i, by omega, h2, rfl⟩, by simp; omega⟩
/-- Two lists in memory, apart. -/
structure Two (n0 ba bb : Nat) (A B : Nat → Prop) (L M : List (Int × Int)) (W : World) : Prop where
  da : D A ba L W
  db : D B bb M W
  a0 : ∀ b, A b → n0 ≤ b
  b0 : ∀ b, B b → n0 ≤ b
  a1 : ∀ b, A b → b < W.heap.size
  b1 : ∀ b, B b → b < W.heap.size
  dis : ∀ b, A b → ¬ B b
variable {n0 ba bb : Nat} {A B : Nat → Prop} {L M : List (Int × Int)} {W W' : World}
theorem Two.symm (h : Two n0 ba bb A B L M W) : Two n0 bb ba B A M L W := ⟨h.db, h.da, h.b0, h.a0, h.b1, h.a1, fun b hb ha => h.dis b ha hb⟩
theorem Two.below (h : Two n0 ba bb A B L M W) (hB : Below W.heap.size W W') : Two n0 ba bb A B L M W' :=
  ⟨h.da.below hB, h.db.below hB, h.a0, h.b0, fun b hb => Nat.lt_of_lt_of_le (h.a1 b hb) hB.size, fun b hb => Nat.lt_of_lt_of_le (h.b1 b hb) hB.size, h.dis⟩
theorem Two.new {w1 w2 : World} (h1 : D (fun b => W.heap.size ≤ b ∧ b < w1.heap.size) ba [] w1) (hB1 : Below W.heap.size W w1) (h2 : D (fun b => w1.heap.size ≤ b ∧ b < w2.heap.size) bb [] w2) (hB2 : Below w1.heap.size w1 w2) :
    Two W.heap.size ba bb (fun b => W.heap.size ≤ b ∧ b < w1.heap.size) (fun b => w1.heap.size ≤ b ∧ b < w2.heap.size) [] [] w2 :=
  ⟨h1.below hB2, h2, fun b h => h.1, fun b h => Nat.le_trans hB1.size h.1, fun b h => Nat.lt_of_lt_of_le h.2 hB2.size, fun b h => h.2, fun b h h' => by have := h.2; have := h'.1; omega⟩
theorem Two.set {A' : Nat → Prop} {L' : List (Int × Int)} (h : Two n0 ba bb A B L M W) (hn : n0 ≤ W.heap.size) (hA : ∀ b, A' b → A b ∨ W.heap.size ≤ b) (hd : D A' ba L' W') (ht : Turn A W W') : Two n0 ba bb (fun b => A' b ∧ b < W'.heap.size) B L' M W' := by
  refine ⟨hd.trim, h.db.keep fun b hb hg => ht.block b hb fun ha => h.dis b ha hg, fun b hb => ?_, h.b0, fun b hb => hb.2, fun b hb => Nat.lt_of_lt_of_le (h.b1 b hb) ht.size, fun b hb hb' => ?_⟩
  · rcases hA b hb.1 with h1 | h1
    · exact h.a0 b h1
    · omega
  · rcases hA b hb.1 with h1 | h1
    · exact h.dis b h1 hb'
    · have := h.b1 b hb'; omega
theorem Two.take {L' : List (Int × Int)} (h : Two n0 ba bb A B L M W) (hd : D A ba L' W') (ht : Turn A W W') : Two n0 ba bb A B L' M W' :=
  ⟨hd, h.db.keep fun b hb hg => ht.block b hb fun ha => h.dis b ha hg, h.a0, h.b0, fun b hb => Nat.lt_of_lt_of_le (h.a1 b hb) ht.size, fun b hb => Nat.lt_of_lt_of_le (h.b1 b hb) ht.size, h.dis⟩
end Go.Proofs.DU
