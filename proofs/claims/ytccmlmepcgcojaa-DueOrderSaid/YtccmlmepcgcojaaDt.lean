/- Proved: 'Equal' of two rows of the same keys; the cut of operations. Each theorem says its own conditions. -/
import Derived.Test.YtccmlmepcgcojaaDs
set_option linter.unusedVariables false
set_option linter.unusedSimpArgs false
namespace Go.Proofs.DU
open Go.RowKit
theorem KAt.get {W : World} {v : Value} {ks : List Int} {i : Nat} {k : Int} (h : KAt W v ks) (e : ks[i]? = some k) : ∃ g c, v = .slice (some ⟨g, 0, none⟩) ks.length c ∧ g < W.heap.size ∧ W.cell? ⟨g, i, none⟩ = some (.int .u64 k) := by
  have hi := (List.getElem?_eq_some_iff.1 e).1
  have h' := h
  rcases h.2 with ⟨rfl, e0⟩ | ⟨g, cap, cur, rfl, hg, hh, _⟩
  · omega
  · have := World.ownsRow.cells h' (g := g) rfl i (.int .u64 k) (by rw [List.getElem?_map, e]; rfl)
    rw [Addr.add_lit, Nat.zero_add] at this
    exact ⟨g, cap, rfl, (Array.getElem?_eq_some_iff.1 hh).1, this⟩
set_option maxRecDepth 100000 in
set_option maxHeartbeats 2000000 in
theorem c10 (v1 v2 : Value) (ks : List Int) (w : World) (h1 : KAt w v1 ks) (h2 : KAt w v2 ks) (hn : ks.length < 4000) : Calls Try.prog 10 #[v1, v2] w fun e w' => e = .returned (.bool true) ∧ Below w.heap.size w w' := by
  have HA := Lib.hid (fun (i : Nat) (k : Int) (e : ks[i]? = some k) => h1.get e)
  have HB := Lib.hid (fun (i : Nat) (k : Int) (e : ks[i]? = some k) => h2.get e)
  obtain ⟨p1, c1, rfl⟩ := own_slice h1
  obtain ⟨p2, c2, rfl⟩ := own_slice h2
  clear h1 h2
  generalize hN : ks.length = n at *
  have HN := Lib.hid hN
  clear hN
  go_enter Try.func10, Try.ntmps10
  go_wp2
  go_loopw [13] (fun i wr => ∃ k : Nat, i = .int .i64 k ∧ k ≤ n ∧ Below w.heap.size w wr) (fun i _ => n - (intOf i).toNat)
  case atStart => exact ⟨0, rfl, Nat.zero_le _, Below.refl _ _⟩
  case round =>
    obtain ⟨k, rfl, hk, hB⟩ := hrel
    by_cases hlt : k < n
    · obtain ⟨x, hx⟩ : ∃ x, ks[k]? = some x := ⟨_, List.getElem?_eq_getElem (by rw [HN.out]; exact hlt)⟩
      obtain ⟨g1, d1, e1, l1, y1⟩ := HA.out k x hx
      obtain ⟨g2, d2, e2, l2, y2⟩ := HB.out k x hx
      cases e1
      cases e2
      have y1 := ((bcell hB).1 _ _ l1).trans y1
      have y2 := ((bcell hB).1 _ _ l2).trans y2
      have HBB := Lib.hid hB
      clear hB hx
      go_wp2
      go_region_held (fun w' => w'.cell? ⟨g1, k, none⟩ = some (.int .u64 x) ∧ w'.cell? ⟨g2, k, none⟩ = some (.int .u64 x)) (go_keep) (fail)
      all_goals go_wp2
      all_goals go_roundw
      all_goals first
        | (simp [intOf]; omega)
        | exact ⟨k + 1, by go_num, by omega, HBB.out.drew⟩
    · have hkn : k = n := by omega
      subst hkn
      go_wp2
      go_ret
      exact ⟨rfl, hB⟩
/-- The first 200 operations. -/
theorem c13s (a : Addr) (l c : Nat) (w : World) (hlc : l ≤ c) (hmax : c ≤ 9223372036854775807) : Calls Try.prog 13 #[.slice (some a) l c] w fun e w' => e = .returned (.slice (some a) (min l 200) c) ∧ w = w' := by
  rcases Nat.lt_or_ge 200 l with h | h
  · have e : min l 200 = 200 := by omega
    have e2 : min (l : Int) 200 = 200 := by omega
    have h200 : 200 ≤ c := by omega
    rw [e]
    go_enter Try.func13, Try.ntmps13
    go_wp2
    go_ret
    exact ⟨rfl, rfl⟩
  · have e : min l 200 = l := by omega
    have e2 : min (l : Int) 200 = l := by omega
    rw [e]
    go_enter Try.func13, Try.ntmps13
    go_wp2
    go_ret
    exact ⟨rfl, rfl⟩
theorem c13n (w : World) : Calls Try.prog 13 #[.slice none 0 0] w fun e w' => e = .returned (.slice none 0 0) ∧ w = w' := by
  go_enter Try.func13, Try.ntmps13
  go_wp2
  go_ret
  exact ⟨rfl, rfl⟩
/-- A list and the document's hold the same; in blocks from a number on. -/
structure Both (n0 bd : Nat) (G : Nat → Prop) (v : Value) (L : List (Int × Int)) (W : World) : Prop where
  d : D G bd L W
  g0 : ∀ b, G b → n0 ≤ b
  g1 : ∀ b, G b → b < W.heap.size
  ref : RefAt 0 W v L
  v0 : ∀ g, v.ownBlock = some g → n0 ≤ g ∧ ¬ G g
def DoOut (n0 bd m : Nat) (w : World) (e : Ending) (w' : World) : Prop := ∃ v' G' L', e = .returned (.tuple #[.bool true, v']) ∧ Both n0 bd G' v' L' w' ∧ Turn (n0 ≤ ·) w w' ∧ L'.length ≤ m + 1
theorem any_cut (L : List (Int × Int)) (k : Int) : (L.any fun x => decide (x.1 = k)) = decide ((cutL L k).length < L.length) := by
  unfold cutL
  by_cases h : ∃ x ∈ L, x.1 = k
  · obtain ⟨x, hx, hk⟩ := h
    have h1 : (L.any fun x => decide (x.1 = k)) = true := List.any_eq_true.2 ⟨x, hx, by simp [hk]⟩
    rw [h1]
    symm
    rw [decide_eq_true_eq]
    have := List.length_filter_lt_length_iff_exists (p := fun x : Int × Int => !decide (x.1 = k)) (l := L)
    exact this.2 ⟨x, hx, by simp [hk]⟩
  · have h2 : ∀ x ∈ L, x.1 ≠ k := fun x hx e => h ⟨x, hx, e⟩
    have h1 : (L.any fun x => decide (x.1 = k)) = false := by rw [List.any_eq_false]; intro x hx; simp [h2 x hx]
    rw [h1]
    symm
    rw [decide_eq_false_iff_not]
    have := cut_none h2
    unfold cutL at this
    rw [this]
    omega
theorem Both.below {n0 bd : Nat} {G : Nat → Prop} {v : Value} {L : List (Int × Int)} {W W' : World} (h : Both n0 bd G v L W) (hB : Below W.heap.size W W') : Both n0 bd G v L W' :=
  ⟨h.d.below hB, h.g0, fun b hb => Nat.lt_of_lt_of_le (h.g1 b hb) hB.size, own_below h.ref hB, h.v0⟩
/-- An operation on the list, then the document's. -/
theorem Both.set {n0 bd : Nat} {G G' : Nat → Prop} {v v' : Value} {L L' : List (Int × Int)} {w0 w2 w3 : World} (h : Both n0 bd G v L w0) (hn : n0 ≤ w0.heap.size) (hG : ∀ b, G' b → G b ∨ w0.heap.size ≤ b) (hd : D G' bd L' w2) (ht : Turn G w0 w2) (hr : RefAt w2.heap.size w3 v' L') (hB : Below w2.heap.size w2 w3) :
    Both n0 bd (fun b => G' b ∧ b < w2.heap.size) v' L' w3 ∧ Turn (n0 ≤ ·) w0 w3 := by
  refine ⟨⟨hd.trim.below hB, fun b hb => ?_, fun b hb => Nat.lt_of_lt_of_le hb.2 hB.size, own_base hr (Nat.zero_le _), fun g hg => ?_⟩, ?_⟩
  · rcases hG b hb.1 with h1 | h1
    · exact h.g0 b h1
    · omega
  · have := (hr.lt g hg).1
    exact ⟨Nat.le_trans hn (Nat.le_trans ht.size this), fun x => by have := x.2; omega⟩
  · exact (ht.more (F' := (n0 ≤ ·)) h.g0).trans (Turn.of hB) fun _ _ h => h
/-- The document's rows lie as they lay. -/
theorem Both.ref_turn {n0 bd : Nat} {G : Nat → Prop} {v : Value} {L : List (Int × Int)} {w0 w2 : World} (h : Both n0 bd G v L w0) (ht : Turn G w0 w2) : RefAt 0 w2 v L := own_keep h.ref fun g hg hl => ht.block g hl (h.v0 g hg).2
end Go.Proofs.DU
