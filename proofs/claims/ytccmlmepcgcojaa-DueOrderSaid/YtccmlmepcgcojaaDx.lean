/- Proved: what the law 'DuePlays' comes to, called. Each theorem says its own conditions. -/
import Derived.Test.YtccmlmepcgcojaaDw
set_option linter.unusedVariables false
set_option linter.unusedSimpArgs false
namespace Go.Proofs.DU
open Go.RowKit
def CutG (W : World) (w : World) (e : Ending) (w' : World) : Prop := ∃ (pp : Option Addr) (n c : Nat), e = .returned (.slice pp n c) ∧ n ≤ 200 ∧ (∀ i, i < n → ∃ b o x, pp = some ⟨b, o, none⟩ ∧ OpAt W b (o + i * 3) x) ∧ w = w'
theorem cutn (W w : World) : Calls Try.prog 13 #[.slice none 0 0] w (CutG W w) :=
  (c13n w).mono fun e w' ⟨h, h2⟩ => ⟨none, 0, 0, h, by omega, fun i hi => by omega, h2⟩
theorem cutg (b o l c : Nat) (W w : World) (hlc : l ≤ c) (hmax : c ≤ 9223372036854775807) (hops : ∀ i, i < l → ∃ x, OpAt W b (o + i * 3) x) : Calls Try.prog 13 #[.slice (some ⟨b, o, none⟩) l c] w (CutG W w) :=
  (c13s ⟨b, o, none⟩ l c w hlc hmax).mono fun e w' ⟨h, h2⟩ => ⟨_, _, c, h, by omega, fun i hi => by
    obtain ⟨x, hx⟩ := hops i (by omega)
    exact ⟨b, o, x, rfl, hx⟩, h2⟩
theorem both_new {W w1 w2 : World} {bd : Nat} (hd : D (fun b => W.heap.size ≤ b ∧ b < w1.heap.size) bd [] w1) (hB : Below w1.heap.size w1 w2) : Both W.heap.size bd (fun b => W.heap.size ≤ b ∧ b < w1.heap.size) (.slice none 0 0) [] w2 :=
  ⟨hd.below hB, fun b h => h.1, fun b h => Nat.lt_of_lt_of_le h.2 hB.size, World.ownsRow_nil _ _ _ _, fun g h => by simp [Value.ownBlock] at h⟩
/-- What the two 'Next' say, side by side. -/
theorem Turn.into {n0 : Nat} {W wr w2 : World} (hB : Below n0 W wr) (ht : Turn (n0 ≤ ·) wr w2) (hn : n0 ≤ wr.heap.size) : Below n0 W w2 := ht.below hB (fun b h => h) hn
theorem c16n (v : Value) (L : List (Int × Int)) (N : Nat) (w : World) (h : RefAt N w v L) (hL : L.length < 3000) : Calls Try.prog 16 #[v] w fun e w' => Below w.heap.size w w' ∧ w.heap = w'.heap ∧ ∃ i : Int, e = .returned (.int .i64 i) ∧ ((L = [] ∧ i = -1) ∨ ∃ (j : Nat) (x : Int × Int), i = j ∧ L[j]? = some x ∧ First L x) := by
  refine (c16 v L N w h hL).mono ?_
  rintro e w' ⟨ht, hh, ⟨h1, rfl⟩ | ⟨j, x, rfl, h2, h3⟩⟩
  · exact ⟨turn_none ht, hh, _, rfl, .inl ⟨h1, rfl⟩⟩
  · exact ⟨turn_none ht, hh, _, rfl, .inr ⟨j, x, rfl, h2, h3⟩⟩
end Go.Proofs.DU
