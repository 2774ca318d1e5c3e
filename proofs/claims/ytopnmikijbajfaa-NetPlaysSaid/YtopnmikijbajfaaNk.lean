/- Proved: how many of each mail may still be taken, in a map; each theorem says its own conditions. -/
import Derived.Test.YtopnmikijbajfaaNj
import Derived.Maps.OwnOps
import Derived.Maps.OwnSet
import Derived.Maps.Views
import Derived.StringKeys
set_option linter.unusedVariables false
set_option linter.unusedSimpArgs false
namespace Go.Proofs.NT
open Go.RowKit Go.Ai Go.Maps
theorem MAt.get {N : Nat} {W : World} {v : Value} {L : List Ml} {i : Nat} {m : Ml} (h : MAt N W v L) (e : L[i]? = some m) : ∃ g c p pc, v = .slice (some ⟨g, 0, none⟩) L.length c ∧ N ≤ g ∧ g < W.heap.size ∧ W.cell? ⟨g, i * 3, none⟩ = some (.int .u32 m.a) ∧ W.cell? ⟨g, i * 3 + 1, none⟩ = some (.int .u32 m.b) ∧
    W.cell? ⟨g, i * 3 + 2, none⟩ = some (.slice p m.s.length pc) ∧ BytAt (fun b => N ≤ b ∧ g ≠ b) W (.slice p m.s.length pc) m.s := by
  obtain ⟨xs, h2, h3, h5⟩ := h
  obtain ⟨u, ec, hb⟩ := h5.2 i m e
  have hi := (List.getElem?_eq_some_iff.1 e).1
  obtain ⟨p, c, rfl⟩ := hb.slice
  rcases h2.2 with ⟨rfl, e0⟩ | ⟨g, cap, cur, rfl, hg, hh, _⟩
  · omega
  · have hc : ∀ (j : Nat) (x : Value), ((xs.drop (i * 3)).take 3)[j]? = some x → W.cell? ⟨g, i * 3 + j, none⟩ = some x := fun j x hx => by
      have hj : j < 3 := by have := (List.getElem?_eq_some_iff.1 hx).1; rw [List.length_take] at this; omega
      rw [List.getElem?_take, if_pos hj, List.getElem?_drop] at hx
      have := h2.cells (g := g) rfl (i * 3 + j) x hx
      rw [Addr.add_lit, Nat.zero_add] at this
      exact this
    have ec : (xs.drop (i * 3)).take 3 = [.int .u32 m.a, .int .u32 m.b, .slice p m.s.length c] := ec
    rw [ec] at hc
    exact ⟨g, cap, p, c, rfl, h3 g rfl, (Array.getElem?_eq_some_iff.1 hh).1, hc 0 _ rfl, hc 1 _ rfl, hc 2 _ rfl, hb.weaken fun b _ ho => ⟨ho.1, fun e => ho.2 (by rw [e]; rfl)⟩⟩
def keyL (m : Ml) : List UInt8 := (kf m.a m.b m.s).data.toList
def cnt (L : List Ml) (q : List UInt8) : Nat := (L.filter fun m => decide (keyL m = q)).length
theorem cnt_snoc (L : List Ml) (m : Ml) (q : List UInt8) : cnt (L ++ [m]) q = cnt L q + if keyL m = q then 1 else 0 := by
  unfold cnt
  rw [List.filter_append, List.length_append]
  by_cases h : keyL m = q <;> simp [h]
theorem cnt_without {L : List Ml} {i : Nat} {m : Ml} (h : L[i]? = some m) (q : List UInt8) : cnt L q = cnt (L.take i ++ L.drop (i + 1)) q + if keyL m = q then 1 else 0 := by
  have hi := (List.getElem?_eq_some_iff.1 h).1
  have e : L = L.take i ++ (m :: L.drop (i + 1)) := by
    have h2 : L[i] = m := (List.getElem?_eq_some_iff.1 h).2
    rw [← h2, List.getElem_cons_drop]
    exact (List.take_append_drop i L).symm
  conv => lhs; rw [e]
  unfold cnt
  rw [List.filter_append, List.length_append, List.filter_append, List.length_append, List.filter_cons]
  by_cases hq : keyL m = q <;> simp [hq] <;> omega
def LeftAt (W : World) (bm n : Nat) (L : List Ml) : Prop := ∃ D : DataW Unit, W.ownsMap Try.prog 9 (plainElem Try.prog 3) bm n D ∧ ∀ q : List UInt8, D.atKey (.string q) (.lit (.int .i64 0)) = .lit (.int .i64 (cnt L q))
theorem LeftAt.lt {W : World} {bm n : Nat} {L : List Ml} (h : LeftAt W bm n L) : bm < W.heap.size := by
  obtain ⟨D, h, _⟩ := h
  exact h.lt
theorem own_map_keeps {W W' : World} {bm n : Nat} {D : DataW Unit} (h : W.ownsMap Try.prog 9 (plainElem Try.prog 3) bm n D) (he : W'.heap[bm]? = W.heap[bm]?) : W'.ownsMap Try.prog 9 (plainElem Try.prog 3) bm n D := by
  obtain ⟨es, clock, hb, F, hs, hD⟩ := h
  exact ⟨es, clock, he.trans hb, F, hs, hD⟩
theorem LeftAt.keeps {W W' : World} {bm n : Nat} {L : List Ml} (h : LeftAt W bm n L) (he : W'.heap[bm]? = W.heap[bm]?) : LeftAt W' bm n L := by
  obtain ⟨D, h, hq⟩ := h
  exact ⟨D, own_map_keeps h he, hq⟩
theorem left_new (w : World) : LeftAt (w.alloc (.map #[] 0)) w.heap.size 0 [] := ⟨.map [], World.ownsMap_made w _ _ _, fun q => rfl⟩
theorem left_put {W' : World} {bm n : Nat} {D : DataW Unit} {L L' : List Ml} {q : List UInt8} {v : Nat} (hm : IsMap D) (h : W'.ownsMap Try.prog 9 (plainElem Try.prog 3) bm n (D.put (.string q) (.lit (.int .i64 v)))) (ho : ∀ q : List UInt8, D.atKey (.string q) (.lit (.int .i64 0)) = .lit (.int .i64 (cnt L q))) (hv : v = cnt L' q) (hL : ∀ p, p ≠ q → cnt L p = cnt L' p) : LeftAt W' bm n L' := by
  refine ⟨_, h, fun p => ?_⟩
  by_cases hp : p = q
  · subst hp
    rw [atKey_put_same hm (show WideAt.IsKeyLit (.string p) from trivial), hv]
  · rw [atKey_put_other (fun e => hp (by cases e; rfl)), ho p, hL p hp]
theorem zero3 (w : World) : (zeroValue 3).run Try.prog w = .ok (.int .i64 0) w := run_zero' (by kernel_rfl) w
theorem law9 : Keyed Try.prog 9 := string_keyed Try.underlying9
theorem key_ok (a b : Int) (s : List UInt8) (h : s.length ≤ 20000) : keyOf Try.prog 9 (.string (kf a b s)) = some (.string (keyL ⟨a, b, s⟩)) := by
  refine Go.WideMaps.keyOf_string_mk Try.underlying9 ?_
  unfold kf
  rw [ByteArray.size_append]
  show (keyB a b).toArray.size + s.toArray.size ≤ maxLen
  simp [keyB]
  unfold maxLen
  omega
def MOk (m : Ml) : Prop := 0 ≤ m.a ∧ m.a < 4294967296 ∧ 0 ≤ m.b ∧ m.b < 4294967296 ∧ m.s.length ≤ 6000
/-- What holds ahead of a round. -/
structure R3 (W : World) (bn bm : Nat) (k : Nat) (wr : World) (L : List Ml) (F : Nat → Prop) (n : Nat) : Prop where
  net : NetAt F bn L wr
  foot : ∀ b, F b → W.heap.size ≤ b ∧ b < wr.heap.size ∧ b ≠ bm
  left : LeftAt wr bm n L
  nk : n ≤ k
  lk : L.length ≤ k
  ok : ∀ m ∈ L, MOk m
  below : Below W.heap.size W wr
  bmW : W.heap.size ≤ bm
/-- Behind a step that turned blocks of F alone, then the map. -/
theorem R3.next {W : World} {bn bm k : Nat} {wr w2 w5 : World} {L L' : List Ml} {F F' : Nat → Prop} {n n' : Nat} (h : R3 W bn bm k wr L F n) (hn : NetAt F' bn L' w2) (hF : ∀ b, F' b → F b ∨ wr.heap.size ≤ b) (ht : Turn F wr w2) (h5 : Turn (fun b => b = bm) w2 w5) (hl : LeftAt w5 bm n' L') (hnk : n' ≤ k + 1) (hlk : L'.length ≤ k + 1) (hok : ∀ m ∈ L', MOk m) :
    ∃ L F n, R3 W bn bm (k + 1) w5 L F n := by
  have hbm := h.left.lt
  have hs2 := ht.size
  have hs5 := h5.size
  have hfoot : ∀ b, F' b → W.heap.size ≤ b ∧ b ≠ bm := fun b hb => by
    rcases hF b hb with hx | hx
    · exact ⟨(h.foot b hx).1, (h.foot b hx).2.2⟩
    · have := h.below.size
      exact ⟨by omega, by omega⟩
  refine ⟨L', fun b => F' b ∧ b < w5.heap.size, n', ⟨?_, fun b hb => ⟨(hfoot b hb.1).1, hb.2, (hfoot b hb.1).2⟩, hl, hnk, hlk, hok, ?_, h.bmW⟩⟩
  · exact (NetAt.keeps hn (h5.keeps fun b _ ho e => (hfoot b ho).2 e)).bound
  · refine h5.below (ht.below h.below (fun b hb => (h.foot b hb).1) h.below.size) (fun b e => by rw [e]; exact h.bmW) (by have := h.below.size; omega)
end Go.Proofs.NT
