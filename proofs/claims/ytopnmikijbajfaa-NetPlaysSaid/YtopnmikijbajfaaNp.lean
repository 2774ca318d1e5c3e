/- Proved: the document's mails in memory, and what its functions come to. Each theorem says its own conditions. -/
import Derived.Test.YtopnmikijbajfaaNm
set_option linter.unusedVariables false
set_option linter.unusedSimpArgs false
namespace Go.Proofs.NT
open Go.RowKit Go.Ai
def rcell (m : Ml) : List Value := [.int .u32 m.a, .int .u32 m.b, .string ⟨m.s.toArray⟩]
def rcells (L : List Ml) : List Value := L.flatMap rcell
theorem rcells_len : ∀ L : List Ml, (rcells L).length = L.length * 3
  | [] => rfl
  | m :: r => by
    have := rcells_len r
    simp only [rcells, List.flatMap_cons, List.length_append, List.length_cons] at *
    rw [this]; simp [rcell]; omega
theorem rcells_snoc (L : List Ml) (m : Ml) : rcells (L ++ [m]) = rcells L ++ rcell m := by simp [rcells]
theorem rcells_get : ∀ (L : List Ml) (i : Nat) (m : Ml), L[i]? = some m → ∀ (j : Nat) (x : Value), (rcell m)[j]? = some x → (rcells L)[i * 3 + j]? = some x
  | [], i, m, h, j, x, hx => by simp at h
  | a :: r, 0, m, h, j, x, hx => by
    simp at h; subst h
    have hj : j < 3 := (List.getElem?_eq_some_iff.1 hx).1
    show (rcell a ++ r.flatMap rcell)[0 * 3 + j]? = some x
    rw [List.getElem?_append_left (by simp [rcell]; omega)]
    simpa using hx
  | a :: r, i + 1, m, h, j, x, hx => by
    have := rcells_get r i m (by simpa using h) j x hx
    show (rcell a ++ r.flatMap rcell)[(i + 1) * 3 + j]? = some x
    rw [List.getElem?_append_right (by simp [rcell]; omega), ← this]
    show _ = (rcells r)[i * 3 + j]?
    congr 1
    simp [rcell]; omega
theorem rcells_one (L : List Ml) : ∀ u ∈ rcells L, u.oneCell' = true := by
  intro u hu
  obtain ⟨m, _, hm⟩ := List.mem_flatMap.1 hu
  simp [rcell] at hm
  rcases hm with rfl | rfl | rfl <;> rfl
/-- The document's mails, in a block of its own. -/
def RefAt (N : Nat) (W : World) (v : Value) (L : List Ml) : Prop := W.ownsRow N 51 3 v L.length (rcells L)
theorem RefAt.get {N : Nat} {W : World} {v : Value} {L : List Ml} {i : Nat} {m : Ml} (h : RefAt N W v L) (e : L[i]? = some m) : ∃ g c, v = .slice (some ⟨g, 0, none⟩) L.length c ∧ N ≤ g ∧ g < W.heap.size ∧ W.cell? ⟨g, i * 3, none⟩ = some (.int .u32 m.a) ∧ W.cell? ⟨g, i * 3 + 1, none⟩ = some (.int .u32 m.b) ∧ W.cell? ⟨g, i * 3 + 2, none⟩ = some (.string ⟨m.s.toArray⟩) := by
  have hi := (List.getElem?_eq_some_iff.1 e).1
  have h' := h
  rcases h.2 with ⟨rfl, e0⟩ | ⟨g, cap, cur, rfl, hg, hh, _⟩
  · omega
  · have hc : ∀ (j : Nat) (x : Value), (rcell m)[j]? = some x → W.cell? ⟨g, i * 3 + j, none⟩ = some x := fun j x hx => by
      have := World.ownsRow.cells h' (g := g) rfl (i * 3 + j) x (rcells_get L i m e j x hx)
      rw [Addr.add_lit, Nat.zero_add] at this
      exact this
    exact ⟨g, cap, rfl, hg, (Array.getElem?_eq_some_iff.1 hh).1, hc 0 _ rfl, hc 1 _ rfl, hc 2 _ rfl⟩
theorem info51 : (Try.prog.info? 51).map (fun i => (i.zero, i.size, i.bytes)) = some (some (.agg #[.int .u32 0, .int .u32 0, .string ⟨#[]⟩]), 3, 24) := by kernel_rfl
theorem own_empty (w : World) (N : Nat) (hN : N ≤ w.heap.size) : (w.alloc (.cells #[] 51)).ownsRow N 51 3 (.slice (some ⟨w.heap.size, 0, none⟩) 0 0) 0 [] :=
  ⟨rfl, .inr ⟨w.heap.size, 0, #[], rfl, hN, heap_alloc_new w _, Nat.le_refl _, Nat.zero_le _, rfl, rfl⟩⟩
theorem c14f (v : Value) (L : List Ml) (N : Nat) (a b : Int) (s : List UInt8) (bv : Value) (w : World) (h : RefAt N w v L) (hL : L.length = 512) (hb : BIn w bv s) (hs : s.length ≤ 16384) :
    Calls Try.prog 14 #[v, .int .u32 a, .int .u32 b, bv] w fun e w' => e = .returned (.tuple #[.int .i64 7, v]) ∧ w = w' := by
  obtain ⟨p, c, rfl⟩ := own_slice h
  obtain ⟨q, d, rfl⟩ := hb.slice
  have e1 : decide ((16384 : Int) < (s.length : Int)) = false := by simp; omega
  rw [hL]
  clear h hb
  generalize s.length = sl at *
  go_enter Try.func14, Try.ntmps14
  go_wp2
  exact bodyPost_ret (v := .tuple #[.int .i64 7, .slice p 512 c]) (by simp [results, Try.results14, go_sem]) rfl ⟨rfl, rfl⟩
def RSendOut (L : List Ml) (w : World) (e : Ending) (w' : World) : Prop := ∃ v', e = .returned (.tuple #[.int .i64 0, v']) ∧ RefAt w.heap.size w' v' L ∧ Below w.heap.size w w'
set_option maxRecDepth 100000 in
set_option maxHeartbeats 4000000 in
theorem c14 (v : Value) (L : List Ml) (N : Nat) (a b : Int) (s : List UInt8) (bv : Value) (w : World) (h : RefAt N w v L) (hL : L.length < 512) (hb : BIn w bv s) (hs : s.length ≤ 16384) :
    Calls Try.prog 14 #[v, .int .u32 a, .int .u32 b, bv] w (RSendOut (L ++ [⟨a, b, s⟩]) w) := by
  obtain ⟨i0, hi0, hz0, hz1, hz2⟩ := info_parts info51
  obtain ⟨q, d, rfl⟩ := hb.slice
  have e1 : decide ((16384 : Int) < (s.length : Int)) = false := by simp; omega
  have e2 : decide ((511 : Int) < (L.length : Int)) = false := by simp; omega
  have hcv := fun (w' : World) (hB : Below w.heap.size w w') => conv_bin (hb.mono hB)
  have hown0 := own_empty w w.heap.size (Nat.le_refl _)
  clear hb
  rcases Nat.eq_zero_or_pos L.length with hz | hpos
  · have hLn : L = [] := List.eq_nil_of_length_eq_zero hz
    subst hLn
    obtain ⟨p, c, rfl⟩ := own_slice h
    clear h
    have hcv1 := hcv (w.alloc (.cells #[] 51)) ((Below.refl _ w).alloc (Nat.le_refl _) _)
    clear hcv
    simp only [List.length_nil]
    generalize hSL : s.length = sl at *
    have hp : ∀ p : Option Addr, p = none ∨ ∃ x, p = some x := fun p => by cases p <;> simp
    rcases hp p with rfl | ⟨x, rfl⟩
    all_goals
      go_enter Try.func14, Try.ntmps14
      go_wp2_with (at_builtin; refine wpList_append_lies _ (by rfl) _ _ 44 (by rfl) w.heap.size 51 i0 _ 3 24 Try.underlying44 hi0 hz0 hz1 hz2 rfl (by omega) _ 0 [] (by rfl) (hown0.alloc _) ⟨w.heap.size + 1, 0, none⟩ 1 1 [.int .u32 a, .int .u32 b, .string ⟨s.toArray⟩] (by rfl) (by rfl) (World.news_of_block (cs := #[.int .u32 a, .int .u32 b, .string ⟨s.toArray⟩]) (t := 51) (fr := (0, 0)) (by simpa using heap_alloc_new (w.alloc (.cells #[] 51)) (.cells #[.int .u32 a, .int .u32 b, .string ⟨s.toArray⟩] 51))) (by simp [Value.oneCell']) (by omega) (by unfold maxLen; omega) (by omega) (by simp; omega) (w.heap.size + 1 + 1) (by simp) ?_; intro gg cap w4 hown4 hgrow hat hlt4; have HO4 := Lib.hid hown4; have HG4 := Lib.hid hgrow; clear hown4 hgrow)
      refine bodyPost_ret (v := .tuple #[.int .i64 0, .slice (some ⟨gg, 0, none⟩) 1 cap]) (by simp [results, Try.results14, go_sem]) rfl ⟨_, rfl, HO4.out, ?_⟩
      exact (((Below.refl _ w).alloc (Nat.le_refl _) _).alloc (by simp) _).grown HG4.out (by simp; omega) fun k e => by cases e; exact Nat.le_refl _
  · obtain ⟨m0, hm0⟩ : ∃ m, L[0]? = some m := ⟨_, List.getElem?_eq_getElem hpos⟩
    obtain ⟨g, c, rfl, hgN, hgl, _⟩ := h.get hm0
    have hnews : ∀ (j : Nat) (u : Value), (rcells L)[j]? = some u → (w.alloc (.cells #[] 51)).cell? ((⟨g, 0, none⟩ : Addr).add j) = some u := fun j u hu => by
      have := World.ownsRow.cells h (g := g) rfl j u hu
      rw [Addr.add_lit] at this ⊢
      rw [((Below.refl _ w).alloc (Nat.le_refl _) _).cell (p := ⟨g, 0 + j, none⟩) hgl]
      exact this
    have hrl := rcells_len L
    have hro := rcells_one L
    have HCV := Lib.hid hcv
    clear h hcv hm0
    generalize hSL : s.length = sl at *
    generalize hN : L.length = n at *
    generalize hRC : rcells L = rc at *
    go_enter Try.func14, Try.ntmps14
    go_wp2_with (first
      | (at_builtin; refine wpList_append_lies _ (by rfl) _ _ 44 (by rfl) w.heap.size 51 i0 _ 3 24 Try.underlying44 hi0 hz0 hz1 hz2 rfl (by omega) _ 0 [] (by rfl) hown0 ⟨g, 0, none⟩ n c rc (by rfl) hrl hnews hro (by omega) (by unfold maxLen; omega) (by omega) (by simp) (w.heap.size + 1) (by simp) ?_; intro g1 cap1 w1 hown1 hgrow1 hat1 hlt1; have hB1 : Below w.heap.size w w1 := ((Below.refl _ w).alloc (Nat.le_refl _) _).grown hgrow1 (by simp) (fun k e => by cases e; exact Nat.le_refl _); have hcv1 := HCV.out w1 hB1; simp only [Nat.zero_add, List.nil_append] at hown1 ⊢; have HB1 := Lib.hid hB1; clear hown0 hgrow1 hB1 hnews hat1)
      | (at_builtin; refine wpList_append_lies _ (by rfl) _ _ 44 (by rfl) w.heap.size 51 i0 _ 3 24 Try.underlying44 hi0 hz0 hz1 hz2 rfl (by omega) _ n rc (by rfl) (hown1.alloc _) ⟨w1.heap.size, 0, none⟩ 1 1 [.int .u32 a, .int .u32 b, .string ⟨s.toArray⟩] (by rfl) (by rfl) (World.news_of_block (cs := #[.int .u32 a, .int .u32 b, .string ⟨s.toArray⟩]) (t := 51) (fr := (0, 0)) (heap_alloc_new w1 _)) (by simp [Value.oneCell']) (by omega) (by unfold maxLen; omega) (by omega) (by have := HB1.out.size; simp; omega) (w1.heap.size + 1) (by simp) ?_; intro gg cap w4 hown4 hgrow hat hlt4; have HO4 := Lib.hid hown4; have HG4 := Lib.hid hgrow; clear hown4 hgrow))
    refine bodyPost_ret (v := .tuple #[.int .i64 0, .slice (some ⟨gg, 0, none⟩) (n + 1) cap]) (by simp [results, Try.results14, go_sem]) rfl ⟨_, rfl, ?_, ?_⟩
    · have := HO4.out
      unfold RefAt
      rw [rcells_snoc, List.length_append, hN, hRC]
      exact this
    · exact (HB1.out.alloc HB1.out.size _).grown HG4.out (by have := HB1.out.size; simp; omega) fun k e => (hown1.lt k e).1
end Go.Proofs.NT
