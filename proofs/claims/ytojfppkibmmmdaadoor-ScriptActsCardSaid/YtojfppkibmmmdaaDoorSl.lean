/- Proved: a beginning of bytes has a beginning of their acts; what the law of beginnings comes to. Each theorem says its own conditions. -/
import Derived.Test.YtojfppkibmmmdaaDoorSk
set_option linter.unusedVariables false
set_option linter.unusedSimpArgs false
namespace Go.Proofs.SA
open Go.RowKit
theorem actsL_four (m k w n x : Nat) (r : List Nat) : actsL (m + 1) (k :: w :: n :: x :: r) = if kindN k = 11 then { actC 11 w n x with byt := r.take (n % 16) } :: actsL m (r.drop (n % 16)) else actC (kindN k) w n x :: actsL m r := rfl
theorem acts_prefix : ∀ (m : Nat) (L : List Nat) (k : Nat), (actsL m (L.take k)).length ≤ (actsL m L).length ∧ ∀ (i : Nat) (a : PA), (actsL m (L.take k))[i]? = some a → ∃ b, (actsL m L)[i]? = some b ∧ b.kind = a.kind ∧ b.who = a.who ∧ (i + 1 < (actsL m (L.take k)).length → b = a)
  | 0, L, k => by simp [actsL]
  | m + 1, L, k => by
    by_cases hs : (L.take k).length < 4
    · rw [actsL_short hs]; simp
    · have hk : 4 ≤ k := by rw [List.length_take] at hs; omega
      have hl : 4 ≤ L.length := by rw [List.length_take] at hs; omega
      obtain ⟨c, w, n, x, r, rfl⟩ : ∃ c w n x r, L = c :: w :: n :: x :: r := by
        match L, hl with
        | c :: w :: n :: x :: r, _ => exact ⟨c, w, n, x, r, rfl⟩
      obtain ⟨q, rfl⟩ : ∃ q, k = q + 4 := ⟨k - 4, by omega⟩
      have ht : (c :: w :: n :: x :: r).take (q + 4) = c :: w :: n :: x :: r.take q := rfl
      rw [ht, actsL_four, actsL_four]
      by_cases h11 : kindN c = 11
      · rw [if_pos h11, if_pos h11]
        by_cases hq : n % 16 ≤ q
        · have e1 : (r.take q).take (n % 16) = r.take (n % 16) := by rw [List.take_take, Nat.min_eq_left hq]
          have e2 : (r.take q).drop (n % 16) = (r.drop (n % 16)).take (q - n % 16) := by rw [List.drop_take]
          rw [e1, e2]
          obtain ⟨i1, i2⟩ := acts_prefix m (r.drop (n % 16)) (q - n % 16)
          refine ⟨by simpa using i1, fun i a e => ?_⟩
          cases i with
          | zero => simp at e; subst e; exact ⟨_, rfl, rfl, rfl, fun _ => rfl⟩
          | succ i =>
            obtain ⟨b, h1, h2, h3, h4⟩ := i2 i a (by simpa using e)
            exact ⟨b, by simpa using h1, h2, h3, fun h => h4 (by simpa using h)⟩
        · have e2 : (r.take q).drop (n % 16) = [] := List.drop_of_length_le (by rw [List.length_take]; omega)
          have e3 : actsL m [] = [] := actsL_short (by simp)
          rw [e2, e3]
          refine ⟨by simp, fun i a e => ?_⟩
          cases i with
          | zero => simp at e; subst e; exact ⟨_, rfl, rfl, rfl, fun h => by simp at h⟩
          | succ i => simp at e
      · rw [if_neg h11, if_neg h11]
        obtain ⟨i1, i2⟩ := acts_prefix m r q
        refine ⟨by simpa using i1, fun i a e => ?_⟩
        cases i with
        | zero => simp at e; subst e; exact ⟨_, rfl, rfl, rfl, fun _ => rfl⟩
        | succ i =>
          obtain ⟨b, h1, h2, h3, h4⟩ := i2 i a (by simpa using e)
          exact ⟨b, by simpa using h1, h2, h3, fun h => h4 (by simpa using h)⟩
theorem acts_byt : ∀ (m : Nat) (L : List Nat), (∀ x ∈ L, x < 256) → ∀ a ∈ actsL m L, ∀ x ∈ a.byt, x < 256
  | 0, L, _, a, h => by simp [actsL] at h
  | m + 1, L, hb, a, h => by
    by_cases hs : L.length < 4
    · rw [actsL_short hs] at h; simp at h
    · obtain ⟨c, w, n, x, r, rfl⟩ : ∃ c w n x r, L = c :: w :: n :: x :: r := by
        match L, Nat.le_of_not_lt hs with
        | c :: w :: n :: x :: r, _ => exact ⟨c, w, n, x, r, rfl⟩
      have hr : ∀ y ∈ r, y < 256 := fun y hy => hb y (by simp [hy])
      rw [actsL_four] at h
      split at h
      · rcases List.mem_cons.1 h with rfl | h
        · exact fun y hy => hr y (List.mem_of_mem_take hy)
        · exact acts_byt m _ (fun y hy => hr y (List.mem_of_mem_drop hy)) a h
      · rcases List.mem_cons.1 h with rfl | h
        · intro y hy; simp [actC] at hy
        · exact acts_byt m _ hr a h
theorem ActsOwn.mono {PP : Pats} (HS : Still PP) {base : Nat} {W W' : World} {v : Value} {l : List PA} (h : ActsOwn PP base W v l) (hB : Below W.heap.size W W') : ActsOwn PP base W' v l := by
  obtain ⟨xs, h1, h2⟩ := h
  exact ⟨xs, own_below h1 hB, h2.mono HS (Go.Ai.Keeps.below hB)⟩
theorem ActsOwn.slice {PP : Pats} {base : Nat} {W : World} {v : Value} {l : List PA} (h : ActsOwn PP base W v l) : ∃ p c, v = .slice p l.length c ∧ (0 < l.length → ∃ g, p = some ⟨g, 0, none⟩ ∧ g < W.heap.size) := by
  obtain ⟨xs, h1, h2⟩ := h
  rcases h1.2 with ⟨rfl, e⟩ | ⟨g, cap, cur, rfl, hg, hh, _⟩
  · exact ⟨none, 0, by rw [e], fun h => by omega⟩
  · exact ⟨_, _, rfl, fun _ => ⟨g, rfl, (Array.getElem?_eq_some_iff.1 hh).1⟩⟩
/-- The cells of the act at a place. -/
theorem act_at {PP : Pats} {base g n cap : Nat} {W : World} {l : List PA} {i : Nat} {a : PA} (h : ActsOwn PP base W (.slice (some ⟨g, 0, none⟩) n cap) l) (e : l[i]? = some a) : ∃ p5 l5 m5 p6 l6 m6 m7 p8 l8 m8 p9 l9 m9,
    ActIs PP (okOut base (.slice (some ⟨g, 0, none⟩) n cap)) W [.int .u8 (a.kind : Int), .int .u32 (a.who : Int), .int .u32 (a.nn : Int), .int .u32 (a.kk : Int), .int .u8 (a.topic : Int), .slice p5 l5 m5, .slice p6 l6 m6, .int .u64 m7, .slice p8 l8 m8, .slice p9 l9 m9] a ∧ g < W.heap.size ∧
    W.cell? ⟨g, i * 10, none⟩ = some (.int .u8 (a.kind : Int)) ∧ W.cell? ⟨g, i * 10 + 1, none⟩ = some (.int .u32 (a.who : Int)) ∧ W.cell? ⟨g, i * 10 + 2, none⟩ = some (.int .u32 (a.nn : Int)) ∧ W.cell? ⟨g, i * 10 + 3, none⟩ = some (.int .u32 (a.kk : Int)) ∧ W.cell? ⟨g, i * 10 + 4, none⟩ = some (.int .u8 (a.topic : Int)) ∧
    W.cell? ⟨g, i * 10 + 5, none⟩ = some (.slice p5 l5 m5) ∧ W.cell? ⟨g, i * 10 + 6, none⟩ = some (.slice p6 l6 m6) ∧ W.cell? ⟨g, i * 10 + 7, none⟩ = some (.int .u64 m7) ∧ W.cell? ⟨g, i * 10 + 8, none⟩ = some (.slice p8 l8 m8) ∧ W.cell? ⟨g, i * 10 + 9, none⟩ = some (.slice p9 l9 m9) := by
  obtain ⟨xs, h1, h2⟩ := h
  have hA := h2.2 i a e
  have hi := (List.getElem?_eq_some_iff.1 e).1
  have hlen : xs.length = l.length * 10 := h2.1
  obtain ⟨v5, v6, v7, v8, v9, ec, h5, h6, h8, h9⟩ := id hA
  obtain ⟨_, _, _, rfl⟩ := h5.slice
  obtain ⟨_, _, _, _, rfl, rfl⟩ := h6.form
  obtain ⟨_, _, _, rfl⟩ := h8.slice
  obtain ⟨_, _, _, rfl⟩ := h9.slice
  have hc : ∀ (j : Nat) (x : Value), ((xs.drop (i * 10)).take 10)[j]? = some x → W.cell? ⟨g, i * 10 + j, none⟩ = some x := fun j x hx => by
    have hj : j < 10 := by have := (List.getElem?_eq_some_iff.1 hx).1; rw [List.length_take] at this; omega
    rw [List.getElem?_take, if_pos hj, List.getElem?_drop] at hx
    have := h1.cells (g := g) rfl (i * 10 + j) x hx
    rw [Addr.add_lit, Nat.zero_add] at this
    exact this
  have hg : g < W.heap.size := own_block h1 rfl
  rw [ec] at hA hc
  exact ⟨_, _, _, _, _, _, _, _, _, _, _, _, _, hA, hg, hc 0 _ rfl, hc 1 _ rfl, hc 2 _ rfl, hc 3 _ rfl, hc 4 _ rfl, hc 5 _ rfl, hc 6 _ rfl, hc 7 _ rfl, hc 8 _ rfl, hc 9 _ rfl⟩
set_option maxRecDepth 100000 in
set_option maxHeartbeats 400000 in
theorem c8n (PP : Pats) (w : World) : Calls Tryd.prog 8 #[.slice none 0 0] w (ActsOut PP (actsL 1024 []) w) := by
  go_enter Tryd.func8, Tryd.ntmps8
  go_wp2
  go_loop [0, 3] (fun b o => b = .slice none 0 0 ∧ o = .slice none 0 0) (fun _ _ => 0)
  case atStart => exact ⟨rfl, rfl⟩
  case round =>
    obtain ⟨rfl, rfl⟩ := hrel
    go_wp2
    go_ret
    exact ⟨_, rfl, ⟨[], ⟨rfl, .inl ⟨rfl, rfl⟩⟩, ActsAt.nil _ _ _⟩, Below.refl _ _⟩
theorem pat_got (lo : Nat) (hlo : lo = 100 ∨ lo = 160) (n : Nat) (hn : n < 256) (W' : World) : Calls Tryd.prog 13 #[.int .u8 n] W' (PatGot (PI 13 lo) (n % 32) W') := c13 lo hlo n hn W'
end Go.Proofs.SA
