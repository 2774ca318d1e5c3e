/- Proved: contracts of single functions of the program and lemmas that they need; each theorem says its own conditions. -/
import Derived.Test.YtblgkhghoppanaaGreatPg
set_option linter.unusedVariables false
set_option linter.unusedSimpArgs false
namespace Go.Proofs.PK
open Go.RowKit
theorem slice_mid (b o l cap lo hi : Nat) (h1 : lo ≤ hi) (h2 : hi ≤ l) (h3 : l ≤ cap) (w : World) : (Instr.sliceAt 24 (.slice (some ⟨b, o, none⟩) l cap) (some (.int .i64 (lo : Int))) (some (.int .i64 (hi : Int))) none).run Tryz.prog w =
    .ok (.slice (some ⟨b, if cap = lo then o else o + lo, none⟩) (hi - lo) (cap - lo)) w := by
  have hu := run_underlying (w := w) Tryz.underlying24
  have hs := Tryz.sizeOf5
  have hn : ¬ ((lo : Int) < 0 ∨ (hi : Int) < (lo : Int)) := by omega
  have hn1 : ¬ ((hi : Int) < 0 ∨ (cap : Int) < (hi : Int)) := by omega
  have hn2 : ¬ ((hi : Int) < (lo : Int)) := by omega
  have hn3 : ¬ ((cap : Int) < (hi : Int)) := by omega
  have hn4 : hi ≤ cap := by omega
  by_cases hc : cap = lo
  · obtain rfl : hi = lo := by omega
    subst hc
    simp [Instr.sliceAt, Instr.slice, hu, Instr.sliceBounds, Instr.sliceBound, hs, Addr.add_lit, go_sem]
  · simp [Instr.sliceAt, Instr.slice, hu, Instr.sliceBounds, Instr.sliceBound, hs, hn4, h1, hc, Addr.add_lit, go_sem]
theorem dec_le : ∀ (m : List Nat) (i n k : Nat), dec i m = .ok (n, k) → 0 < k ∧ k ≤ m.length
  | [], i, n, k, h => by simp [dec] at h
  | c :: r, i, n, k, h => by
    unfold dec at h
    split at h
    · cases h
    · split at h
      · split at h
        · rename_i n' k' h'
          cases h
          have := dec_le r _ _ _ h'
          simp only [List.length_cons]; omega
        · cases h
      · split at h
        · cases h
        · cases h; simp
theorem dec_err : ∀ (m : List Nat) (i e : Nat), dec i m = .error e → ¬ e = 0
  | [], i, e, h => by simp [dec] at h; omega
  | c :: r, i, e, h => by
    unfold dec at h
    split at h
    · cases h; omega
    · split at h
      · split at h
        · cases h
        · rename_i e' h'
          cases h
          exact dec_err r _ _ h'
      · split at h
        · cases h; omega
        · cases h
/-- A text's reading. -/
def txt (l : List Nat) (a : Nat) : Except Nat (List Nat × Nat) := match dec 0 (l.drop a) with
  | .error e => .error e
  | .ok (n, k) => if 65536 < n then .error 4 else if l.length - (a + k) < n then .error 3 else .ok ((l.drop (a + k)).take n, a + k + n)
def gotT : Except Nat (List Nat × Nat) → Value
  | .error e => .tuple #[.string ⟨#[]⟩, .int .i64 0, .int .i64 e]
  | .ok (t, e) => .tuple #[.string (S t), .int .i64 e, .int .i64 0]
def GotT (r : Except Nat (List Nat × Nat)) (w : World) (e : Ending) (w' : World) : Prop := e = .returned (gotT r) ∧ w' = w
theorem Byt.sub {l : List Nat} (h : Byt l) (a n : Nat) : Byt ((l.drop a).take n) := fun x hx => h x (List.mem_of_mem_drop (List.mem_of_mem_take hx))
theorem conv_sub {b o cap e n : Nat} {l : List Nat} {w : World} (hn : e + n ≤ l.length) (hcap : l.length ≤ cap) (hb : 0 < l.length → b < w.heap.size) (hr : ∀ (j x : Nat), l[j]? = some x → w.cell? ⟨b, o + j, none⟩ = some (.int .u8 x)) (hby : Byt l) :
    (convert 24 9 (.slice (some ⟨b, if cap = e then o else o + e, none⟩) n (cap - e))).run Tryz.prog w = .ok (.string (S ((l.drop e).take n))) w := by
  have hlen : ((l.drop e).take n).length = n := by simp; omega
  refine conv_rd (l := (l.drop e).take n) (.inr ⟨b, _, cap - e, by rw [hlen], fun h => hb (by omega), fun j x hx => ?_⟩) (hby.sub e n)
  unfold B at hx
  rw [List.getElem?_map] at hx
  obtain ⟨y, hy, rfl⟩ := Option.map_eq_some_iff.1 hx
  have hj : j < n := by have := (List.getElem?_eq_some_iff.1 hy).1; omega
  rw [List.getElem?_take, if_pos hj, List.getElem?_drop] at hy
  have hne : ¬ cap = e := by omega
  rw [Addr.add_lit, if_neg hne]
  have := hr (e + j) y hy
  rw [Nat.add_assoc]; exact this
set_option maxRecDepth 100000 in
set_option maxHeartbeats 1000000 in
theorem c35 (v : Value) (l : List Nat) (a : Nat) (w : World) (h : RdC w v l) (hby : Byt l) (hl : l.length ≤ 1000000) (ha : a ≤ l.length) : Calls Tryz.prog 35 #[v, .int .i64 a, .int .i64 65536] w (GotT (txt l a) w) := by
  have C34 := c34 v l a w h hby hl ha
  obtain ⟨b, o, cap, rfl, hcap, hb, hr⟩ := h
  unfold txt
  rcases hd : dec 0 (l.drop a) with er | ⟨n, k⟩
  · rw [hd] at C34
    change Calls _ _ _ _ (fun e w' => e = .returned (.tuple #[.int .u64 0, .int .i64 0, .int .i64 er]) ∧ w' = w) at C34
    have he := dec_err _ _ _ hd
    clear hd hr hb hby
    go_enter Tryz.func35, Tryz.ntmps35
    go_wp2_with (first | (go_at_call 34; refine C34.mono ?_; rintro e w1 ⟨rfl, rfl⟩))
    exact bodyPost_ret (v := _) (by simp [results, Tryz.results35, go_sem, gotT]) rfl ⟨rfl, rfl⟩
  · rw [hd] at C34
    have hk := dec_le _ _ _ _ hd
    rw [List.length_drop] at hk
    change Calls _ _ _ _ (fun e w' => e = .returned (.tuple #[.int .u64 n, .int .i64 ((a + k : Nat) : Int), .int .i64 0]) ∧ w' = w) at C34
    clear hd
    change Calls Tryz.prog 35 _ w (GotT (if 65536 < n then .error 4 else if l.length - (a + k) < n then .error 3 else .ok ((l.drop (a + k)).take n, a + k + n)) w)
    by_cases h1 : 65536 < n
    · rw [if_pos h1]
      clear hr hb hby
      go_enter Tryz.func35, Tryz.ntmps35
      go_wp2_with (first | (go_at_call 34; refine C34.mono ?_; rintro e w1 ⟨rfl, rfl⟩))
      exact bodyPost_ret (v := _) (by simp [results, Tryz.results35, go_sem, gotT]) rfl ⟨rfl, rfl⟩
    · rw [if_neg h1]
      obtain ⟨e, he⟩ : ∃ e, a + k = e := ⟨_, rfl⟩
      rw [he] at C34 ⊢
      have hel : e ≤ l.length := by omega
      clear hk he
      by_cases h2 : l.length - e < n
      · rw [if_pos h2]
        clear hr hb hby
        go_enter Tryz.func35, Tryz.ntmps35
        go_wp2_with (first | (go_at_call 34; refine C34.mono ?_; rintro e w1 ⟨rfl, rfl⟩))
        exact bodyPost_ret (v := _) (by simp [results, Tryz.results35, go_sem, gotT]) rfl ⟨rfl, rfl⟩
      · rw [if_neg h2]
        have hsl := slice_mid b o l.length cap e (e + n) (by omega) (by omega) hcap w
        rw [Nat.add_sub_cancel_left] at hsl
        have hcv := conv_sub (e := e) (n := n) (by omega) hcap hb hr hby
        generalize (if cap = e then o else o + e) = oo at hsl hcv
        push_cast at hsl
        clear hr hb hby
        go_enter Tryz.func35, Tryz.ntmps35
        go_wp2_with (first | (go_at_call 34; refine C34.mono ?_; rintro e w1 ⟨rfl, rfl⟩))
        exact bodyPost_ret (v := _) (by simp [results, Tryz.results35, go_sem, gotT]) rfl ⟨rfl, rfl⟩
set_option maxRecDepth 100000 in
set_option maxHeartbeats 1000000 in
theorem c39 (v : Value) (l : List Nat) (a : Nat) (w : World) (h : RdC w v l) (hby : Byt l) (hl : l.length ≤ 1000000) (ha : a ≤ l.length) : Calls Tryz.prog 39 #[v, .int .i64 a, .int .i64 65536] w (GotT (txt l a) w) := by
  have C38 := c38 v l a w h hby hl ha
  obtain ⟨b, o, cap, rfl, hcap, hb, hr⟩ := h
  unfold txt
  rcases hd : dec 0 (l.drop a) with er | ⟨n, k⟩
  · rw [hd] at C38
    change Calls _ _ _ _ (fun e w' => e = .returned (.tuple #[.int .u64 0, .int .i64 0, .int .i64 er]) ∧ w' = w) at C38
    have he := dec_err _ _ _ hd
    clear hd hr hb hby
    go_enter Tryz.func39, Tryz.ntmps39
    go_wp2_with (first | (go_at_call 38; refine C38.mono ?_; rintro e w1 ⟨rfl, rfl⟩))
    all_goals exact bodyPost_ret (v := _) (by simp [results, Tryz.results39, go_sem, gotT]) rfl ⟨rfl, rfl⟩
  · rw [hd] at C38
    have hk := dec_le _ _ _ _ hd
    rw [List.length_drop] at hk
    change Calls _ _ _ _ (fun e w' => e = .returned (.tuple #[.int .u64 n, .int .i64 ((a + k : Nat) : Int), .int .i64 0]) ∧ w' = w) at C38
    clear hd
    change Calls Tryz.prog 39 _ w (GotT (if 65536 < n then .error 4 else if l.length - (a + k) < n then .error 3 else .ok ((l.drop (a + k)).take n, a + k + n)) w)
    by_cases h1 : 65536 < n
    · rw [if_pos h1]
      clear hr hb hby
      go_enter Tryz.func39, Tryz.ntmps39
      go_wp2_with (first | (go_at_call 38; refine C38.mono ?_; rintro e w1 ⟨rfl, rfl⟩))
      all_goals exact bodyPost_ret (v := _) (by simp [results, Tryz.results39, go_sem, gotT]) rfl ⟨rfl, rfl⟩
    · rw [if_neg h1]
      obtain ⟨e, he⟩ : ∃ e, a + k = e := ⟨_, rfl⟩
      rw [he] at C38 ⊢
      have hel : e ≤ l.length := by omega
      clear hk he
      by_cases h2 : l.length - e < n
      · rw [if_pos h2]
        clear hr hb hby
        go_enter Tryz.func39, Tryz.ntmps39
        go_wp2_with (first | (go_at_call 38; refine C38.mono ?_; rintro e w1 ⟨rfl, rfl⟩))
        all_goals exact bodyPost_ret (v := _) (by simp [results, Tryz.results39, go_sem, gotT]) rfl ⟨rfl, rfl⟩
      · rw [if_neg h2]
        have hsl := slice_mid b o l.length cap e (e + n) (by omega) (by omega) hcap w
        rw [Nat.add_sub_cancel_left] at hsl
        have hcv := conv_sub (e := e) (n := n) (by omega) hcap hb hr hby
        generalize (if cap = e then o else o + e) = oo at hsl hcv
        push_cast at hsl
        clear hr hb hby
        go_enter Tryz.func39, Tryz.ntmps39
        go_wp2_with (first | (go_at_call 38; refine C38.mono ?_; rintro e w1 ⟨rfl, rfl⟩))
        all_goals exact bodyPost_ret (v := _) (by simp [results, Tryz.results39, go_sem, gotT]) rfl ⟨rfl, rfl⟩
end Go.Proofs.PK
