/- Proved: what 'Take' and 'Lose' come to. Each theorem says its own conditions. -/
import Derived.Test.YtopnmikijbajfaaNh
set_option linter.unusedVariables false
set_option linter.unusedSimpArgs false
namespace Go.Proofs.NT
open Go.RowKit Go.Ai
theorem NetAt.bound {F : Nat → Prop} {bn : Nat} {L : List Ml} {W : World} (h : NetAt F bn L W) : NetAt (fun b => F b ∧ b < W.heap.size) bn L W := by
  have hl := h.lt
  obtain ⟨lv, xs, h1, h2, h3, h4, h5⟩ := h
  exact ⟨lv, xs, h1, h2, fun g hg => ⟨⟨(h3 g hg).1, (h2.lt g hg).2⟩, (h3 g hg).2⟩, ⟨h4, hl⟩, h5.weaken fun b hb ho => ⟨⟨ho.1, hb⟩, ho.2⟩⟩
theorem NetAt.more {F F' : Nat → Prop} {bn : Nat} {L : List Ml} {W : World} (h : NetAt F bn L W) (hF : ∀ b, F b → F' b) : NetAt F' bn L W := by
  obtain ⟨lv, xs, h1, h2, h3, h4, h5⟩ := h
  exact ⟨lv, xs, h1, h2, fun g hg => ⟨hF _ (h3 g hg).1, (h3 g hg).2⟩, hF _ h4, h5.weaken fun b hb ho => ⟨hF _ ho.1, ho.2⟩⟩
theorem rows_one {ok : Nat → Prop} {W : World} {xs : List Value} {L : List Ml} (h : Rows mlE ok W xs L) : ∀ (j : Nat) (v : Value), xs[j]? = some v → v.oneCell' = true := by
  intro j v e
  have hj := (List.getElem?_eq_some_iff.1 e).1
  have hx : xs.length = L.length * 3 := h.1
  have hi : j / 3 < L.length := by omega
  obtain ⟨u, ec, hb⟩ := h.2 (j / 3) _ (List.getElem?_eq_getElem hi)
  obtain ⟨p, c, rfl⟩ := hb.slice
  have ec : (xs.drop (j / 3 * 3)).take 3 = _ := ec
  have : ((xs.drop (j / 3 * 3)).take 3)[j % 3]? = some v := by
    rw [List.getElem?_take, if_pos (by omega), List.getElem?_drop, ← e]
    congr 1; omega
  rw [ec] at this
  have h3 : j % 3 = 0 ∨ j % 3 = 1 ∨ j % 3 = 2 := by omega
  rcases h3 with h3 | h3 | h3 <;> rw [h3] at this <;> simp at this <;> rw [← this] <;> rfl
/-- A mail taken off. -/
theorem NetAt.without {F : Nat → Prop} {bn g n c i : Nat} {L : List Ml} {w w1 w2 : World} {xs : List Value} {cur : Array Value} (hi : i < L.length)
    (h1 : w.heap[bn]? = some (.cells #[.slice (some ⟨g, 0, none⟩) L.length c] 56 (0, 0))) (h3 : F g ∧ g ≠ bn) (h4 : F bn) (hF : ∀ b, F b → b < w.heap.size) (h5 : Rows mlE (fun b => F b ∧ b ≠ bn ∧ (Value.slice (some ⟨g, 0, none⟩) L.length c).ownBlock ≠ some b) w xs L)
    (hg : w.heap[g]? = some (.cells cur 39 (0, 0))) (hcap : L.length ≤ c) (hmax : c ≤ maxLen) (hsz : cur.size = c * 3) (hxs : cur.toList.take (L.length * 3) = xs) (hB : Below w.heap.size w w1) (e : Ending) (hD : DelOut g L.length c i cur w1 e w2) :
    e = .returned (.slice (some ⟨g, 0, none⟩) (L.length - 1) c) ∧ NetAt F bn (L.take i ++ L.drop (i + 1)) (w2.setCell ⟨bn, 0, none⟩ (.slice (some ⟨g, 0, none⟩) (L.length - 1) c)) ∧ Turn F w (w2.setCell ⟨bn, 0, none⟩ (.slice (some ⟨g, 0, none⟩) (L.length - 1) c)) ∧
      w2.cell? ⟨bn, 0, none⟩ = some (.slice (some ⟨g, 0, none⟩) L.length c) ∧ w2.frozen? ⟨bn, 0, none⟩ = false ∧ Turn (fun b => b = g) w1 w2 := by
  obtain ⟨he, hT, cur', k1, k2, k3⟩ := hD
  have hbn := (Array.getElem?_eq_some_iff.1 h1).1
  have hgl := (Array.getElem?_eq_some_iff.1 hg).1
  have hs1 := hB.size
  have hb2 : w2.heap[bn]? = some (.cells #[.slice (some ⟨g, 0, none⟩) L.length c] 56 (0, 0)) := (hT.block bn (by omega) (fun e => h3.2 e.symm)).trans ((hB.block bn hbn).trans h1)
  have hset : ∀ W, Keeps (fun b => b ≠ bn) W (W.setCell ⟨bn, 0, none⟩ (.slice (some ⟨g, 0, none⟩) (L.length - 1) c)) := fun W => ⟨by rw [World.size_setCell]; exact Nat.le_refl _, fun b _ ho => Below.heap_setCell _ _ _ _ ho⟩
  have hk : Keeps (fun b => b ≠ g) w w2 := (Keeps.below hB).trans (hT.keeps fun b _ ho e => ho e)
  have hx : ∀ j, j < (L.length - 1) * 3 → cur'[j]? = (xs.take (i * 3) ++ xs.drop ((i + 1) * 3))[j]? := by
    intro j hj
    have hlen : xs.length = L.length * 3 := h5.1
    have hcx : ∀ q, q < L.length * 3 → xs[q]? = cur[q]? := fun q hq => by rw [← hxs, List.getElem?_take, if_pos hq, Array.getElem?_toList]
    rw [k3 j hj]
    by_cases h : j < i * 3
    · rw [if_pos h, List.getElem?_append_left (by rw [List.length_take]; omega), List.getElem?_take, if_pos h, hcx j (by omega)]
    · rw [if_neg h, List.getElem?_append_right (by rw [List.length_take]; omega), List.length_take, List.getElem?_drop, Nat.min_eq_left (by omega), hcx _ (by omega)]
      congr 1; omega
  have hLl : (L.take i ++ L.drop (i + 1)).length = L.length - 1 := by rw [List.length_append, List.length_take, List.length_drop]; omega
  refine ⟨he, ⟨.slice (some ⟨g, 0, none⟩) (L.length - 1) c, xs.take (i * 3) ++ xs.drop ((i + 1) * 3), ?_, ?_, ?_, h4, ?_⟩, ?_, cell_of_heap hb2 0, by simp [World.frozen?, hb2], hT⟩
  · rw [heap_setCell hb2]; rfl
  · have hlen : xs.length = L.length * 3 := h5.1
    refine ⟨by rw [List.length_append, List.length_take, List.length_drop, hLl, hlen]; omega, .inr ⟨g, c, cur', by rw [hLl], Nat.zero_le _, ?_, by omega, hmax, by rw [k2]; exact hsz, ?_⟩⟩
    · rw [Below.heap_setCell _ _ _ _ (fun e => h3.2 e)]; exact k1
    · rw [hLl]
      refine List.ext_getElem? fun j => ?_
      rw [List.getElem?_take]
      by_cases hj : j < (L.length - 1) * 3
      · rw [if_pos hj, Array.getElem?_toList]; exact hx j hj
      · rw [if_neg hj, List.getElem?_eq_none]
        rw [List.length_append, List.length_take, List.length_drop, hlen]; omega
  · intro g' e
    cases e
    exact h3
  · refine Rows.mono (W := w2) ?_ ((hset w2).less fun b _ ho => ho.2.1)
    refine Rows.mono (W := w) ?_ (hk.less fun b _ ho e => ho.2.2 (by rw [e]; rfl))
    exact Rows.without (E := mlE) (h5.weaken fun b hb ho => ⟨ho.1, ho.2.1, ho.2.2⟩) i hi
  · refine Turn.trans (F' := F) ?_ (Turn.set w2 _ _ h4) (fun b _ h => h)
    exact Turn.trans (F' := F) (Turn.of hB) (hT.more fun b e => by rw [e]; exact h3.1) (fun b _ h => h)
def TakeOut (F : Nat → Prop) (bn : Nat) (L : List Ml) (i : Nat) (m : Ml) (w : World) (e : Ending) (w' : World) : Prop :=
  ∃ p l c, e = .returned (.tuple #[.agg #[.int .u32 m.a, .int .u32 m.b, .slice p l c], .bool true]) ∧ BIn w' (.slice p l c) m.s ∧ NetAt F bn (L.take i ++ L.drop (i + 1)) w' ∧ Turn F w w'
theorem c12z (bn : Nat) (k : Int) (p : Option Addr) (c : Nat) (w : World) (h : w.cell? ⟨bn, 0, none⟩ = some (.slice p 0 c)) : Calls Try.prog 12 #[nptr bn, .int .i64 k] w fun e w' => e = .returned (.tuple #[.agg #[.int .u32 0, .int .u32 0, .slice none 0 0], .bool false]) ∧ Below w.heap.size w w' := by
  have hb : bn < w.heap.size := World.block_lt_of_cell? w _ h
  have K := c20z bn k p c (w.alloc (.cells #[.int .u32 0, .int .u32 0, .slice none 0 0] 39)) ((((Below.refl _ w).alloc (Nat.le_refl _) _).cell (p := ⟨bn, 0, none⟩) hb).trans h)
  go_enter Try.func12, Try.ntmps12
  go_wp2_with (go_at_call 20; refine K.mono ?_; rintro e w2 ⟨rfl, rfl⟩)
  refine bodyPost_ret (v := .tuple #[.agg #[.int .u32 0, .int .u32 0, .slice none 0 0], .bool false]) (by simp [results, Try.results12, go_sem]) rfl ⟨rfl, ?_⟩
  repeat refine Below.setCell ?_ (by simp) _
  exact (Below.refl _ w).alloc (Nat.le_refl _) _
set_option maxRecDepth 100000 in
set_option maxHeartbeats 4000000 in
theorem c12 {F : Nat → Prop} {bn : Nat} {L : List Ml} {w : World} {k : Int} {m : Ml} (hm : L[k.toNat % L.length]? = some m) (hL : L.length ≤ 512) (hF : ∀ b, F b → b < w.heap.size) (h : NetAt F bn L w) : Calls Try.prog 12 #[nptr bn, .int .i64 k] w (TakeOut F bn L (k.toNat % L.length) m w) := by
  have hpos : 0 < L.length := by
    rcases Nat.eq_zero_or_pos L.length with h | h
    · rw [List.eq_nil_of_length_eq_zero h] at hm; simp at hm
    · exact h
  obtain ⟨g, c, pv, pl, pc, hc, hg, y0, y1, y2, hby⟩ := h.get hm
  obtain ⟨lv, xs, h1, h2, h3, h4, h5⟩ := h
  obtain ⟨p', c', rfl⟩ := own_slice h2
  have hc' : w.cell? ⟨bn, 0, none⟩ = some (.slice p' L.length c') := cell_of_heap h1 0
  rw [hc'] at hc
  cases hc
  have hfz : w.frozen? ⟨bn, 0, none⟩ = false := by simp [World.frozen?, h1]
  have hbn : bn < w.heap.size := (Array.getElem?_eq_some_iff.1 h1).1
  obtain ⟨cur, hgh, hcap, hmax, hsz, hxs⟩ : ∃ cur : Array Value, w.heap[g]? = some (.cells cur 39 (0, 0)) ∧ L.length ≤ c ∧ c ≤ maxLen ∧ cur.size = c * 3 ∧ cur.toList.take (L.length * 3) = xs := by
    rcases h2.2 with ⟨h, _⟩ | ⟨g', cap, cur, e, _, a, b, d, f, i⟩
    · cases h
    · cases e; exact ⟨cur, a, b, d, f, i⟩
  have hat : k.toNat % L.length < L.length := Nat.mod_lt _ hpos
  have hB1 : Below w.heap.size w (w.alloc (.cells #[.int .u32 0, .int .u32 0, .slice none 0 0] 39)) := (Below.refl _ w).alloc (Nat.le_refl _) _
  have K20 := c20 bn k (some ⟨g, 0, none⟩) L.length c (w.alloc (.cells #[.int .u32 0, .int .u32 0, .slice none 0 0] 39)) ((hB1.cell (p := ⟨bn, 0, none⟩) hbn).trans hc') hpos hL
  have hB2 : Below w.heap.size w ((w.alloc (.cells #[.int .u32 0, .int .u32 0, .slice none 0 0] 39)).alloc (.cells #[.int .u32 m.a, .int .u32 m.b, .slice pv pl pc] 39)) := hB1.alloc (by simp) _
  have K21 : Calls Try.prog 21 #[.slice (some ⟨g, 0, none⟩) L.length c, .int .i64 ((k.toNat % L.length : Nat) : Int), .int .i64 (((k.toNat % L.length : Nat) : Int) + 1)] ((w.alloc (.cells #[.int .u32 0, .int .u32 0, .slice none 0 0] 39)).alloc (.cells #[.int .u32 m.a, .int .u32 m.b, .slice pv pl pc] 39)) (DelOut g L.length c (k.toNat % L.length) cur ((w.alloc (.cells #[.int .u32 0, .int .u32 0, .slice none 0 0] 39)).alloc (.cells #[.int .u32 m.a, .int .u32 m.b, .slice pv pl pc] 39))) := by
    have hgh2 := (hB2.block g hg).trans hgh
    obtain ⟨n, hn⟩ : ∃ n, L.length = n + 1 := ⟨L.length - 1, by omega⟩
    by_cases hlast : k.toNat % L.length = n
    · rw [hlast, hn]
      exact c21l g n c cur _ hgh2 (by omega) hsz (by omega)
    · have := c21m g n c (k.toNat % L.length) cur _ hgh2 (by omega) (by omega) hsz (by omega) fun j v hj hv => rows_one h5 j v (by rw [← hxs, List.getElem?_take, if_pos (by omega), Array.getElem?_toList]; exact hv)
      rw [hn] at this ⊢
      exact this
  have HW := fun e w2 (hD : DelOut g L.length c (k.toNat % L.length) cur _ e w2) => NetAt.without (F := F) (n := 0) hat h1 (h3 g rfl) h4 hF h5 hgh hcap hmax hsz hxs hB2 e hD
  have hgb : g ≠ bn := (h3 g rfl).2
  have HW := Lib.hid HW
  have HBY := Lib.hid hby
  have z0 := (hB1.cell (p := ⟨g, (k.toNat % L.length) * 3, none⟩) hg).trans y0
  have z1 := (hB1.cell (p := ⟨g, (k.toNat % L.length) * 3 + 1, none⟩) hg).trans y1
  have z2 := (hB1.cell (p := ⟨g, (k.toNat % L.length) * 3 + 2, none⟩) hg).trans y2
  have b0 := (hB1.cell (p := ⟨bn, 0, none⟩) hbn).trans hc'
  obtain ⟨ma, mb, ms⟩ := m
  have HM := Lib.hid hm
  simp only at *
  clear h1 h2 h3 h5 hby hxs hgh y0 y1 y2 hm
  generalize hN : L.length = n at *
  generalize hQ : k.toNat % n = q at *
  go_enter Try.func12, Try.ntmps12
  go_wp2_with (first
    | (go_at_call 20; refine K20.mono ?_; rintro e w2 ⟨rfl, rfl⟩)
    | (go_at_call 21; refine K21.mono ?_; intro e w2 hD; obtain ⟨rfl, hnet, hturn, g0, g1, hT2⟩ := HW.out e w2 hD; have HNET := Lib.hid hnet; have HTURN := Lib.hid hturn; have u0 := (hT2.keeps (ok := fun b => b ≠ g) (fun b _ h e => h e)).cell (b := w.heap.size + 1) (by simp) (by omega) 0; have u1 := (hT2.keeps (ok := fun b => b ≠ g) (fun b _ h e => h e)).cell (b := w.heap.size + 1) (by simp) (by omega) 1; have u2 := (hT2.keeps (ok := fun b => b ≠ g) (fun b _ h e => h e)).cell (b := w.heap.size + 1) (by simp) (by omega) 2; have blk := (hT2.block w.heap.size (by simp; omega) (fun e => by omega)).trans ((((Below.refl _ (w.alloc (.cells #[.int .u32 0, .int .u32 0, .slice none 0 0] 39))).alloc (Nat.le_refl _) (.cells #[.int .u32 ma, .int .u32 mb, .slice pv pl pc] 39)).block w.heap.size (by simp)).trans (heap_alloc_new w _)); have s0 := cell_of_heap blk 0; have s1 := cell_of_heap blk 1; have s2 := cell_of_heap blk 2; simp only [List.getElem?_toArray, List.getElem?_cons_succ, List.getElem?_cons_zero] at s0 s1 s2; have t0 : w2.frozen? ⟨w.heap.size, 0, none⟩ = false := (by simp [World.frozen?, blk]); have t1 : w2.frozen? ⟨w.heap.size, 1, none⟩ = false := (by simp [World.frozen?, blk]); have t2 : w2.frozen? ⟨w.heap.size, 2, none⟩ = false := (by simp [World.frozen?, blk]); have hsz2 := hT2.size; simp at hsz2; have HT2 := Lib.hid hT2; clear hT2 blk))
  refine bodyPost_ret (v := .tuple #[.agg #[.int .u32 ma, .int .u32 mb, .slice pv pl pc], .bool true]) (by simp [results, Try.results12, go_sem, s0, s1, s2, t0, t1, t2]) rfl ⟨pv, pl, pc, rfl, ?_, ?_, ?_⟩
  all_goals generalize hX : w2.setCell ⟨bn, 0, none⟩ (.slice (some ⟨g, 0, none⟩) (n - 1) c) = X at *
  all_goals have hs2 : w.heap.size < X.heap.size := (by rw [← hX, World.size_setCell]; omega)
  all_goals have hT : Turn (fun b => b = w.heap.size) X _ := Turn.trans (F' := fun b => b = w.heap.size) (Turn.trans (F' := fun b => b = w.heap.size) (Turn.set X ⟨w.heap.size, 0, none⟩ (.int .u32 ma) rfl) (Turn.set _ ⟨w.heap.size, 1, none⟩ (.int .u32 mb) rfl) (fun b _ h => h)) (Turn.set _ ⟨w.heap.size, 2, none⟩ (.slice pv pl pc) rfl) (fun b _ h => h)
  · refine BytAt.bin (ok := fun b => F b ∧ b ≠ bn ∧ g ≠ b) (BytAt.mono (W := X) ?_ (hT.keeps fun b _ ho e => by have := hF b ho.1; omega))
    rw [← hX]
    refine BytAt.mono (W := w2) ?_ ⟨by rw [World.size_setCell]; exact Nat.le_refl _, fun b _ ho => Below.heap_setCell _ _ _ _ ho.2.1⟩
    exact BytAt.mono HBY.out ((Keeps.below hB2).trans (HT2.out.keeps fun b _ ho e => ho.2.2 e.symm))
  · exact HNET.out.keeps (hT.keeps fun b _ ho e => by have := hF b ho; omega)
  · exact Turn.trans (F' := fun b => b = w.heap.size) HTURN.out hT (fun b hb e => by omega)
theorem c18z (bn : Nat) (k : Int) (p : Option Addr) (c : Nat) (w : World) (h : w.cell? ⟨bn, 0, none⟩ = some (.slice p 0 c)) : Calls Try.prog 18 #[nptr bn, .int .i64 k] w fun e w' => e = .returned (.bool false) ∧ Below w.heap.size w w' := by
  have K := c12z bn k p c w h
  go_enter Try.func18, Try.ntmps18
  go_wp2_with (go_at_call 12; refine K.mono ?_; rintro e w2 ⟨rfl, hB⟩)
  go_ret
  exact ⟨rfl, hB.alloc hB.size _⟩
theorem c18 {F : Nat → Prop} {bn : Nat} {L : List Ml} {w : World} {k : Int} {m : Ml} (hm : L[k.toNat % L.length]? = some m) (hL : L.length ≤ 512) (hF : ∀ b, F b → b < w.heap.size) (h : NetAt F bn L w) : Calls Try.prog 18 #[nptr bn, .int .i64 k] w fun e w' => e = .returned (.bool true) ∧ NetAt F bn (L.take (k.toNat % L.length) ++ L.drop (k.toNat % L.length + 1)) w' ∧ Turn F w w' := by
  have K := c12 hm hL hF h
  have HF := Lib.hid hF
  clear h hF
  go_enter Try.func18, Try.ntmps18
  go_wp2_with (go_at_call 12; refine K.mono ?_; rintro e w2 ⟨p2, l2, c2, rfl, hb, hn, ht⟩; have HN := Lib.hid hn; have HT := Lib.hid ht; clear hb hn ht)
  go_ret
  have hal : Below w2.heap.size w2 (w2.alloc (.cells #[.int .u32 m.a, .int .u32 m.b, .slice p2 l2 c2] 39)) := (Below.refl _ w2).alloc (Nat.le_refl _) _
  exact ⟨rfl, HN.out.below hal, Turn.trans (F' := F) HT.out (Turn.of hal) (fun b _ h => h)⟩
end Go.Proofs.NT
