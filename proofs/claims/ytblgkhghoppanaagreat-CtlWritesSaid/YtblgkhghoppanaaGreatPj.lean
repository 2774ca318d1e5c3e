/- Proved: contracts of single functions of the program and lemmas that they need; each theorem says its own conditions. -/
import Derived.Test.YtblgkhghoppanaaGreatPi
set_option linter.unusedVariables false
set_option linter.unusedSimpArgs false
namespace Go.Proofs.PK
open Go.RowKit
theorem rdn_of_own {w : World} {base : Nat} {v : Value} {l : List Nat} (h : w.ownsRow base 5 1 v l.length (B l)) : RdN w v l := by
  rcases h.2 with ⟨h1, h2⟩ | ⟨g, cap, cur, rfl, h1, h2, _⟩
  · exact .inl ⟨0, h1, List.eq_nil_of_length_eq_zero (by omega)⟩
  · exact .inr ⟨g, 0, cap, rfl, fun _ => (Array.getElem?_eq_some_iff.1 h2).1, fun j x hx => h.cells (g := g) rfl j x hx⟩
theorem txt_le {l t : List Nat} {a e : Nat} (h : txt l a = .ok (t, e)) (ha : a ≤ l.length) : e ≤ l.length ∧ t.length ≤ e := by
  unfold txt at h
  split at h
  · cases h
  · rename_i n k hd
    have := (dec_le _ _ _ _ hd).2
    rw [List.length_drop] at this
    split at h
    · cases h
    · split at h
      · cases h
      · cases h
        refine ⟨by omega, ?_⟩
        rw [List.length_take, List.length_drop]
        omega
abbrev w16 (w : World) : World := (w13 w).alloc (.cells #[.int .u8 0, .int .u32 0, .int .u64 0, .slice none 0 0] 26)
abbrev w17 (w : World) : World := (w16 w).alloc (.cells #[] 5)
theorem own_slice {w : World} {base n : Nat} {v : Value} {xs : List Value} (h : w.ownsRow base 5 1 v n xs) : ∃ p l c, v = .slice p l c := by
  rcases h.2 with ⟨h1, _⟩ | ⟨g, c, _, h1, _⟩
  · exact ⟨_, _, _, h1⟩
  · exact ⟨_, _, _, h1⟩
theorem rdn_sets {w : World} {base b : Nat} {v : Value} {l : List Nat} (h : w.ownsRow base 5 1 v l.length (B l)) (hb : b < base) (u0 u1 u2 u3 : Value) : RdN ((((w.setCell ⟨b, 0, none⟩ u0).setCell ⟨b, 1, none⟩ u1).setCell ⟨b, 2, none⟩ u2).setCell ⟨b, 3, none⟩ u3) v l := by
  rcases h.2 with ⟨h1, h2⟩ | ⟨g, cap, cur, rfl, h1, h2, _⟩
  · exact .inl ⟨0, h1, List.eq_nil_of_length_eq_zero (by omega)⟩
  · have hr : Rd w (.slice (some ⟨g, 0, none⟩) l.length cap) l := ⟨g, 0, cap, rfl, fun _ => (Array.getElem?_eq_some_iff.1 h2).1, fun j x hx => h.cells (g := g) rfl j x hx⟩
    have hne : b ≠ g := by omega
    exact .inr ((((hr.set _ hne).set _ hne).set _ hne).set _ hne)
theorem w17_cells {w W : World} {b o c : Nat} (hb : b < w.heap.size) (hc : w.cell? ⟨b, o, none⟩ = some (.int .u8 (c : Int))) (hB : Below (w.heap.size + 1 + 1) (w17 w) W) : W.cell? ⟨w.heap.size, 0, none⟩ = some (.int .u8 0) ∧ W.cell? ⟨w.heap.size, 1, none⟩ = some (.int .u32 0) ∧ W.cell? ⟨w.heap.size, 2, none⟩ = some (.int .u64 0) ∧ W.cell? ⟨w.heap.size, 3, none⟩ = some (.slice none 0 0) ∧
    W.frozen? ⟨w.heap.size, 0, none⟩ = false ∧ W.frozen? ⟨w.heap.size, 1, none⟩ = false ∧ W.frozen? ⟨w.heap.size, 2, none⟩ = false ∧ W.frozen? ⟨w.heap.size, 3, none⟩ = false ∧ W.cell? ⟨b, o, none⟩ = some (.int .u8 (c : Int)) := by
  have h13 : Below (w13 w).heap.size (w13 w) (w17 w) := ((Below.refl _ _).alloc (Nat.le_refl _) _).alloc (by simp) _
  obtain ⟨x0, x1, x2, x3, f0, f1, f2, f3⟩ := w13_cells h13
  have hn : w.heap.size < w.heap.size + 1 + 1 := by omega
  have hw : Below w.heap.size w (w17 w) := (((Below.refl _ w).alloc (Nat.le_refl _) _).alloc (by simp) _).alloc (by simp; omega) _
  have cc := fun i => hB.cell (p := ⟨w.heap.size, i, none⟩) hn
  have ff := fun i => hB.frozen (p := ⟨w.heap.size, i, none⟩) hn
  exact ⟨(cc 0).trans x0, (cc 1).trans x1, (cc 2).trans x2, (cc 3).trans x3, (ff 0).trans f0, (ff 1).trans f1, (ff 2).trans f2, (ff 3).trans f3, (hB.cell (p := ⟨b, o, none⟩) (Nat.lt_of_lt_of_le hb (by omega))).trans ((hw.cell (p := ⟨b, o, none⟩) hb).trans hc)⟩
set_option maxRecDepth 100000 in
set_option maxHeartbeats 1000000 in
theorem c16b (v : Value) (L : List Nat) (c : Nat) (w : World) (h : RdC w v L) (hc : L[0]? = some c) (hby : Byt L) (hl : L.length ≤ 1000000) (res : Except Nat (Nat × Nat × Nat × List Nat)) (HRES : Hid (ctlB L c = res)) : Calls Tryz.prog 16 #[v] w (GotC res w) := by
  have hB0 : Below w.heap.size w (w16 w) := ((Below.refl _ w).alloc (Nat.le_refl _) _).alloc (by simp) _
  have h0 := h.mono hB0
  have hlt : 0 < L.length := (List.getElem?_eq_some_iff.1 hc).1
  have hlen : ¬ L.length = 0 := by omega
  have hlen1 : ¬ L.length < 1 := by omega
  have D1 : Calls Tryz.prog 38 #[v, .int .i64 1] (w16 w) (Got 1 (dec 0 (L.drop 1)) (w16 w)) := c38 v _ 1 _ h0 hby hl (by omega)
  obtain ⟨b, o, cap, hv, hcap, hb, hr⟩ := id h
  have hcell := hr 0 c hc
  have hbl := hb hlt
  subst hv
  rw [Nat.add_zero] at hcell
  have HH := Lib.hid h0; have HY := Lib.hid hby; have HB0 := Lib.hid hB0
  clear h h0 hr hb hby hB0 hc
  rcases hd1 : dec 0 (L.drop 1) with er | ⟨sub, k⟩
  · obtain rfl : res = .error er := by rw [← HRES.out]; unfold ctlB; rw [hd1]
    rw [hd1] at D1
    change Calls _ _ _ _ (fun e w' => e = .returned (.tuple #[.int .u64 0, .int .i64 0, .int .i64 er]) ∧ w' = w16 w) at D1
    have he := dec_err _ _ _ hd1
    clear hd1 hcell
    go_enter Tryz.func16, Tryz.ntmps16
    go_wp2_with (first | (go_at_call 38; (with_reducible refine D1.mono ?_); rintro e w1 ⟨rfl, rfl⟩))
    exact bodyPost_ret (v := .tuple #[argn 0 0 0 (.slice none 0 0), .int .i64 er]) (by simp [results, Tryz.results16, go_sem]) rfl ⟨rfl, by repeat (first | exact HB0.out | refine Below.setCell ?_ (by simp) _)⟩
  · rw [hd1] at D1
    change Calls _ _ _ _ (fun e w' => e = .returned (.tuple #[.int .u64 sub, .int .i64 ((1 + k : Nat) : Int), .int .i64 0]) ∧ w' = w16 w) at D1
    have hk := (dec_le _ _ _ _ hd1).2
    rw [List.length_drop] at hk
    by_cases h5 : 4294967295 < sub
    · obtain rfl : res = .error 5 := by rw [← HRES.out]; unfold ctlB; rw [hd1]; exact if_pos h5
      generalize hx : (sub : Int) = x at D1
      have HX := Lib.hid hx
      have h6 : 4294967296 ≤ x := by omega
      clear hx h5
      clear hd1 hk hcell
      go_enter Tryz.func16, Tryz.ntmps16
      go_wp2_with (first | (go_at_call 38; (with_reducible refine D1.mono ?_); rintro e w1 ⟨rfl, rfl⟩))
      exact bodyPost_ret (v := .tuple #[argn 0 0 0 (.slice none 0 0), .int .i64 5]) (by simp [results, Tryz.results16, go_sem]) rfl ⟨rfl, by repeat (first | exact HB0.out | refine Below.setCell ?_ (by simp) _)⟩
    · have D2 := c38 _ _ (1 + k) _ HH.out HY.out hl (by omega)
      rcases hd2 : dec 0 (L.drop (1 + k)) with er | ⟨n, k2⟩
      · obtain rfl : res = .error er := by rw [← HRES.out]; unfold ctlB; rw [hd1]; simp only []; rw [if_neg h5, hd2]
        rw [hd2] at D2
        generalize 1 + k = e1 at *
        change Calls _ _ _ _ (fun e w' => e = .returned (.tuple #[.int .u64 0, .int .i64 0, .int .i64 er]) ∧ w' = w16 w) at D2
        have he := dec_err _ _ _ hd2
        generalize hx : (sub : Int) = x at D1
        have HX := Lib.hid hx
        obtain ⟨h6, h7⟩ : x < 4294967296 ∧ 0 ≤ x := by omega
        clear hx h5
        clear hd1 hk hd2 hcell
        go_enter Tryz.func16, Tryz.ntmps16
        go_wp2_with (first | (go_at_call 38; (with_reducible refine D1.mono ?_); rintro e w1 ⟨rfl, rfl⟩) | (go_at_call 38; (with_reducible refine D2.mono ?_); rintro e w1 ⟨rfl, rfl⟩))
        exact bodyPost_ret (v := .tuple #[argn 0 0 0 (.slice none 0 0), .int .i64 er]) (by simp [results, Tryz.results16, go_sem]) rfl ⟨rfl, by repeat (first | exact HB0.out | refine Below.setCell ?_ (by simp) _)⟩
      · have hk2 := (dec_le _ _ _ _ hd2).2
        rw [List.length_drop] at hk2
        rw [hd2] at D2
        change Calls _ _ _ _ (fun e w' => e = .returned (.tuple #[.int .u64 n, .int .i64 ((1 + k + k2 : Nat) : Int), .int .i64 0]) ∧ w' = w16 w) at D2
        have D3 := c39 _ _ (1 + k + k2) _ HH.out HY.out hl (by omega)
        rcases ht : txt L (1 + k + k2) with er | ⟨t, e3⟩
        · obtain rfl : res = .error er := by rw [← HRES.out]; unfold ctlB; rw [hd1]; simp only []; rw [if_neg h5, hd2]; simp only []; rw [ht]
          rw [ht] at D3
          generalize 1 + k + k2 = e2 at *
          generalize 1 + k = e1 at *
          change Calls _ _ _ _ (fun e w' => e = .returned (.tuple #[.string ⟨#[]⟩, .int .i64 0, .int .i64 er]) ∧ w' = w16 w) at D3
          have he := txt_err ht
          generalize hx : (sub : Int) = x at D1
          have HX := Lib.hid hx
          obtain ⟨h6, h7⟩ : x < 4294967296 ∧ 0 ≤ x := by omega
          clear hx h5
          clear hd1 hk hd2 hk2 ht hcell
          go_enter Tryz.func16, Tryz.ntmps16
          go_wp2_with (first | (go_at_call 38; (with_reducible refine D1.mono ?_); rintro e w1 ⟨rfl, rfl⟩) | (go_at_call 38; (with_reducible refine D2.mono ?_); rintro e w1 ⟨rfl, rfl⟩) | (go_at_call 39; (with_reducible refine D3.mono ?_); rintro e w1 ⟨rfl, rfl⟩))
          exact bodyPost_ret (v := .tuple #[argn 0 0 0 (.slice none 0 0), .int .i64 er]) (by simp [results, Tryz.results16, go_sem]) rfl ⟨rfl, by repeat (first | exact HB0.out | refine Below.setCell ?_ (by simp) _)⟩
        · rw [ht] at D3
          change Calls _ _ _ _ (fun e w' => e = .returned (.tuple #[.string (S t), .int .i64 e3, .int .i64 0]) ∧ w' = w16 w) at D3
          have hle := txt_le ht (by omega)
          by_cases h2 : e3 < L.length
          · obtain rfl : res = .error 2 := by rw [← HRES.out]; unfold ctlB; rw [hd1]; simp only []; rw [if_neg h5, hd2]; simp only []; rw [ht]; exact if_pos h2
            generalize 1 + k + k2 = e2 at *
            generalize 1 + k = e1 at *
            clear hd1 hk hd2 hk2 ht hcell
            have hne3 : ¬ e3 = L.length := by omega
            generalize hx : (sub : Int) = x at D1
            have HX := Lib.hid hx
            obtain ⟨h6, h7⟩ : x < 4294967296 ∧ 0 ≤ x := by omega
            clear hx h5
            go_enter Tryz.func16, Tryz.ntmps16
            go_wp2_with (first | (go_at_call 38; (with_reducible refine D1.mono ?_); rintro e w1 ⟨rfl, rfl⟩) | (go_at_call 38; (with_reducible refine D2.mono ?_); rintro e w1 ⟨rfl, rfl⟩) | (go_at_call 39; (with_reducible refine D3.mono ?_); rintro e w1 ⟨rfl, rfl⟩))
            exact bodyPost_ret (v := .tuple #[argn 0 0 0 (.slice none 0 0), .int .i64 2]) (by simp [results, Tryz.results16, go_sem]) rfl ⟨rfl, by repeat (first | exact HB0.out | refine Below.setCell ?_ (by simp) _)⟩
          · obtain rfl : res = .ok (c, sub, n, t) := by rw [← HRES.out]; unfold ctlB; rw [hd1]; simp only []; rw [if_neg h5, hd2]; simp only []; rw [ht]; exact if_neg h2
            have hbt := txt_byt HY.out ht
            have htl : t.length ≤ 1000000 := by omega
            obtain rfl : e3 = L.length := by omega
            generalize 1 + k + k2 = e2 at *
            generalize 1 + k = e1 at *
            have hsz := S_size t
            have hss := strCells_S hbt
            generalize S t = st at *
            generalize hx : (sub : Int) = x at D1
            have HX := Lib.hid hx
            obtain ⟨h6, h7⟩ : x < 4294967296 ∧ 0 ≤ x := by omega
            clear hx h5
            obtain ⟨i0, hi0, hz0, hz1, hz2⟩ := info_parts info5
            have hz16 : (w16 w).heap.size = w.heap.size + 1 + 1 := by simp
            have H0 : (w17 w).ownsRow (w.heap.size + 1 + 1) 5 1 (.slice (some ⟨w.heap.size + 1 + 1, 0, none⟩) 0 0) 0 [] := by
              rw [← hz16]
              exact World.ownsRow_made (w16 w) #[] 0 (by simp) (by unfold maxLen; omega) (by simp)
            have K16 := fun W hB => w17_cells (W := W) hbl hcell hB
            have H0h := Lib.hid H0
            have hB3 : Below w.heap.size w (w17 w) := HB0.out.alloc (by simp; omega) _
            have hbs : w.heap.size + 1 + 1 ≤ (w17 w).heap.size := by simp
            clear hd1 hk hd2 hk2 ht hbt hcell H0
            have HB3 := Lib.hid hB3
            clear hB3 hz16
            go_enter Tryz.func16, Tryz.ntmps16
            go_wp2_with (first
              | (go_at_call 38; (with_reducible refine D1.mono ?_); rintro e w1 ⟨rfl, rfl⟩)
              | (go_at_call 38; (with_reducible refine D2.mono ?_); rintro e w1 ⟨rfl, rfl⟩)
              | (go_at_call 39; (with_reducible refine D3.mono ?_); rintro e w1 ⟨rfl, rfl⟩)
              | (at_builtin; refine Lib.wpList_append_own_string _ rfl _ _ 24 9 rfl (w.heap.size + 1 + 1) 5 i0 Tryz.underlying24 Tryz.underlying9 hi0 hz0 hz1 hz2 _ 0 [] rfl H0h.out st rfl (by rw [hsz]; unfold maxLen; omega) (by rw [hsz]; omega) hbs ?_; intro v2 w2 hown2 hgrow2 hnil2; clear hnil2; obtain ⟨vp, vl, vc, rfl⟩ := own_slice hown2; have hBn : Below (w.heap.size + 1 + 1) (w17 w) w2 := (Below.refl _ _).grown hgrow2 (by simp) (fun j hj => by cases hj; exact Nat.le_refl _); obtain ⟨x0, x1, x2, x3, f0, f1, f2, f3, hc2⟩ := K16 w2 hBn))
            rw [hss, hsz, Nat.zero_add, List.nil_append] at hown2
            have hBW := HB3.out.trans (hBn.mono (by omega))
            refine bodyPost_ret (v := .tuple #[argn c sub n (.slice vp vl vc), .int .i64 0]) (by simp [results, Tryz.results16, go_sem, x0, x1, x2, x3, HX.out]) rfl ⟨_, rfl, rdn_sets hown2 (by omega) _ _ _ _, ?_⟩
            exact (((hBW.setCell (Nat.le_refl _) _).setCell (Nat.le_refl _) _).setCell (Nat.le_refl _) _).setCell (Nat.le_refl _) _
theorem c16 (v : Value) (l : List Nat) (w : World) (h : RdC w v l) (hby : Byt l) (hl : l.length ≤ 1000000) : Calls Tryz.prog 16 #[v] w (GotC (ctlOf l) w) := by
  match l, h, hby, hl with
  | c :: r, h, hby, hl => exact c16b v (c :: r) c w h rfl hby hl _ (Lib.hid rfl)
  | [], ⟨b, o, cap, hv, _⟩, _, _ =>
    have hB0 : Below w.heap.size w (w16 w) := ((Below.refl _ w).alloc (Nat.le_refl _) _).alloc (by simp) _
    subst hv
    show Calls _ _ _ _ (GotC (.error 3) w)
    go_enter Tryz.func16, Tryz.ntmps16
    go_wp2
    exact bodyPost_ret (v := .tuple #[argn 0 0 0 (.slice none 0 0), .int .i64 3]) (by simp [results, Tryz.results16, go_sem]) rfl ⟨rfl, by repeat (first | exact hB0 | refine Below.setCell ?_ (by simp) _)⟩
end Go.Proofs.PK
