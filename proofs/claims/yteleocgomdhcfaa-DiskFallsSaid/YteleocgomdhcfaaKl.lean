/- Proved: what the document's 'with' comes to. Each theorem says its own conditions. -/
import Derived.Test.YteleocgomdhcfaaKk
set_option linter.unusedVariables false
set_option linter.unusedSimpArgs false
set_option linter.unusedSectionVars false
namespace Go.Proofs.DK
open Go.RowKit
variable [Okb]
theorem grown_drew {w w' : World} {r : Option Nat} (h : w.drew.grownBy w' r) : w.grownBy w' r := ⟨h.os, h.tape, h.output, h.size, h.block⟩
set_option maxRecDepth 100000 in
set_option maxHeartbeats 8000000 in
theorem c42r (R : Value → List UInt8 → Prop) (hR : ∀ v l, R v l → ∃ p c, v = .slice p l.length c) (S : Ds) (p : Option Addr) (c : Nat) (f : Fl) (pv : Option Addr) (lv cv : Nat) (w : World) (h : FsR R w p S.fs) (hL : S.fs.length ≤ 1000) (hv : R (.slice pv lv cv) f.b) : Calls Try.prog 42 #[MV S (.slice p S.fs.length c), .agg #[.string (bs f.n), .slice pv lv cv, .int .i64 f.s]] w (WoOut S (wiF S.fs f) R w) := by
  obtain ⟨i0, hi0, hz0, hz1, hz2⟩ := info_parts info43
  have HV := Lib.hid hv
  have K := Lib.hid (fun w' (hB : Below w.heap.size w w') => c43r R hR S p c f.n w' (h.mono hB) hL)
  have hA := W3.below S (.slice p S.fs.length c) f (.slice pv lv cv) w
  have hT := Three.at S (.slice p S.fs.length c) f (.slice pv lv cv) w
  have hs3 := W3.size S (.slice p S.fs.length c) f (.slice pv lv cv) w
  have HK := Lib.hid (K.out _ hA)
  have HA := Lib.hid hA; have HT := Lib.hid hT
  clear h hv K hA hT
  have HS3 := Lib.hid hs3
  clear hs3
  unfold WoOut at *
  obtain ⟨room, fs, down, falls, fused, fuse, part⟩ := S
  unfold MV at *
  simp only at hL HK ⊢
  generalize hN : fs.length = k1 at *
  have HN := Lib.hid hN
  clear hN
  go_enter Try.func42, Try.ntmps42
  go_wp2_with (fail)
  go_at_call 43; (refine HK.out.mono ?_); rintro e w2 ⟨p2, c2, X, rfl, hX2, hrd2, hXf, hB2⟩; have hsz := hB2.size; rw [HS3.out] at hsz; have hT2 := HT.out.keep (hB2.mono (by have := HS3.out; omega)); have y0 := cellof hT2.a 0; have y1 := cellof hT2.a 1; have y2 := cellof hT2.a 2; have y3 := cellof hT2.a 3; have y4 := cellof hT2.a 4; have y5 := cellof hT2.a 5; have y6 := cellof hT2.a 6; have fy := fun o => frozenof hT2.a o; simp only [List.getElem?_toArray, List.getElem?_cons_zero, List.getElem?_cons_succ] at y0 y1 y2 y3 y4 y5 y6; have HB2 := Lib.hid hB2; have HT2 := Lib.hid hT2; have HX2 := Lib.hid hX2; have HXF := Lib.hid hXf; have HRD2 := Lib.hid hrd2; clear hB2 hT2 hX2 hXf hrd2; generalize hXl : X.length = k0 at *; have HXL := Lib.hid hXl; clear hXl
  iterate 9 first | go_values | go_skip | go_guarded | go_step | go_upon | go_in | go_back | (simp only [Int.not_lt, Int.not_le] at *; go_simp)
  have hT3 := HT2.out.put (S' := ⟨room, fs, down, falls, fused, fuse, part⟩) (v' := .slice p2 k0 c2)
  have hB3 := put7_below (N := w.heap.size) (S := ⟨room, fs, down, falls, fused, fuse, part⟩) (v := .slice p2 k0 c2) (b := w.heap.size) (HA.out.trans (HB2.out.mono (by have := HS3.out; omega))) (Nat.le_refl _)
  have hX3 : XAt (w.heap.size + 3) (put7 ⟨room, fs, down, falls, fused, fuse, part⟩ (.slice p2 k0 c2) w.heap.size w2) (.slice p2 k0 c2) X := by
    refine put7_own (own_base HX2.out (by have := HS3.out; omega)) (by omega)
  have hs7 := put7_size ⟨room, fs, down, falls, fused, fuse, part⟩ (.slice p2 k0 c2) w.heap.size w2
  change Code.wp _ _ _ _ (put7 ⟨room, fs, down, falls, fused, fuse, part⟩ (.slice p2 k0 c2) w.heap.size w2)
  obtain ⟨w3, hw3⟩ : ∃ w3, w3 = put7 ⟨room, fs, down, falls, fused, fuse, part⟩ (.slice p2 k0 c2) w.heap.size w2 := ⟨_, rfl⟩
  rw [← hw3] at hT3 hB3 hX3 hs7 ⊢
  rw [← hs7] at hsz
  clear hw3 hs7 y0 y1 y2 y3 y4 y5 y6 fy
  have y1 := cellof hT3.a 1
  simp only [List.getElem?_toArray, List.getElem?_cons_zero, List.getElem?_cons_succ] at y1
  have hown0 : XAt w3.heap.size (w3.alloc (.cells #[] 43)) (.slice (some ⟨w3.heap.size, 0, none⟩) 0 0) [] := own_empty w3 w3.heap.size (Nat.le_refl _)
  have hB0 : Below w3.heap.size w3 (w3.alloc (.cells #[] 43)) := (Below.refl _ _).alloc (Nat.le_refl _) _
  have HT3 := Lib.hid hT3; have HB3 := Lib.hid hB3; have HX3 := Lib.hid hX3
  clear hT3 hB3 hX3
  have hk0 : k0 ≤ 1000 := by
    have h1 := congrArg List.length HXF.out
    rw [List.length_map, HXL.out] at h1
    have h2 := wo_len fs f.n
    have h3 := HN.out
    omega
  have hl0 : w.heap.size < w3.heap.size := by omega
  have hn0 : w.heap.size ≠ w3.heap.size := by omega
  go_wp2
  go_loopw [5, 6, 16] (fun o d i wr => ∃ (k : Nat) (A : List (Fl × Value)) (dn : Bool), i = .int .i64 k ∧ d = .bool dn ∧ k ≤ k0 ∧ A.length ≤ k + 1 ∧ XAt w3.heap.size wr o A ∧ (∀ x ∈ A, R x.2 x.1.b) ∧ Ins f (X.map (·.1)) k dn (A.map (·.1)) ∧ Below w3.heap.size w3 wr) (fun _ _ i _ => k0 - (intOf i).toNat)
  case atStart => exact ⟨0, [], false, rfl, rfl, Nat.zero_le _, by simp, hown0, by simp, Ins.start _ _, hB0⟩
  case round =>
    obtain ⟨k, A, dn, rfl, rfl, hk, hAl, hr, hrd, hI, hB⟩ := hrel
    obtain ⟨po, co, rfl⟩ := own_slice hr
    have hsw := hB.size
    have hT4 := HT3.out.keep (hB.mono (by omega))
    have z0 := cellof hT4.a 0
    have z1 := cellof hT4.a 1
    have z2 := cellof hT4.a 2
    have z3 := cellof hT4.a 3
    have z4 := cellof hT4.a 4
    have z5 := cellof hT4.a 5
    have z6 := cellof hT4.a 6
    have x0 := cellof hT4.f 0
    have x1 := cellof hT4.f 1
    have x2 := cellof hT4.f 2
    have u0 := cellof hT4.z 0
    have u1 := cellof hT4.z 1
    have u2 := cellof hT4.z 2
    have u3 := cellof hT4.z 3
    have u4 := cellof hT4.z 4
    have u5 := cellof hT4.z 5
    have u6 := cellof hT4.z 6
    have fa := fun o => frozenof hT4.a o
    have fz := fun o => frozenof hT4.z o
    simp only [List.getElem?_toArray, List.getElem?_cons_zero, List.getElem?_cons_succ] at z0 z1 z2 z3 z4 z5 z6 x0 x1 x2 u0 u1 u2 u3 u4 u5 u6
    have hB2 : Below w.heap.size w wr := HB3.out.trans (hB.mono (by omega))
    by_cases hlt : k < k0
    · obtain ⟨m, hm⟩ : ∃ m, X[k]? = some m := ⟨_, List.getElem?_eq_getElem (by rw [HXL.out]; exact hlt)⟩
      obtain ⟨g, cg, hgv, _, hgl, y0, y1, y2⟩ := HX3.out.get hm
      rw [HXL.out] at hgv
      cases hgv
      have hmv := HRD2.out m (List.mem_of_getElem? hm)
      have hmL : (X.map (·.1))[k]? = some m.1 := by rw [List.getElem?_map, hm]; rfl
      obtain ⟨fm, vm⟩ := m
      simp only at y0 y1 y2 hmv hmL
      have HMV : Hid (R vm fm.b) := Lib.hid hmv
      obtain ⟨pm, cm, rfl⟩ := hR _ _ hmv
      have Y0 := Lib.hid y0; have Y1 := Lib.hid y1; have Y2 := Lib.hid y2
      have y0 := (hB.cell (p := ⟨g, _, none⟩) hgl).trans y0
      have y1 := (hB.cell (p := ⟨g, _, none⟩) hgl).trans y1
      have y2 := (hB.cell (p := ⟨g, _, none⟩) hgl).trans y2
      have hB2 := Lib.hid hB2
      have HR := Lib.hid hr; have HB := Lib.hid hB; have HI := Lib.hid hI; have HRD := Lib.hid hrd; have HML := Lib.hid hmL
      have hgw : g < wr.heap.size := by omega
      have hown : wr.ownsRow w3.heap.size 43 3 (.slice po A.length co) A.length (xcells A) := hr
      have hAp : (A ++ [(f, Value.slice pv lv cv)]).length = A.length + 1 := by simp
      clear hr hB hI hrd hmL hm hT4
      have hall : ∀ (Z : List (Fl × Value)), (∀ x ∈ Z, R x.2 x.1.b) → ∀ x ∈ Z ++ [(fm, .slice pm fm.b.length cm)], R x.2 x.1.b := fun Z hZ x hx => by
        rcases List.mem_append.1 hx with hx | hx
        · exact hZ x hx
        · rw [List.mem_singleton.1 hx]; exact HMV.out
      have hallf : ∀ (Z : List (Fl × Value)), (∀ x ∈ Z, R x.2 x.1.b) → ∀ x ∈ Z ++ [(f, .slice pv lv cv)], R x.2 x.1.b := fun Z hZ x hx => by
        rcases List.mem_append.1 hx with hx | hx
        · exact hZ x hx
        · rw [List.mem_singleton.1 hx]; exact HV.out
      have HALL := Lib.hid hall; have HALLF := Lib.hid hallf
      clear hall hallf
      generalize hA : A.length = al at *
      by_cases hdn : dn = true
      · subst hdn
        go_wp2
        refine wp_region_held_drew (S := (fun w' => w'.cell? ⟨w.heap.size + 1, 0, none⟩ = some (.string (bs f.n)) ∧ w'.cell? ⟨w.heap.size, 1, none⟩ = some (.slice (some ⟨g, 0, none⟩) k0 c2) ∧ w'.cell? ⟨g, k * 3, none⟩ = some (.string (bs fm.n)))) (by kernel_rfl) ?_ (fun hHeld => ?_)
        · (try dsimp only)
          go_keep
        refine wpAnyH_take (i := 0) (oi := { dst := some 19, op := Op.move (Operand.tmp 6), type := 4, pos := "ref.go:59", after := #[], guard := none }) (v := ?_) rfl (by kernel_rfl) (by kernel_rfl) (by kernel_rfl) (fun _ _ _ h => h) (Or.inl ⟨by rfl, ?_⟩) hHeld ?_
        rotate_left
        · intro w' hSw
          (try dsimp only at hSw)
          go_simp
          all_goals with_reducible rfl
        try simp only [Act.put, List.setIfInBounds_toArray, List.set_cons_zero, List.set_cons_succ]
        refine wpAnyH_take (i := 1) (oi := { dst := some 20, op := Op.unOp UnOp.not 4 (Operand.tmp 19), type := 4, pos := "ref.go:59", after := #[{ on := 0, ground := Ground.data }], guard := none }) (v := ?_) rfl (by kernel_rfl) (by kernel_rfl) (by kernel_rfl) (fun _ _ _ h => h) (Or.inl ⟨by rfl, ?_⟩) hHeld ?_
        rotate_left
        · intro w' hSw
          (try dsimp only at hSw)
          go_simp
          all_goals with_reducible rfl
        try simp only [Act.put, List.setIfInBounds_toArray, List.set_cons_zero, List.set_cons_succ]
        refine wpAnyH_take (i := 2) (oi := { dst := some 21, op := Op.move (Operand.tmp 20), type := 4, pos := "ref.go:59", after := #[{ on := 1, ground := Ground.data }], guard := none }) (v := ?_) rfl (by kernel_rfl) (by kernel_rfl) (by kernel_rfl) (fun _ _ _ h => h) (Or.inl ⟨by rfl, ?_⟩) hHeld ?_
        rotate_left
        · intro w' hSw
          (try dsimp only at hSw)
          go_simp
          all_goals with_reducible rfl
        try simp only [Act.put, List.setIfInBounds_toArray, List.set_cons_zero, List.set_cons_succ]
        refine wpAnyH_take (i := 3) (oi := { dst := some 22, op := Op.fieldAddr 43 (Operand.tmp 3) 0, type := 0, pos := "ref.go:59", after := #[{ on := 2, ground := Ground.guard }], guard := some (2, true) }) (v := undef) rfl (by kernel_rfl) (by kernel_rfl) (by kernel_rfl) (fun _ _ _ h => h) (Or.inr ⟨by rfl, rfl⟩) hHeld ?_
        try simp only [Act.put, List.setIfInBounds_toArray, List.set_cons_zero, List.set_cons_succ]
        refine wpAnyH_take (i := 4) (oi := { dst := some 23, op := Op.load 9 (Operand.tmp 22), type := 9, pos := "ref.go:59", after := #[{ on := 3, ground := Ground.data }, { on := 2, ground := Ground.guard }], guard := some (2, true) }) (v := undef) rfl (by kernel_rfl) (by kernel_rfl) (by kernel_rfl) (fun _ _ _ h => h) (Or.inr ⟨by rfl, rfl⟩) hHeld ?_
        try simp only [Act.put, List.setIfInBounds_toArray, List.set_cons_zero, List.set_cons_succ]
        refine wpAnyH_take (i := 5) (oi := { dst := some 24, op := Op.fieldAddr 31 (Operand.tmp 2) 1, type := 0, pos := "ref.go:59", after := #[{ on := 2, ground := Ground.guard }], guard := some (2, true) }) (v := undef) rfl (by kernel_rfl) (by kernel_rfl) (by kernel_rfl) (fun _ _ _ h => h) (Or.inr ⟨by rfl, rfl⟩) hHeld ?_
        try simp only [Act.put, List.setIfInBounds_toArray, List.set_cons_zero, List.set_cons_succ]
        refine wpAnyH_take (i := 6) (oi := { dst := some 25, op := Op.load 29 (Operand.tmp 24), type := 29, pos := "ref.go:59", after := #[{ on := 5, ground := Ground.data }, { on := 2, ground := Ground.guard }], guard := some (2, true) }) (v := undef) rfl (by kernel_rfl) (by kernel_rfl) (by kernel_rfl) (fun _ _ _ h => h) (Or.inr ⟨by rfl, rfl⟩) hHeld ?_
        try simp only [Act.put, List.setIfInBounds_toArray, List.set_cons_zero, List.set_cons_succ]
        refine wpAnyH_take (i := 7) (oi := { dst := some 26, op := Op.move (Operand.tmp 7), type := 3, pos := "ref.go:59", after := #[{ on := 2, ground := Ground.guard }], guard := some (2, true) }) (v := undef) rfl (by kernel_rfl) (by kernel_rfl) (by kernel_rfl) (fun _ _ _ h => h) (Or.inr ⟨by rfl, rfl⟩) hHeld ?_
        try simp only [Act.put, List.setIfInBounds_toArray, List.set_cons_zero, List.set_cons_succ]
        refine wpAnyH_take (i := 8) (oi := { dst := some 27, op := Op.indexAddr 29 (Operand.tmp 25) (Operand.tmp 26), type := 0, pos := "ref.go:59", after := #[{ on := 6, ground := Ground.data }, { on := 7, ground := Ground.data }, { on := 2, ground := Ground.guard }], guard := some (2, true) }) (v := undef) rfl (by kernel_rfl) (by kernel_rfl) (by kernel_rfl) (fun _ _ _ h => h) (Or.inr ⟨by rfl, rfl⟩) hHeld ?_
        try simp only [Act.put, List.setIfInBounds_toArray, List.set_cons_zero, List.set_cons_succ]
        refine wpAnyH_take (i := 9) (oi := { dst := some 28, op := Op.fieldAddr 43 (Operand.tmp 27) 0, type := 0, pos := "ref.go:59", after := #[{ on := 8, ground := Ground.data }, { on := 2, ground := Ground.guard }], guard := some (2, true) }) (v := undef) rfl (by kernel_rfl) (by kernel_rfl) (by kernel_rfl) (fun _ _ _ h => h) (Or.inr ⟨by rfl, rfl⟩) hHeld ?_
        try simp only [Act.put, List.setIfInBounds_toArray, List.set_cons_zero, List.set_cons_succ]
        refine wpAnyH_take (i := 10) (oi := { dst := some 29, op := Op.load 9 (Operand.tmp 28), type := 9, pos := "ref.go:59", after := #[{ on := 9, ground := Ground.data }, { on := 2, ground := Ground.guard }], guard := some (2, true) }) (v := undef) rfl (by kernel_rfl) (by kernel_rfl) (by kernel_rfl) (fun _ _ _ h => h) (Or.inr ⟨by rfl, rfl⟩) hHeld ?_
        try simp only [Act.put, List.setIfInBounds_toArray, List.set_cons_zero, List.set_cons_succ]
        refine wpAnyH_take (i := 11) (oi := { dst := some 30, op := Op.binOp BinOp.lss 9 (Operand.tmp 23) (Operand.tmp 29) 9, type := 4, pos := "ref.go:59", after := #[{ on := 4, ground := Ground.data }, { on := 10, ground := Ground.data }, { on := 2, ground := Ground.guard }], guard := some (2, true) }) (v := undef) rfl (by kernel_rfl) (by kernel_rfl) (by kernel_rfl) (fun _ _ _ h => h) (Or.inr ⟨by rfl, rfl⟩) hHeld ?_
        try simp only [Act.put, List.setIfInBounds_toArray, List.set_cons_zero, List.set_cons_succ]
        refine wpAnyH_take (i := 12) (oi := { dst := some 31, op := Op.pick (Operand.tmp 21) (Operand.tmp 30) (Operand.const (Value.bool false)), type := 4, pos := "ref.go:59", after := #[{ on := 2, ground := Ground.data }, { on := 11, ground := Ground.data }], guard := none }) (v := ?_) rfl (by kernel_rfl) (by kernel_rfl) (by kernel_rfl) (fun _ _ _ h => h) (Or.inl ⟨by rfl, ?_⟩) hHeld ?_
        rotate_left
        · intro w' hSw
          (try dsimp only at hSw)
          go_simp
          all_goals with_reducible rfl
        try simp only [Act.put, List.setIfInBounds_toArray, List.set_cons_zero, List.set_cons_succ]
        refine wpAnyH_done (by kernel_rfl) ?_ _
        all_goals go_wp2_with (at_builtin; refine wpList_append_lies _ (by rfl) _ _ 29 (by rfl) w3.heap.size 43 i0 _ 3 48 Try.underlying29 hi0 hz0 hz1 hz2 rfl (by omega) _ (al) (xcells A) (by rfl) (World.ownsRow.alloc hown _) ⟨wr.heap.size, 0, none⟩ 1 1 [.string (bs fm.n), .slice pm fm.b.length cm, .int .i64 fm.s] (by rfl) (by rfl) (World.news_of_block (cs := #[.string (bs fm.n), .slice pm fm.b.length cm, .int .i64 fm.s]) (t := 43) (fr := (0, 0)) (heap_alloc_new wr _)) (by simp [Value.oneCell']) (by omega) (by unfold maxLen; omega) (by omega) (by simp; omega) (wr.heap.size + 1) (by simp) ?_; intro gg cap w4 hown4 hgrow hat hlt4; have HO4 := Lib.hid hown4; have HG4 := Lib.hid hgrow; clear hown4 hgrow)
        all_goals go_roundw
        all_goals first
          | (simp [intOf]; omega)
          | (subst hA
             obtain ⟨r1, r2⟩ := XAt.snoc (m := (fm, .slice pm fm.b.length cm)) HB.out (by omega) HR.out HO4.out (by first | exact HG4.out | exact grown_drew HG4.out)
             refine ⟨k + 1, A ++ [(fm, .slice pm fm.b.length cm)], true, by go_num, rfl, by omega, by simp; omega, r1, HALL.out A HRD.out, ?_, r2⟩
             rw [List.map_append]
             exact HI.out.stay HML.out (.inl rfl))
      · have hdf : dn = false := by simpa using hdn
        subst hdf
        clear hdn
        have hAk : al ≤ k := by
          rcases HI.out with ⟨_, h, _⟩ | ⟨h, _⟩
          · have h1 := congrArg List.length h
            rw [List.length_map, hA, List.length_take] at h1
            omega
          · cases h
        by_cases hlf : f.n < fm.n
        · have hd : Op.bytesLess (bs f.n).toList (bs fm.n).toList = true := by rw [less_bs]; simp [hlf]
          go_wp2
          refine wp_region_held_drew (S := (fun w' => w'.cell? ⟨w.heap.size + 1, 0, none⟩ = some (.string (bs f.n)) ∧ w'.cell? ⟨w.heap.size, 1, none⟩ = some (.slice (some ⟨g, 0, none⟩) k0 c2) ∧ w'.cell? ⟨g, k * 3, none⟩ = some (.string (bs fm.n)))) (by kernel_rfl) ?_ (fun hHeld => ?_)
          · (try dsimp only)
            go_keep
          refine wpAnyH_take (i := 0) (oi := { dst := some 19, op := Op.move (Operand.tmp 6), type := 4, pos := "ref.go:59", after := #[], guard := none }) (v := ?_) rfl (by kernel_rfl) (by kernel_rfl) (by kernel_rfl) (fun _ _ _ h => h) (Or.inl ⟨by rfl, ?_⟩) hHeld ?_
          rotate_left
          · intro w' hSw
            (try dsimp only at hSw)
            go_simp
            all_goals with_reducible rfl
          try simp only [Act.put, List.setIfInBounds_toArray, List.set_cons_zero, List.set_cons_succ]
          refine wpAnyH_take (i := 1) (oi := { dst := some 20, op := Op.unOp UnOp.not 4 (Operand.tmp 19), type := 4, pos := "ref.go:59", after := #[{ on := 0, ground := Ground.data }], guard := none }) (v := ?_) rfl (by kernel_rfl) (by kernel_rfl) (by kernel_rfl) (fun _ _ _ h => h) (Or.inl ⟨by rfl, ?_⟩) hHeld ?_
          rotate_left
          · intro w' hSw
            (try dsimp only at hSw)
            go_simp
            all_goals with_reducible rfl
          try simp only [Act.put, List.setIfInBounds_toArray, List.set_cons_zero, List.set_cons_succ]
          refine wpAnyH_take (i := 2) (oi := { dst := some 21, op := Op.move (Operand.tmp 20), type := 4, pos := "ref.go:59", after := #[{ on := 1, ground := Ground.data }], guard := none }) (v := ?_) rfl (by kernel_rfl) (by kernel_rfl) (by kernel_rfl) (fun _ _ _ h => h) (Or.inl ⟨by rfl, ?_⟩) hHeld ?_
          rotate_left
          · intro w' hSw
            (try dsimp only at hSw)
            go_simp
            all_goals with_reducible rfl
          try simp only [Act.put, List.setIfInBounds_toArray, List.set_cons_zero, List.set_cons_succ]
          refine wpAnyH_take (i := 3) (oi := { dst := some 22, op := Op.fieldAddr 43 (Operand.tmp 3) 0, type := 0, pos := "ref.go:59", after := #[{ on := 2, ground := Ground.guard }], guard := some (2, true) }) (v := ?_) rfl (by kernel_rfl) (by kernel_rfl) (by kernel_rfl) (fun _ _ _ h => h) (Or.inl ⟨by rfl, ?_⟩) hHeld ?_
          rotate_left
          · intro w' hSw
            (try dsimp only at hSw)
            go_simp
            all_goals with_reducible rfl
          try simp only [Act.put, List.setIfInBounds_toArray, List.set_cons_zero, List.set_cons_succ]
          refine wpAnyH_take (i := 4) (oi := { dst := some 23, op := Op.load 9 (Operand.tmp 22), type := 9, pos := "ref.go:59", after := #[{ on := 3, ground := Ground.data }, { on := 2, ground := Ground.guard }], guard := some (2, true) }) (v := ?_) rfl (by kernel_rfl) (by kernel_rfl) (by kernel_rfl) (fun _ _ _ h => h) (Or.inl ⟨by rfl, ?_⟩) hHeld ?_
          rotate_left
          · intro w' hSw
            (try dsimp only at hSw)
            go_simp
            all_goals with_reducible rfl
          try simp only [Act.put, List.setIfInBounds_toArray, List.set_cons_zero, List.set_cons_succ]
          refine wpAnyH_take (i := 5) (oi := { dst := some 24, op := Op.fieldAddr 31 (Operand.tmp 2) 1, type := 0, pos := "ref.go:59", after := #[{ on := 2, ground := Ground.guard }], guard := some (2, true) }) (v := ?_) rfl (by kernel_rfl) (by kernel_rfl) (by kernel_rfl) (fun _ _ _ h => h) (Or.inl ⟨by rfl, ?_⟩) hHeld ?_
          rotate_left
          · intro w' hSw
            (try dsimp only at hSw)
            go_simp
            all_goals with_reducible rfl
          try simp only [Act.put, List.setIfInBounds_toArray, List.set_cons_zero, List.set_cons_succ]
          refine wpAnyH_take (i := 6) (oi := { dst := some 25, op := Op.load 29 (Operand.tmp 24), type := 29, pos := "ref.go:59", after := #[{ on := 5, ground := Ground.data }, { on := 2, ground := Ground.guard }], guard := some (2, true) }) (v := ?_) rfl (by kernel_rfl) (by kernel_rfl) (by kernel_rfl) (fun _ _ _ h => h) (Or.inl ⟨by rfl, ?_⟩) hHeld ?_
          rotate_left
          · intro w' hSw
            (try dsimp only at hSw)
            go_simp
            all_goals with_reducible rfl
          try simp only [Act.put, List.setIfInBounds_toArray, List.set_cons_zero, List.set_cons_succ]
          refine wpAnyH_take (i := 7) (oi := { dst := some 26, op := Op.move (Operand.tmp 7), type := 3, pos := "ref.go:59", after := #[{ on := 2, ground := Ground.guard }], guard := some (2, true) }) (v := ?_) rfl (by kernel_rfl) (by kernel_rfl) (by kernel_rfl) (fun _ _ _ h => h) (Or.inl ⟨by rfl, ?_⟩) hHeld ?_
          rotate_left
          · intro w' hSw
            (try dsimp only at hSw)
            go_simp
            all_goals with_reducible rfl
          try simp only [Act.put, List.setIfInBounds_toArray, List.set_cons_zero, List.set_cons_succ]
          refine wpAnyH_take (i := 8) (oi := { dst := some 27, op := Op.indexAddr 29 (Operand.tmp 25) (Operand.tmp 26), type := 0, pos := "ref.go:59", after := #[{ on := 6, ground := Ground.data }, { on := 7, ground := Ground.data }, { on := 2, ground := Ground.guard }], guard := some (2, true) }) (v := ?_) rfl (by kernel_rfl) (by kernel_rfl) (by kernel_rfl) (fun _ _ _ h => h) (Or.inl ⟨by rfl, ?_⟩) hHeld ?_
          rotate_left
          · intro w' hSw
            (try dsimp only at hSw)
            go_simp
            all_goals with_reducible rfl
          try simp only [Act.put, List.setIfInBounds_toArray, List.set_cons_zero, List.set_cons_succ]
          refine wpAnyH_take (i := 9) (oi := { dst := some 28, op := Op.fieldAddr 43 (Operand.tmp 27) 0, type := 0, pos := "ref.go:59", after := #[{ on := 8, ground := Ground.data }, { on := 2, ground := Ground.guard }], guard := some (2, true) }) (v := ?_) rfl (by kernel_rfl) (by kernel_rfl) (by kernel_rfl) (fun _ _ _ h => h) (Or.inl ⟨by rfl, ?_⟩) hHeld ?_
          rotate_left
          · intro w' hSw
            (try dsimp only at hSw)
            go_simp
            all_goals with_reducible rfl
          try simp only [Act.put, List.setIfInBounds_toArray, List.set_cons_zero, List.set_cons_succ]
          refine wpAnyH_take (i := 10) (oi := { dst := some 29, op := Op.load 9 (Operand.tmp 28), type := 9, pos := "ref.go:59", after := #[{ on := 9, ground := Ground.data }, { on := 2, ground := Ground.guard }], guard := some (2, true) }) (v := ?_) rfl (by kernel_rfl) (by kernel_rfl) (by kernel_rfl) (fun _ _ _ h => h) (Or.inl ⟨by rfl, ?_⟩) hHeld ?_
          rotate_left
          · intro w' hSw
            (try dsimp only at hSw)
            go_simp
            all_goals with_reducible rfl
          try simp only [Act.put, List.setIfInBounds_toArray, List.set_cons_zero, List.set_cons_succ]
          refine wpAnyH_take (i := 11) (oi := { dst := some 30, op := Op.binOp BinOp.lss 9 (Operand.tmp 23) (Operand.tmp 29) 9, type := 4, pos := "ref.go:59", after := #[{ on := 4, ground := Ground.data }, { on := 10, ground := Ground.data }, { on := 2, ground := Ground.guard }], guard := some (2, true) }) (v := ?_) rfl (by kernel_rfl) (by kernel_rfl) (by kernel_rfl) (fun _ _ _ h => h) (Or.inl ⟨by rfl, ?_⟩) hHeld ?_
          rotate_left
          · intro w' hSw
            (try dsimp only at hSw)
            go_simp
            all_goals with_reducible rfl
          try simp only [Act.put, List.setIfInBounds_toArray, List.set_cons_zero, List.set_cons_succ]
          refine wpAnyH_take (i := 12) (oi := { dst := some 31, op := Op.pick (Operand.tmp 21) (Operand.tmp 30) (Operand.const (Value.bool false)), type := 4, pos := "ref.go:59", after := #[{ on := 2, ground := Ground.data }, { on := 11, ground := Ground.data }], guard := none }) (v := ?_) rfl (by kernel_rfl) (by kernel_rfl) (by kernel_rfl) (fun _ _ _ h => h) (Or.inl ⟨by rfl, ?_⟩) hHeld ?_
          rotate_left
          · intro w' hSw
            (try dsimp only at hSw)
            go_simp
            all_goals with_reducible rfl
          try simp only [Act.put, List.setIfInBounds_toArray, List.set_cons_zero, List.set_cons_succ]
          refine wpAnyH_done (by kernel_rfl) ?_ _
          all_goals go_wp2_with (first | (at_builtin; refine wpList_append_lies _ (by rfl) _ _ 29 (by rfl) w3.heap.size 43 i0 _ 3 48 Try.underlying29 hi0 hz0 hz1 hz2 rfl (by omega) _ (al + 1) (xcells (A ++ [(f, .slice pv lv cv)])) (by rfl) (World.ownsRow.alloc hown5 _) ⟨w4.heap.size, 0, none⟩ 1 1 [.string (bs fm.n), .slice pm fm.b.length cm, .int .i64 fm.s] (by rfl) (by rfl) (World.news_of_block (cs := #[.string (bs fm.n), .slice pm fm.b.length cm, .int .i64 fm.s]) (t := 43) (fr := (0, 0)) (heap_alloc_new w4 _)) (by simp [Value.oneCell']) (by omega) (by unfold maxLen; omega) (by omega) (by simp; omega) (w4.heap.size + 1) (by simp) ?_; intro gg2 cap2 w6 hown6 hgrow6 hat6 hlt6; have HO6 := Lib.hid hown6; have HG6 := Lib.hid hgrow6; clear hown6 hgrow6) | (at_builtin; refine wpList_append_lies _ (by rfl) _ _ 29 (by rfl) w3.heap.size 43 i0 _ 3 48 Try.underlying29 hi0 hz0 hz1 hz2 rfl (by omega) _ (al) (xcells A) (by rfl) (World.ownsRow.alloc hown _) ⟨wr.heap.size, 0, none⟩ 1 1 [.string (bs f.n), .slice pv lv cv, .int .i64 f.s] (by rfl) (by rfl) (World.news_of_block (cs := #[.string (bs f.n), .slice pv lv cv, .int .i64 f.s]) (t := 43) (fr := (0, 0)) (heap_alloc_new wr _)) (by simp [Value.oneCell']) (by omega) (by unfold maxLen; omega) (by omega) (by simp; omega) (wr.heap.size + 1) (by simp) ?_; intro gg cap w4 hown4 hgrow hat hlt4; obtain ⟨r1, r2⟩ := XAt.snoc (m := (f, .slice pv lv cv)) HB.out (by omega) HR.out (by rw [hA]; exact hown4) (by first | exact hgrow | exact grown_drew hgrow); rw [hA] at r1; have hs4 := r2.size; have hT5 := HT3.out.keep (r2.mono (by omega)); have v1 := cellof hT5.a 1; simp only [List.getElem?_toArray, List.getElem?_cons_zero, List.getElem?_cons_succ] at v1; have v2 := (r2.cell (p := ⟨g, _, none⟩) hgl).trans Y0.out; have v3 := (r2.cell (p := ⟨g, _, none⟩) hgl).trans Y1.out; have v4 := (r2.cell (p := ⟨g, _, none⟩) hgl).trans Y2.out; have hown5 := r1; have hl4 : w.heap.size < w4.heap.size := (by omega); have hn4 : w.heap.size ≠ w4.heap.size := (by omega); have hg4 : g < w4.heap.size := (by omega); have hm4 : g ≠ w4.heap.size := (by omega); unfold XAt at hown5; rw [hAp] at hown5; have HR5 := Lib.hid r1; have HB5 := Lib.hid r2; clear r1 r2 hT5 hown4 hgrow))
          all_goals go_roundw
          all_goals first
            | (simp [intOf]; omega)
            | (obtain ⟨r1, r2⟩ := XAt.snoc (m := (fm, .slice pm fm.b.length cm)) HB5.out (by omega) HR5.out (by rw [hAp]; exact HO6.out) (by first | exact HG6.out | exact grown_drew HG6.out)
               refine ⟨k + 1, A ++ [(f, .slice pv lv cv)] ++ [(fm, .slice pm fm.b.length cm)], true, by go_num, rfl, by omega, by simp; omega, ?_, HALL.out _ (HALLF.out A HRD.out), ?_, r2⟩
               · rw [hAp] at r1; exact r1
               · rw [List.map_append, List.map_append]
                 exact HI.out.go HML.out hlf)
        · have hd : Op.bytesLess (bs f.n).toList (bs fm.n).toList = false := by rw [less_bs]; simp [hlf]
          go_wp2
          refine wp_region_held_drew (S := (fun w' => w'.cell? ⟨w.heap.size + 1, 0, none⟩ = some (.string (bs f.n)) ∧ w'.cell? ⟨w.heap.size, 1, none⟩ = some (.slice (some ⟨g, 0, none⟩) k0 c2) ∧ w'.cell? ⟨g, k * 3, none⟩ = some (.string (bs fm.n)))) (by kernel_rfl) ?_ (fun hHeld => ?_)
          · (try dsimp only)
            go_keep
          refine wpAnyH_take (i := 0) (oi := { dst := some 19, op := Op.move (Operand.tmp 6), type := 4, pos := "ref.go:59", after := #[], guard := none }) (v := ?_) rfl (by kernel_rfl) (by kernel_rfl) (by kernel_rfl) (fun _ _ _ h => h) (Or.inl ⟨by rfl, ?_⟩) hHeld ?_
          rotate_left
          · intro w' hSw
            (try dsimp only at hSw)
            go_simp
            all_goals with_reducible rfl
          try simp only [Act.put, List.setIfInBounds_toArray, List.set_cons_zero, List.set_cons_succ]
          refine wpAnyH_take (i := 1) (oi := { dst := some 20, op := Op.unOp UnOp.not 4 (Operand.tmp 19), type := 4, pos := "ref.go:59", after := #[{ on := 0, ground := Ground.data }], guard := none }) (v := ?_) rfl (by kernel_rfl) (by kernel_rfl) (by kernel_rfl) (fun _ _ _ h => h) (Or.inl ⟨by rfl, ?_⟩) hHeld ?_
          rotate_left
          · intro w' hSw
            (try dsimp only at hSw)
            go_simp
            all_goals with_reducible rfl
          try simp only [Act.put, List.setIfInBounds_toArray, List.set_cons_zero, List.set_cons_succ]
          refine wpAnyH_take (i := 2) (oi := { dst := some 21, op := Op.move (Operand.tmp 20), type := 4, pos := "ref.go:59", after := #[{ on := 1, ground := Ground.data }], guard := none }) (v := ?_) rfl (by kernel_rfl) (by kernel_rfl) (by kernel_rfl) (fun _ _ _ h => h) (Or.inl ⟨by rfl, ?_⟩) hHeld ?_
          rotate_left
          · intro w' hSw
            (try dsimp only at hSw)
            go_simp
            all_goals with_reducible rfl
          try simp only [Act.put, List.setIfInBounds_toArray, List.set_cons_zero, List.set_cons_succ]
          refine wpAnyH_take (i := 3) (oi := { dst := some 22, op := Op.fieldAddr 43 (Operand.tmp 3) 0, type := 0, pos := "ref.go:59", after := #[{ on := 2, ground := Ground.guard }], guard := some (2, true) }) (v := ?_) rfl (by kernel_rfl) (by kernel_rfl) (by kernel_rfl) (fun _ _ _ h => h) (Or.inl ⟨by rfl, ?_⟩) hHeld ?_
          rotate_left
          · intro w' hSw
            (try dsimp only at hSw)
            go_simp
            all_goals with_reducible rfl
          try simp only [Act.put, List.setIfInBounds_toArray, List.set_cons_zero, List.set_cons_succ]
          refine wpAnyH_take (i := 4) (oi := { dst := some 23, op := Op.load 9 (Operand.tmp 22), type := 9, pos := "ref.go:59", after := #[{ on := 3, ground := Ground.data }, { on := 2, ground := Ground.guard }], guard := some (2, true) }) (v := ?_) rfl (by kernel_rfl) (by kernel_rfl) (by kernel_rfl) (fun _ _ _ h => h) (Or.inl ⟨by rfl, ?_⟩) hHeld ?_
          rotate_left
          · intro w' hSw
            (try dsimp only at hSw)
            go_simp
            all_goals with_reducible rfl
          try simp only [Act.put, List.setIfInBounds_toArray, List.set_cons_zero, List.set_cons_succ]
          refine wpAnyH_take (i := 5) (oi := { dst := some 24, op := Op.fieldAddr 31 (Operand.tmp 2) 1, type := 0, pos := "ref.go:59", after := #[{ on := 2, ground := Ground.guard }], guard := some (2, true) }) (v := ?_) rfl (by kernel_rfl) (by kernel_rfl) (by kernel_rfl) (fun _ _ _ h => h) (Or.inl ⟨by rfl, ?_⟩) hHeld ?_
          rotate_left
          · intro w' hSw
            (try dsimp only at hSw)
            go_simp
            all_goals with_reducible rfl
          try simp only [Act.put, List.setIfInBounds_toArray, List.set_cons_zero, List.set_cons_succ]
          refine wpAnyH_take (i := 6) (oi := { dst := some 25, op := Op.load 29 (Operand.tmp 24), type := 29, pos := "ref.go:59", after := #[{ on := 5, ground := Ground.data }, { on := 2, ground := Ground.guard }], guard := some (2, true) }) (v := ?_) rfl (by kernel_rfl) (by kernel_rfl) (by kernel_rfl) (fun _ _ _ h => h) (Or.inl ⟨by rfl, ?_⟩) hHeld ?_
          rotate_left
          · intro w' hSw
            (try dsimp only at hSw)
            go_simp
            all_goals with_reducible rfl
          try simp only [Act.put, List.setIfInBounds_toArray, List.set_cons_zero, List.set_cons_succ]
          refine wpAnyH_take (i := 7) (oi := { dst := some 26, op := Op.move (Operand.tmp 7), type := 3, pos := "ref.go:59", after := #[{ on := 2, ground := Ground.guard }], guard := some (2, true) }) (v := ?_) rfl (by kernel_rfl) (by kernel_rfl) (by kernel_rfl) (fun _ _ _ h => h) (Or.inl ⟨by rfl, ?_⟩) hHeld ?_
          rotate_left
          · intro w' hSw
            (try dsimp only at hSw)
            go_simp
            all_goals with_reducible rfl
          try simp only [Act.put, List.setIfInBounds_toArray, List.set_cons_zero, List.set_cons_succ]
          refine wpAnyH_take (i := 8) (oi := { dst := some 27, op := Op.indexAddr 29 (Operand.tmp 25) (Operand.tmp 26), type := 0, pos := "ref.go:59", after := #[{ on := 6, ground := Ground.data }, { on := 7, ground := Ground.data }, { on := 2, ground := Ground.guard }], guard := some (2, true) }) (v := ?_) rfl (by kernel_rfl) (by kernel_rfl) (by kernel_rfl) (fun _ _ _ h => h) (Or.inl ⟨by rfl, ?_⟩) hHeld ?_
          rotate_left
          · intro w' hSw
            (try dsimp only at hSw)
            go_simp
            all_goals with_reducible rfl
          try simp only [Act.put, List.setIfInBounds_toArray, List.set_cons_zero, List.set_cons_succ]
          refine wpAnyH_take (i := 9) (oi := { dst := some 28, op := Op.fieldAddr 43 (Operand.tmp 27) 0, type := 0, pos := "ref.go:59", after := #[{ on := 8, ground := Ground.data }, { on := 2, ground := Ground.guard }], guard := some (2, true) }) (v := ?_) rfl (by kernel_rfl) (by kernel_rfl) (by kernel_rfl) (fun _ _ _ h => h) (Or.inl ⟨by rfl, ?_⟩) hHeld ?_
          rotate_left
          · intro w' hSw
            (try dsimp only at hSw)
            go_simp
            all_goals with_reducible rfl
          try simp only [Act.put, List.setIfInBounds_toArray, List.set_cons_zero, List.set_cons_succ]
          refine wpAnyH_take (i := 10) (oi := { dst := some 29, op := Op.load 9 (Operand.tmp 28), type := 9, pos := "ref.go:59", after := #[{ on := 9, ground := Ground.data }, { on := 2, ground := Ground.guard }], guard := some (2, true) }) (v := ?_) rfl (by kernel_rfl) (by kernel_rfl) (by kernel_rfl) (fun _ _ _ h => h) (Or.inl ⟨by rfl, ?_⟩) hHeld ?_
          rotate_left
          · intro w' hSw
            (try dsimp only at hSw)
            go_simp
            all_goals with_reducible rfl
          try simp only [Act.put, List.setIfInBounds_toArray, List.set_cons_zero, List.set_cons_succ]
          refine wpAnyH_take (i := 11) (oi := { dst := some 30, op := Op.binOp BinOp.lss 9 (Operand.tmp 23) (Operand.tmp 29) 9, type := 4, pos := "ref.go:59", after := #[{ on := 4, ground := Ground.data }, { on := 10, ground := Ground.data }, { on := 2, ground := Ground.guard }], guard := some (2, true) }) (v := ?_) rfl (by kernel_rfl) (by kernel_rfl) (by kernel_rfl) (fun _ _ _ h => h) (Or.inl ⟨by rfl, ?_⟩) hHeld ?_
          rotate_left
          · intro w' hSw
            (try dsimp only at hSw)
            go_simp
            all_goals with_reducible rfl
          try simp only [Act.put, List.setIfInBounds_toArray, List.set_cons_zero, List.set_cons_succ]
          refine wpAnyH_take (i := 12) (oi := { dst := some 31, op := Op.pick (Operand.tmp 21) (Operand.tmp 30) (Operand.const (Value.bool false)), type := 4, pos := "ref.go:59", after := #[{ on := 2, ground := Ground.data }, { on := 11, ground := Ground.data }], guard := none }) (v := ?_) rfl (by kernel_rfl) (by kernel_rfl) (by kernel_rfl) (fun _ _ _ h => h) (Or.inl ⟨by rfl, ?_⟩) hHeld ?_
          rotate_left
          · intro w' hSw
            (try dsimp only at hSw)
            go_simp
            all_goals with_reducible rfl
          try simp only [Act.put, List.setIfInBounds_toArray, List.set_cons_zero, List.set_cons_succ]
          refine wpAnyH_done (by kernel_rfl) ?_ _
          all_goals go_wp2_with (at_builtin; refine wpList_append_lies _ (by rfl) _ _ 29 (by rfl) w3.heap.size 43 i0 _ 3 48 Try.underlying29 hi0 hz0 hz1 hz2 rfl (by omega) _ (al) (xcells A) (by rfl) (World.ownsRow.alloc hown _) ⟨wr.heap.size, 0, none⟩ 1 1 [.string (bs fm.n), .slice pm fm.b.length cm, .int .i64 fm.s] (by rfl) (by rfl) (World.news_of_block (cs := #[.string (bs fm.n), .slice pm fm.b.length cm, .int .i64 fm.s]) (t := 43) (fr := (0, 0)) (heap_alloc_new wr _)) (by simp [Value.oneCell']) (by omega) (by unfold maxLen; omega) (by omega) (by simp; omega) (wr.heap.size + 1) (by simp) ?_; intro gg cap w4 hown4 hgrow hat hlt4; have HO4 := Lib.hid hown4; have HG4 := Lib.hid hgrow; clear hown4 hgrow)
          all_goals go_roundw
          all_goals first
            | (simp [intOf]; omega)
            | (subst hA
               obtain ⟨r1, r2⟩ := XAt.snoc (m := (fm, .slice pm fm.b.length cm)) HB.out (by omega) HR.out HO4.out (by first | exact HG4.out | exact grown_drew HG4.out)
               refine ⟨k + 1, A ++ [(fm, .slice pm fm.b.length cm)], false, by go_num, rfl, by omega, by simp; omega, r1, HALL.out A HRD.out, ?_, r2⟩
               rw [List.map_append]
               exact HI.out.stay HML.out (.inr hlf))
    · have hkn : k = k0 := by omega
      subst hkn
      have hb2 : Below w.heap.size w wr := hB2
      have hX1 : (X.map (·.1)).length = k := by rw [List.length_map]; exact HXL.out
      have HR := Lib.hid hr; have HB := Lib.hid hB; have HI := Lib.hid hI; have HRD := Lib.hid hrd; have HB2 := Lib.hid hB2
      have hown : wr.ownsRow w3.heap.size 43 3 (.slice po A.length co) A.length (xcells A) := hr
      clear hr hB hI hrd hT4 hB2 hb2
      cases dn
      · have hAk : A.length ≤ k := by
          rcases HI.out with ⟨_, h, _⟩ | ⟨h, _⟩
          · have h1 := congrArg List.length h
            rw [List.length_map, List.length_take] at h1
            omega
          · cases h
        have hfin := HI.out
        rw [← hX1] at hfin
        have hfin := hfin.last
        have HFIN := Lib.hid hfin
        have hAp : (A ++ [(f, Value.slice pv lv cv)]).length = A.length + 1 := by simp
        clear hfin
        generalize hA : A.length = al at *
        go_wp2_with (at_builtin; refine wpList_append_lies _ (by rfl) _ _ 29 (by rfl) w3.heap.size 43 i0 _ 3 48 Try.underlying29 hi0 hz0 hz1 hz2 rfl (by omega) _ (al) (xcells A) (by rfl) (World.ownsRow.alloc hown _) ⟨wr.heap.size, 0, none⟩ 1 1 [.string (bs f.n), .slice pv lv cv, .int .i64 f.s] (by rfl) (by rfl) (World.news_of_block (cs := #[.string (bs f.n), .slice pv lv cv, .int .i64 f.s]) (t := 43) (fr := (0, 0)) (heap_alloc_new wr _)) (by simp [Value.oneCell']) (by omega) (by unfold maxLen; omega) (by omega) (by simp; omega) (wr.heap.size + 1) (by simp) ?_; intro gg cap w4 hown4 hgrow hat hlt4; obtain ⟨r1, r2⟩ := XAt.snoc (m := (f, .slice pv lv cv)) HB.out (by omega) HR.out (by rw [hA]; exact hown4) (by first | exact hgrow | exact grown_drew hgrow); rw [hA] at r1; have hs4 := r2.size; have hT5 := HT3.out.keep (r2.mono (by omega)); have z0 := cellof hT5.a 0; have z1 := cellof hT5.a 1; have z2 := cellof hT5.a 2; have z3 := cellof hT5.a 3; have z4 := cellof hT5.a 4; have z5 := cellof hT5.a 5; have z6 := cellof hT5.a 6; have v0 := cellof hT5.z 0; have v1 := cellof hT5.z 1; have v2 := cellof hT5.z 2; have v3 := cellof hT5.z 3; have v4 := cellof hT5.z 4; have v5 := cellof hT5.z 5; have v6 := cellof hT5.z 6; have fa := fun o => frozenof hT5.a o; have fz := fun o => frozenof hT5.z o; simp only [List.getElem?_toArray, List.getElem?_cons_zero, List.getElem?_cons_succ] at z0 z1 z2 z3 z4 z5 z6 v0 v1 v2 v3 v4 v5 v6; have HR5 := Lib.hid r1; have HB5 := Lib.hid r2; have hB6 : Below w.heap.size w w4 := HB3.out.trans (r2.mono (by omega)); have HB6 := Lib.hid hB6; clear r1 r2 hT5 hown4 hgrow hB6)
        refine bodyPost_ret (v := .agg #[.int .i64 room, .slice (some ⟨gg, 0, none⟩) (al + 1) cap, .bool down, .int .i64 falls, .bool fused, .int .i64 fuse, .int .i64 part]) (by simp [results, Try.results42, go_sem, v0, v1, v2, v3, v4, v5, v6]) rfl ⟨some ⟨gg, 0, none⟩, cap, A ++ [(f, .slice pv lv cv)], ?_, ?_, ?_, ?_, ?_⟩
        · rw [hAp]
        · refine own_base (base := w3.heap.size) ?_ (by omega)
          repeat refine ownsRow_setCell_below ?_ (by simp <;> omega) _
          rw [hAp]
          have := HR5.out
          unfold XAt at this
          rw [hAp] at this
          exact this
        · have hfall : ∀ x ∈ A ++ [(f, Value.slice pv lv cv)], R x.2 x.1.b := fun x hx => by
            rcases List.mem_append.1 hx with hx | hx
            · exact HRD.out x hx
            · rw [List.mem_singleton.1 hx]; exact HV.out
          first
            | exact hfall
            | exact fun a b hx => hfall (a, b) hx
        · rw [List.map_append]
          have := HFIN.out
          rw [HXF.out] at this
          exact this
        · repeat refine Below.setCell ?_ (by simp <;> omega) _
          exact HB6.out
      · have hfin := HI.out
        rw [← hX1] at hfin
        have hfin := hfin.done
        have HFIN := Lib.hid hfin
        clear hfin
        generalize hA : A.length = al at *
        go_wp2
        subst hA
        refine bodyPost_ret (v := .agg #[.int .i64 room, .slice po A.length co, .bool down, .int .i64 falls, .bool fused, .int .i64 fuse, .int .i64 part]) (by simp [results, Try.results42, go_sem, u0, u1, u2, u3, u4, u5, u6]) rfl ⟨po, co, A, rfl, ?_, (by first | exact HRD.out | exact fun a b hx => HRD.out (a, b) hx), ?_, ?_⟩
        · refine own_base (base := w3.heap.size) ?_ (by omega)
          repeat refine ownsRow_setCell_below ?_ (by simp <;> omega) _
          exact HR.out
        · rw [HFIN.out, HXF.out]; rfl
        · repeat refine Below.setCell ?_ (by simp <;> omega) _
          exact HB2.out
theorem c42 (S : Ds) (p : Option Addr) (c : Nat) (f : Fl) (pv : Option Addr) (lv cv : Nat) (w0 w : World) (h : FsIn w0 w p S.fs) (hL : S.fs.length ≤ 1000) (hv : Rd w0 (.slice pv lv cv) f.b) : Calls Try.prog 42 #[MV S (.slice p S.fs.length c), .agg #[.string (bs f.n), .slice pv lv cv, .int .i64 f.s]] w (WoOut S (wiF S.fs f) (Rd w0) w) := c42r (Rd w0) (rd_slice w0) S p c f pv lv cv w h hL hv
end Go.Proofs.DK
