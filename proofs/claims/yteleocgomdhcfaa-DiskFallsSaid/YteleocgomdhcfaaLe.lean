/- Proved: what the program's 'Append' comes to. Each theorem says its own conditions. -/
import Derived.Test.YteleocgomdhcfaaLd
set_option linter.unusedVariables false
set_option linter.unusedSimpArgs false
namespace Go.Proofs.DK
open Go.RowKit
variable {G G2 : Nat → Prop} {bd bm : Nat} {es : Array MapEntry} {ck : Nat} {R : List En} {S : Ds} {w w2 W : World}
theorem fileOf_begin (S : Ds) (n : List UInt8) : fileOf S.begin n = fileOf S n := by
  unfold fileOf
  rw [begin_fs]
theorem len_map {w : World} {bm : Nat} {es : Array MapEntry} {ck : Nat} (h : w.heap[bm]? = some (.map es ck)) : (Builtin.len_ #[54] 3 #[.map (some bm)]).run Try.prog w = .ok (.int .i64 es.size) w := by
  simp [Builtin.len_, run_getObj_map h, goInt]
theorem c21d (h : D G bd S.begin w2) (hfs : S.begin.fs = S.fs) (hU : used S.fs ≤ 1000000) : Calls Try.prog 21 #[.pointer (some ⟨bd, 0, none⟩)] w2.drew fun e w' => e = .returned (.int .i64 (used S.fs)) ∧ Below w2.heap.size w2.drew w' := by
  have := c21 w2.drew (h.below (Below.refl _ w2).drew) (by rw [hfs]; exact hU)
  rw [hfs] at this
  exact this
set_option maxRecDepth 100000 in
set_option maxHeartbeats 4000000 in
theorem c12_0 (n b : List UInt8) (pb : Option Addr) (cb : Nat) (w : World) (h : D G bd S w) (hF : Fine S) (hbb : ∀ W, (∀ k, k < w.heap.size → ¬ G k → W.heap[k]? = w.heap[k]?) → w.heap.size ≤ W.heap.size → Rd W (.slice pb b.length cb) b) (hR : 0 ≤ S.room ∧ S.room ≤ 2000000) (hU : used S.fs ≤ 1000000) (hbl : b.length ≤ 500000) (hnl : n.length ≤ 1000000) (hp : 0 ≤ S.part ∧ S.part ≤ 9223372036854775807) (hhw : S.how = 0) : Calls Try.prog 12 #[ptr bd, .string (bs n), .slice pb b.length cb] w (Did G bd (.int .i64 (S.appendE n b)) (S.append n b) w) := by
  have hd : S.down = false := by
    rcases how_cases S with ⟨e, _⟩ | ⟨_, e, _⟩ | ⟨_, e, _⟩
    · omega
    · exact e
    · exact e
  have K11 := Lib.hid (c11 w h)
  have K34 := Lib.hid (c34 w h hd hF.f0 hF.f1 hF.f2 hF.f3)
  rw [hd] at K11
  have hfit : S.fits n b ↔ named n ∧ ¬ ((b.length : Int) > S.begin.room - used S.fs) ∧ ¬ (lookF S.fs n = none ∧ 256 ≤ S.fs.length) := by rw [begin_room]; exact Iff.rfl
  have hmm := part_le S b hp.1
  have hmd := part_mod S b hp.1
  have hm0 : S.how = 0 → S.part' b = b.length := fun h => by unfold Ds.part'; rw [if_neg (by omega)]
  rw [append_def]
  unfold Ds.appendE
  rw [hhw] at K34 hmd hm0 ⊢
  generalize S.part' b = mm at *
  have hmx := hm0 rfl
  clear hm0 hmd
  subst hmx; rw [List.take_length]
  have hts : (bs n).size = n.length := by simp [bs, ByteArray.size]
  have K35 := Lib.hid (fun w' => c35 (bs n) w' (by omega))
  rw [hts] at K35
  obtain ⟨yp0, yp1⟩ := (show w.cell? ⟨bd, 6, none⟩ = some (.int .i64 S.part) ∧ (Value.bool (decide ((0 : Nat) = 1))) = .bool false from by
    obtain ⟨bm, es, ck, R, hk⟩ := h
    exact ⟨hk.cells.2.2.2.2.2.2.1, rfl⟩)
  rw [yp1] at K34
  clear yp1
  have HFS := Lib.hid (begin_fs S); have HU := Lib.hid hU; have HBB := Lib.hid hbb
  have hlen := hF.len
  have hroom : 0 ≤ S.begin.room ∧ S.begin.room ≤ 2000000 := by rw [begin_room]; exact hR
  obtain ⟨hp0, hp1⟩ := hp
  obtain ⟨hr0, hr1⟩ := hroom
  have hcb : b.length ≤ cb := by
    obtain ⟨p', c', hv, hle, _⟩ := hbb w (fun _ _ _ => rfl) (Nat.le_refl _)
    cases hv
    exact hle
  clear hbb hU hF hd hhw hR h
  unfold ptr at K11 K34 ⊢
  rw [if_neg (show ¬ ((0 : Nat) = 2) by decide)]
  cases hlk : lookF S.fs n with
  | none =>
    have HLK := Lib.hid hlk
    by_cases hnm : named n
    · have ht1 : decide (1 ≤ n.length ∧ n.length ≤ 32) = true := decide_eq_true hnm
      rw [ht1] at K35
      have hwr : IntKind.i64.wrap (S.begin.room - (used S.fs : Int)) = S.begin.room - (used S.fs : Int) := IntWalk.i64_in _ (by have := HU.out; omega)
      by_cases hfu1 : (b.length : Int) > S.begin.room - used S.fs
      · have hfd : decide (S.begin.room - (used S.fs : Int) < (b.length : Int)) = true := decide_eq_true hfu1
        have hnf : ¬ S.fits n b := fun h => (hfit.1 h).2.1 hfu1
        rw [if_neg hnf]
        simp only [hnm, hnf, ne_eq, not_true_eq_false, not_false_eq_true, if_true, if_false]
        clear hfit hnf
        go_enter Try.func12, Try.ntmps12
        go_wp2_with (first | (go_at_call 35; (with_reducible refine (K35.out _).mono ?_); rintro e w9 ⟨rfl, rfl⟩) | (go_at_call 34; (refine K34.out.mono ?_); rintro e w2 ⟨rfl, G2, hG, ⟨bm, es, ck, R, hk⟩, ht⟩; obtain ⟨y0, y1, y2, y3, y4, y5, y6, yf⟩ := hk.cells; have hl := look_out0 hk.map (show Instr.findNow .string (.string (bs n)) es.toList 0 = some none from (by rcases hk.look n with ⟨_, _, _, _, _, _, _, _, _, h7⟩ | ⟨h1, _⟩; rw [HFS.out, HLK.out] at h7; cases h7; exact h1)); have hmp := hk.map; have hes : es.size = S.fs.length := (by have h1 := hk.mp.length_eq; have h2 := hk.perm.length_eq; rw [HFS.out] at h2; simp at h1 h2; omega); have K21 := c21 w2 ⟨bm, es, ck, R, hk⟩ (by rw [HFS.out]; exact HU.out); rw [HFS.out] at K21; unfold ptr at K21; have HK21 := Lib.hid K21; have HD2 := Lib.hid (show D G2 bd S.begin w2 from ⟨bm, es, ck, R, hk⟩); have HY0 := Lib.hid y0; have HY1 := Lib.hid y1; have HMP := Lib.hid hmp; have HBD := Lib.hid (Array.getElem?_eq_some_iff.1 hk.hd).1; have HBM := Lib.hid (Array.getElem?_eq_some_iff.1 hk.map).1; have HG := Lib.hid hG; have HT := Lib.hid ht; clear hk hG ht K21 y2 y3 y4 y5 y6 yf) | (go_at_call 11; (refine K11.out.mono ?_); rintro e w1 ⟨rfl, rfl⟩))
        have HK21 := Lib.hid (show Calls Try.prog 21 #[.pointer (some ⟨bd, 0, none⟩)] w2.drew _ from c21d HD2.out HFS.out HU.out)
        refine wp_region_held_drew (S := (fun w' => w'.cell? ⟨bd, 0, none⟩ = some (.int .i64 S.begin.room))) (by kernel_rfl) ?_ (fun hHeld => ?_)
        · (try dsimp only)
          go_keep
        refine wpAnyH_take (i := 0) (oi := { dst := some 31, op := Op.move (Operand.tmp 2), type := 33, pos := "disk.go:64", after := #[], guard := none }) (v := ?_) rfl (by kernel_rfl) (by kernel_rfl) (by kernel_rfl) (fun _ _ _ h => h) (Or.inl ⟨by rfl, ?_⟩) hHeld ?_
        rotate_left
        · intro w' hSw
          (try dsimp only at hSw)
          go_simp
          all_goals with_reducible rfl
        try simp only [Act.put, List.setIfInBounds_toArray, List.set_cons_zero, List.set_cons_succ]
        refine wpAnyH_take (i := 1) (oi := { dst := some 32, op := Op.call { callee := Callee.builtin Builtin.len, args := #[Operand.tmp 31], argTypes := #[33] }, type := 3, pos := "disk.go:64", after := #[{ on := 0, ground := Ground.data }], guard := none }) (v := ?_) rfl (by kernel_rfl) (by kernel_rfl) (by kernel_rfl) (fun _ _ _ h => h) (Or.inl ⟨by rfl, ?_⟩) hHeld ?_
        rotate_left
        · intro w' hSw
          (try dsimp only at hSw)
          go_simp
          all_goals with_reducible rfl
        try simp only [Act.put, List.setIfInBounds_toArray, List.set_cons_zero, List.set_cons_succ]
        refine wpAnyH_take (i := 2) (oi := { dst := some 33, op := Op.move (Operand.tmp 0), type := 25, pos := "disk.go:64", after := #[], guard := none }) (v := ?_) rfl (by kernel_rfl) (by kernel_rfl) (by kernel_rfl) (fun _ _ _ h => h) (Or.inl ⟨by rfl, ?_⟩) hHeld ?_
        rotate_left
        · intro w' hSw
          (try dsimp only at hSw)
          go_simp
          all_goals with_reducible rfl
        try simp only [Act.put, List.setIfInBounds_toArray, List.set_cons_zero, List.set_cons_succ]
        refine wpAnyH_take (i := 3) (oi := { dst := some 34, op := Op.nilCheck (Operand.tmp 33), type := 0, pos := "disk.go:64", after := #[{ on := 2, ground := Ground.data }], guard := none }) (v := ?_) rfl (by kernel_rfl) (by kernel_rfl) (by kernel_rfl) (fun _ _ _ h => h) (Or.inl ⟨by rfl, ?_⟩) hHeld ?_
        rotate_left
        · intro w' hSw
          (try dsimp only at hSw)
          go_simp
          all_goals with_reducible rfl
        try simp only [Act.put, List.setIfInBounds_toArray, List.set_cons_zero, List.set_cons_succ]
        refine wpAnyH_take (i := 4) (oi := { dst := some 35, op := Op.fieldAddr 56 (Operand.tmp 34) 0, type := 0, pos := "disk.go:64", after := #[{ on := 3, ground := Ground.data }], guard := none }) (v := ?_) rfl (by kernel_rfl) (by kernel_rfl) (by kernel_rfl) (fun _ _ _ h => h) (Or.inl ⟨by rfl, ?_⟩) hHeld ?_
        rotate_left
        · intro w' hSw
          (try dsimp only at hSw)
          go_simp
          all_goals with_reducible rfl
        try simp only [Act.put, List.setIfInBounds_toArray, List.set_cons_zero, List.set_cons_succ]
        refine wpAnyH_take (i := 5) (oi := { dst := some 36, op := Op.load 3 (Operand.tmp 35), type := 3, pos := "disk.go:64", after := #[{ on := 4, ground := Ground.data }], guard := none }) (v := ?_) rfl (by kernel_rfl) (by kernel_rfl) (by kernel_rfl) (fun _ _ _ h => h) (Or.inl ⟨by rfl, ?_⟩) hHeld ?_
        rotate_left
        · intro w' hSw
          (try dsimp only at hSw)
          go_simp
          all_goals with_reducible rfl
        try simp only [Act.put, List.setIfInBounds_toArray, List.set_cons_zero, List.set_cons_succ]
        refine wpAnyH_take (i := 6) (oi := { dst := some 37, op := Op.move (Operand.tmp 0), type := 25, pos := "disk.go:64", after := #[], guard := none }) (v := ?_) rfl (by kernel_rfl) (by kernel_rfl) (by kernel_rfl) (fun _ _ _ h => h) (Or.inl ⟨by rfl, ?_⟩) hHeld ?_
        rotate_left
        · intro w' hSw
          (try dsimp only at hSw)
          go_simp
          all_goals with_reducible rfl
        try simp only [Act.put, List.setIfInBounds_toArray, List.set_cons_zero, List.set_cons_succ]
        refine wpAnyH_ready (rs := [7]) (by kernel_rfl) (by simp) ?_
        refine AllReadyH.cons (o := { dst := some 38, op := Op.call { callee := Callee.value (Operand.func 21), args := #[Operand.tmp 37], argTypes := #[25] }, type := 3, pos := "disk.go:64", after := #[{ on := 6, ground := Ground.data }], guard := none }) rfl (fun K hK => ?_) AllReadyH.nil
        go_simp
        go_at_call 21; (refine HK21.out.mono ?_); rintro e w3 ⟨rfl, hB3⟩; have y0 := (hB3.cell (p := ⟨bd, 0, none⟩) HBD.out).trans HY0.out; have y1 := (hB3.cell (p := ⟨bd, 1, none⟩) HBD.out).trans HY1.out; have hmp := (hB3.block _ HBM.out).trans HMP.out; have hB3' : Below w2.heap.size w2 w3 := (Below.refl _ w2).drew.trans hB3; have HB3 := Lib.hid hB3'; clear hB3 hB3'
        go_wp2_with fail
        refine hK.out _ _ ?_ (fun hHeld2 => ?_)
        · (try dsimp only)
          first
            | go_keep
            | (rw [World.cell?_setCell_other]; (· assumption); (· simp))
        clear hK K hHeld
        have hHeld := hHeld2
        clear hHeld2
        try simp only [Act.put, List.setIfInBounds_toArray, List.set_cons_zero, List.set_cons_succ]
        refine wpAnyH_take (i := 8) (oi := { dst := some 39, op := Op.binOp BinOp.sub 3 (Operand.tmp 36) (Operand.tmp 38) 3, type := 3, pos := "disk.go:64", after := #[{ on := 5, ground := Ground.data }, { on := 7, ground := Ground.data }], guard := none }) (v := ?_) rfl (by kernel_rfl) (by kernel_rfl) (by kernel_rfl) (fun _ _ _ h => h) (Or.inl ⟨by rfl, ?_⟩) hHeld ?_
        rotate_left
        · intro w' hSw
          (try dsimp only at hSw)
          go_simp
          all_goals with_reducible rfl
        try simp only [Act.put, List.setIfInBounds_toArray, List.set_cons_zero, List.set_cons_succ]
        refine wpAnyH_take (i := 9) (oi := { dst := some 40, op := Op.binOp BinOp.gtr 3 (Operand.tmp 32) (Operand.tmp 39) 3, type := 4, pos := "disk.go:64", after := #[{ on := 1, ground := Ground.data }, { on := 8, ground := Ground.data }], guard := none }) (v := ?_) rfl (by kernel_rfl) (by kernel_rfl) (by kernel_rfl) (fun _ _ _ h => h) (Or.inl ⟨by rfl, ?_⟩) hHeld ?_
        rotate_left
        · intro w' hSw
          (try dsimp only at hSw)
          go_simp
          all_goals with_reducible rfl
        try simp only [Act.put, List.setIfInBounds_toArray, List.set_cons_zero, List.set_cons_succ]
        refine wpAnyH_take (i := 10) (oi := { dst := some 30, op := Op.assign (Operand.tmp 40), type := 4, pos := "disk.go:64", after := #[{ on := 9, ground := Ground.data }, { on := 7, ground := Ground.chain }], guard := none }) (v := ?_) rfl (by kernel_rfl) (by kernel_rfl) (by kernel_rfl) (fun _ _ _ h => h) (Or.inl ⟨by rfl, ?_⟩) hHeld ?_
        rotate_left
        · intro w' hSw
          (try dsimp only at hSw)
          go_simp
          all_goals with_reducible rfl
        try simp only [Act.put, List.setIfInBounds_toArray, List.set_cons_zero, List.set_cons_succ]
        refine wpAnyH_done (by kernel_rfl) ?_ _
        go_wp2
        go_ret
        exact Did.then HG.out HT.out (HD2.out.below HB3.out) (fun b h => .inl h) (Turn.of HB3.out)
      · have hfd : decide (S.begin.room - (used S.fs : Int) < (b.length : Int)) = false := decide_eq_false hfu1
        by_cases h256 : 256 ≤ S.fs.length
        · have hfd2 : decide ((S.fs.length : Int) = 256) = true := decide_eq_true (by omega)
          have hnf : ¬ S.fits n b := fun h => (hfit.1 h).2.2 ⟨hlk, h256⟩
          rw [if_neg hnf]
          simp only [hnm, hnf, ne_eq, not_true_eq_false, not_false_eq_true, if_true, if_false]
          clear hfit hnf
          go_enter Try.func12, Try.ntmps12
          go_wp2_with (first | (go_at_call 35; (with_reducible refine (K35.out _).mono ?_); rintro e w9 ⟨rfl, rfl⟩) | (go_at_call 34; (refine K34.out.mono ?_); rintro e w2 ⟨rfl, G2, hG, ⟨bm, es, ck, R, hk⟩, ht⟩; obtain ⟨y0, y1, y2, y3, y4, y5, y6, yf⟩ := hk.cells; have hl := look_out0 hk.map (show Instr.findNow .string (.string (bs n)) es.toList 0 = some none from (by rcases hk.look n with ⟨_, _, _, _, _, _, _, _, _, h7⟩ | ⟨h1, _⟩; rw [HFS.out, HLK.out] at h7; cases h7; exact h1)); have hmp := hk.map; have hes : es.size = S.fs.length := (by have h1 := hk.mp.length_eq; have h2 := hk.perm.length_eq; rw [HFS.out] at h2; simp at h1 h2; omega); have K21 := c21 w2 ⟨bm, es, ck, R, hk⟩ (by rw [HFS.out]; exact HU.out); rw [HFS.out] at K21; unfold ptr at K21; have HK21 := Lib.hid K21; have HD2 := Lib.hid (show D G2 bd S.begin w2 from ⟨bm, es, ck, R, hk⟩); have HY0 := Lib.hid y0; have HY1 := Lib.hid y1; have HMP := Lib.hid hmp; have HBD := Lib.hid (Array.getElem?_eq_some_iff.1 hk.hd).1; have HBM := Lib.hid (Array.getElem?_eq_some_iff.1 hk.map).1; have HG := Lib.hid hG; have HT := Lib.hid ht; clear hk hG ht K21 y2 y3 y4 y5 y6 yf) | (go_at_call 11; (refine K11.out.mono ?_); rintro e w1 ⟨rfl, rfl⟩))
          have HK21 := Lib.hid (show Calls Try.prog 21 #[.pointer (some ⟨bd, 0, none⟩)] w2.drew _ from c21d HD2.out HFS.out HU.out)
          refine wp_region_held_drew (S := (fun w' => w'.cell? ⟨bd, 0, none⟩ = some (.int .i64 S.begin.room))) (by kernel_rfl) ?_ (fun hHeld => ?_)
          · (try dsimp only)
            go_keep
          refine wpAnyH_take (i := 0) (oi := { dst := some 31, op := Op.move (Operand.tmp 2), type := 33, pos := "disk.go:64", after := #[], guard := none }) (v := ?_) rfl (by kernel_rfl) (by kernel_rfl) (by kernel_rfl) (fun _ _ _ h => h) (Or.inl ⟨by rfl, ?_⟩) hHeld ?_
          rotate_left
          · intro w' hSw
            (try dsimp only at hSw)
            go_simp
            all_goals with_reducible rfl
          try simp only [Act.put, List.setIfInBounds_toArray, List.set_cons_zero, List.set_cons_succ]
          refine wpAnyH_take (i := 1) (oi := { dst := some 32, op := Op.call { callee := Callee.builtin Builtin.len, args := #[Operand.tmp 31], argTypes := #[33] }, type := 3, pos := "disk.go:64", after := #[{ on := 0, ground := Ground.data }], guard := none }) (v := ?_) rfl (by kernel_rfl) (by kernel_rfl) (by kernel_rfl) (fun _ _ _ h => h) (Or.inl ⟨by rfl, ?_⟩) hHeld ?_
          rotate_left
          · intro w' hSw
            (try dsimp only at hSw)
            go_simp
            all_goals with_reducible rfl
          try simp only [Act.put, List.setIfInBounds_toArray, List.set_cons_zero, List.set_cons_succ]
          refine wpAnyH_take (i := 2) (oi := { dst := some 33, op := Op.move (Operand.tmp 0), type := 25, pos := "disk.go:64", after := #[], guard := none }) (v := ?_) rfl (by kernel_rfl) (by kernel_rfl) (by kernel_rfl) (fun _ _ _ h => h) (Or.inl ⟨by rfl, ?_⟩) hHeld ?_
          rotate_left
          · intro w' hSw
            (try dsimp only at hSw)
            go_simp
            all_goals with_reducible rfl
          try simp only [Act.put, List.setIfInBounds_toArray, List.set_cons_zero, List.set_cons_succ]
          refine wpAnyH_take (i := 3) (oi := { dst := some 34, op := Op.nilCheck (Operand.tmp 33), type := 0, pos := "disk.go:64", after := #[{ on := 2, ground := Ground.data }], guard := none }) (v := ?_) rfl (by kernel_rfl) (by kernel_rfl) (by kernel_rfl) (fun _ _ _ h => h) (Or.inl ⟨by rfl, ?_⟩) hHeld ?_
          rotate_left
          · intro w' hSw
            (try dsimp only at hSw)
            go_simp
            all_goals with_reducible rfl
          try simp only [Act.put, List.setIfInBounds_toArray, List.set_cons_zero, List.set_cons_succ]
          refine wpAnyH_take (i := 4) (oi := { dst := some 35, op := Op.fieldAddr 56 (Operand.tmp 34) 0, type := 0, pos := "disk.go:64", after := #[{ on := 3, ground := Ground.data }], guard := none }) (v := ?_) rfl (by kernel_rfl) (by kernel_rfl) (by kernel_rfl) (fun _ _ _ h => h) (Or.inl ⟨by rfl, ?_⟩) hHeld ?_
          rotate_left
          · intro w' hSw
            (try dsimp only at hSw)
            go_simp
            all_goals with_reducible rfl
          try simp only [Act.put, List.setIfInBounds_toArray, List.set_cons_zero, List.set_cons_succ]
          refine wpAnyH_take (i := 5) (oi := { dst := some 36, op := Op.load 3 (Operand.tmp 35), type := 3, pos := "disk.go:64", after := #[{ on := 4, ground := Ground.data }], guard := none }) (v := ?_) rfl (by kernel_rfl) (by kernel_rfl) (by kernel_rfl) (fun _ _ _ h => h) (Or.inl ⟨by rfl, ?_⟩) hHeld ?_
          rotate_left
          · intro w' hSw
            (try dsimp only at hSw)
            go_simp
            all_goals with_reducible rfl
          try simp only [Act.put, List.setIfInBounds_toArray, List.set_cons_zero, List.set_cons_succ]
          refine wpAnyH_take (i := 6) (oi := { dst := some 37, op := Op.move (Operand.tmp 0), type := 25, pos := "disk.go:64", after := #[], guard := none }) (v := ?_) rfl (by kernel_rfl) (by kernel_rfl) (by kernel_rfl) (fun _ _ _ h => h) (Or.inl ⟨by rfl, ?_⟩) hHeld ?_
          rotate_left
          · intro w' hSw
            (try dsimp only at hSw)
            go_simp
            all_goals with_reducible rfl
          try simp only [Act.put, List.setIfInBounds_toArray, List.set_cons_zero, List.set_cons_succ]
          refine wpAnyH_ready (rs := [7]) (by kernel_rfl) (by simp) ?_
          refine AllReadyH.cons (o := { dst := some 38, op := Op.call { callee := Callee.value (Operand.func 21), args := #[Operand.tmp 37], argTypes := #[25] }, type := 3, pos := "disk.go:64", after := #[{ on := 6, ground := Ground.data }], guard := none }) rfl (fun K hK => ?_) AllReadyH.nil
          go_simp
          go_at_call 21; (refine HK21.out.mono ?_); rintro e w3 ⟨rfl, hB3⟩; have y0 := (hB3.cell (p := ⟨bd, 0, none⟩) HBD.out).trans HY0.out; have y1 := (hB3.cell (p := ⟨bd, 1, none⟩) HBD.out).trans HY1.out; have hmp := (hB3.block _ HBM.out).trans HMP.out; have hB3' : Below w2.heap.size w2 w3 := (Below.refl _ w2).drew.trans hB3; have HB3 := Lib.hid hB3'; clear hB3 hB3'
          go_wp2_with fail
          refine hK.out _ _ ?_ (fun hHeld2 => ?_)
          · (try dsimp only)
            first
              | go_keep
              | (rw [World.cell?_setCell_other]; (· assumption); (· simp))
          clear hK K hHeld
          have hHeld := hHeld2
          clear hHeld2
          try simp only [Act.put, List.setIfInBounds_toArray, List.set_cons_zero, List.set_cons_succ]
          refine wpAnyH_take (i := 8) (oi := { dst := some 39, op := Op.binOp BinOp.sub 3 (Operand.tmp 36) (Operand.tmp 38) 3, type := 3, pos := "disk.go:64", after := #[{ on := 5, ground := Ground.data }, { on := 7, ground := Ground.data }], guard := none }) (v := ?_) rfl (by kernel_rfl) (by kernel_rfl) (by kernel_rfl) (fun _ _ _ h => h) (Or.inl ⟨by rfl, ?_⟩) hHeld ?_
          rotate_left
          · intro w' hSw
            (try dsimp only at hSw)
            go_simp
            all_goals with_reducible rfl
          try simp only [Act.put, List.setIfInBounds_toArray, List.set_cons_zero, List.set_cons_succ]
          refine wpAnyH_take (i := 9) (oi := { dst := some 40, op := Op.binOp BinOp.gtr 3 (Operand.tmp 32) (Operand.tmp 39) 3, type := 4, pos := "disk.go:64", after := #[{ on := 1, ground := Ground.data }, { on := 8, ground := Ground.data }], guard := none }) (v := ?_) rfl (by kernel_rfl) (by kernel_rfl) (by kernel_rfl) (fun _ _ _ h => h) (Or.inl ⟨by rfl, ?_⟩) hHeld ?_
          rotate_left
          · intro w' hSw
            (try dsimp only at hSw)
            go_simp
            all_goals with_reducible rfl
          try simp only [Act.put, List.setIfInBounds_toArray, List.set_cons_zero, List.set_cons_succ]
          refine wpAnyH_take (i := 10) (oi := { dst := some 30, op := Op.assign (Operand.tmp 40), type := 4, pos := "disk.go:64", after := #[{ on := 9, ground := Ground.data }, { on := 7, ground := Ground.chain }], guard := none }) (v := ?_) rfl (by kernel_rfl) (by kernel_rfl) (by kernel_rfl) (fun _ _ _ h => h) (Or.inl ⟨by rfl, ?_⟩) hHeld ?_
          rotate_left
          · intro w' hSw
            (try dsimp only at hSw)
            go_simp
            all_goals with_reducible rfl
          try simp only [Act.put, List.setIfInBounds_toArray, List.set_cons_zero, List.set_cons_succ]
          refine wpAnyH_done (by kernel_rfl) ?_ _
          have hln := len_map hmp
          rw [hes] at hln
          go_wp2
          go_ret
          exact Did.then HG.out HT.out (HD2.out.below HB3.out) (fun b h => .inl h) (Turn.of HB3.out)
        · have hfd2 : decide ((S.fs.length : Int) = 256) = false := decide_eq_false (by omega)
          have hfv : S.fits n b := hfit.2 ⟨hnm, hfu1, fun h => h256 h.2⟩
          rw [if_pos hfv]
          simp only [hnm, hfv, ne_eq, not_true_eq_false, not_false_eq_true, if_true, if_false]
          clear hfit hfv
          go_enter Try.func12, Try.ntmps12
          go_wp2_with (first | (go_at_call 35; (with_reducible refine (K35.out _).mono ?_); rintro e w9 ⟨rfl, rfl⟩) | (go_at_call 34; (refine K34.out.mono ?_); rintro e w2 ⟨rfl, G2, hG, ⟨bm, es, ck, R, hk⟩, ht⟩; obtain ⟨y0, y1, y2, y3, y4, y5, y6, yf⟩ := hk.cells; have hl := look_out0 hk.map (show Instr.findNow .string (.string (bs n)) es.toList 0 = some none from (by rcases hk.look n with ⟨_, _, _, _, _, _, _, _, _, h7⟩ | ⟨h1, _⟩; rw [HFS.out, HLK.out] at h7; cases h7; exact h1)); have hmp := hk.map; have hes : es.size = S.fs.length := (by have h1 := hk.mp.length_eq; have h2 := hk.perm.length_eq; rw [HFS.out] at h2; simp at h1 h2; omega); have K21 := c21 w2 ⟨bm, es, ck, R, hk⟩ (by rw [HFS.out]; exact HU.out); rw [HFS.out] at K21; unfold ptr at K21; have HK21 := Lib.hid K21; have HD2 := Lib.hid (show D G2 bd S.begin w2 from ⟨bm, es, ck, R, hk⟩); have HY0 := Lib.hid y0; have HY1 := Lib.hid y1; have HMP := Lib.hid hmp; have HBD := Lib.hid (Array.getElem?_eq_some_iff.1 hk.hd).1; have HBM := Lib.hid (Array.getElem?_eq_some_iff.1 hk.map).1; have HG := Lib.hid hG; have HT := Lib.hid ht; clear hk hG ht K21 y2 y3 y4 y5 y6 yf) | (go_at_call 11; (refine K11.out.mono ?_); rintro e w1 ⟨rfl, rfl⟩))
          have HK21 := Lib.hid (show Calls Try.prog 21 #[.pointer (some ⟨bd, 0, none⟩)] w2.drew _ from c21d HD2.out HFS.out HU.out)
          refine wp_region_held_drew (S := (fun w' => w'.cell? ⟨bd, 0, none⟩ = some (.int .i64 S.begin.room))) (by kernel_rfl) ?_ (fun hHeld => ?_)
          · (try dsimp only)
            go_keep
          refine wpAnyH_take (i := 0) (oi := { dst := some 31, op := Op.move (Operand.tmp 2), type := 33, pos := "disk.go:64", after := #[], guard := none }) (v := ?_) rfl (by kernel_rfl) (by kernel_rfl) (by kernel_rfl) (fun _ _ _ h => h) (Or.inl ⟨by rfl, ?_⟩) hHeld ?_
          rotate_left
          · intro w' hSw
            (try dsimp only at hSw)
            go_simp
            all_goals with_reducible rfl
          try simp only [Act.put, List.setIfInBounds_toArray, List.set_cons_zero, List.set_cons_succ]
          refine wpAnyH_take (i := 1) (oi := { dst := some 32, op := Op.call { callee := Callee.builtin Builtin.len, args := #[Operand.tmp 31], argTypes := #[33] }, type := 3, pos := "disk.go:64", after := #[{ on := 0, ground := Ground.data }], guard := none }) (v := ?_) rfl (by kernel_rfl) (by kernel_rfl) (by kernel_rfl) (fun _ _ _ h => h) (Or.inl ⟨by rfl, ?_⟩) hHeld ?_
          rotate_left
          · intro w' hSw
            (try dsimp only at hSw)
            go_simp
            all_goals with_reducible rfl
          try simp only [Act.put, List.setIfInBounds_toArray, List.set_cons_zero, List.set_cons_succ]
          refine wpAnyH_take (i := 2) (oi := { dst := some 33, op := Op.move (Operand.tmp 0), type := 25, pos := "disk.go:64", after := #[], guard := none }) (v := ?_) rfl (by kernel_rfl) (by kernel_rfl) (by kernel_rfl) (fun _ _ _ h => h) (Or.inl ⟨by rfl, ?_⟩) hHeld ?_
          rotate_left
          · intro w' hSw
            (try dsimp only at hSw)
            go_simp
            all_goals with_reducible rfl
          try simp only [Act.put, List.setIfInBounds_toArray, List.set_cons_zero, List.set_cons_succ]
          refine wpAnyH_take (i := 3) (oi := { dst := some 34, op := Op.nilCheck (Operand.tmp 33), type := 0, pos := "disk.go:64", after := #[{ on := 2, ground := Ground.data }], guard := none }) (v := ?_) rfl (by kernel_rfl) (by kernel_rfl) (by kernel_rfl) (fun _ _ _ h => h) (Or.inl ⟨by rfl, ?_⟩) hHeld ?_
          rotate_left
          · intro w' hSw
            (try dsimp only at hSw)
            go_simp
            all_goals with_reducible rfl
          try simp only [Act.put, List.setIfInBounds_toArray, List.set_cons_zero, List.set_cons_succ]
          refine wpAnyH_take (i := 4) (oi := { dst := some 35, op := Op.fieldAddr 56 (Operand.tmp 34) 0, type := 0, pos := "disk.go:64", after := #[{ on := 3, ground := Ground.data }], guard := none }) (v := ?_) rfl (by kernel_rfl) (by kernel_rfl) (by kernel_rfl) (fun _ _ _ h => h) (Or.inl ⟨by rfl, ?_⟩) hHeld ?_
          rotate_left
          · intro w' hSw
            (try dsimp only at hSw)
            go_simp
            all_goals with_reducible rfl
          try simp only [Act.put, List.setIfInBounds_toArray, List.set_cons_zero, List.set_cons_succ]
          refine wpAnyH_take (i := 5) (oi := { dst := some 36, op := Op.load 3 (Operand.tmp 35), type := 3, pos := "disk.go:64", after := #[{ on := 4, ground := Ground.data }], guard := none }) (v := ?_) rfl (by kernel_rfl) (by kernel_rfl) (by kernel_rfl) (fun _ _ _ h => h) (Or.inl ⟨by rfl, ?_⟩) hHeld ?_
          rotate_left
          · intro w' hSw
            (try dsimp only at hSw)
            go_simp
            all_goals with_reducible rfl
          try simp only [Act.put, List.setIfInBounds_toArray, List.set_cons_zero, List.set_cons_succ]
          refine wpAnyH_take (i := 6) (oi := { dst := some 37, op := Op.move (Operand.tmp 0), type := 25, pos := "disk.go:64", after := #[], guard := none }) (v := ?_) rfl (by kernel_rfl) (by kernel_rfl) (by kernel_rfl) (fun _ _ _ h => h) (Or.inl ⟨by rfl, ?_⟩) hHeld ?_
          rotate_left
          · intro w' hSw
            (try dsimp only at hSw)
            go_simp
            all_goals with_reducible rfl
          try simp only [Act.put, List.setIfInBounds_toArray, List.set_cons_zero, List.set_cons_succ]
          refine wpAnyH_ready (rs := [7]) (by kernel_rfl) (by simp) ?_
          refine AllReadyH.cons (o := { dst := some 38, op := Op.call { callee := Callee.value (Operand.func 21), args := #[Operand.tmp 37], argTypes := #[25] }, type := 3, pos := "disk.go:64", after := #[{ on := 6, ground := Ground.data }], guard := none }) rfl (fun K hK => ?_) AllReadyH.nil
          go_simp
          go_at_call 21; (refine HK21.out.mono ?_); rintro e w3 ⟨rfl, hB3⟩; have y0 := (hB3.cell (p := ⟨bd, 0, none⟩) HBD.out).trans HY0.out; have y1 := (hB3.cell (p := ⟨bd, 1, none⟩) HBD.out).trans HY1.out; have hmp := (hB3.block _ HBM.out).trans HMP.out; have hB3' : Below w2.heap.size w2 w3 := (Below.refl _ w2).drew.trans hB3; have HB3 := Lib.hid hB3'; clear hB3 hB3'
          go_wp2_with fail
          refine hK.out _ _ ?_ (fun hHeld2 => ?_)
          · (try dsimp only)
            first
              | go_keep
              | (rw [World.cell?_setCell_other]; (· assumption); (· simp))
          clear hK K hHeld
          have hHeld := hHeld2
          clear hHeld2
          try simp only [Act.put, List.setIfInBounds_toArray, List.set_cons_zero, List.set_cons_succ]
          refine wpAnyH_take (i := 8) (oi := { dst := some 39, op := Op.binOp BinOp.sub 3 (Operand.tmp 36) (Operand.tmp 38) 3, type := 3, pos := "disk.go:64", after := #[{ on := 5, ground := Ground.data }, { on := 7, ground := Ground.data }], guard := none }) (v := ?_) rfl (by kernel_rfl) (by kernel_rfl) (by kernel_rfl) (fun _ _ _ h => h) (Or.inl ⟨by rfl, ?_⟩) hHeld ?_
          rotate_left
          · intro w' hSw
            (try dsimp only at hSw)
            go_simp
            all_goals with_reducible rfl
          try simp only [Act.put, List.setIfInBounds_toArray, List.set_cons_zero, List.set_cons_succ]
          refine wpAnyH_take (i := 9) (oi := { dst := some 40, op := Op.binOp BinOp.gtr 3 (Operand.tmp 32) (Operand.tmp 39) 3, type := 4, pos := "disk.go:64", after := #[{ on := 1, ground := Ground.data }, { on := 8, ground := Ground.data }], guard := none }) (v := ?_) rfl (by kernel_rfl) (by kernel_rfl) (by kernel_rfl) (fun _ _ _ h => h) (Or.inl ⟨by rfl, ?_⟩) hHeld ?_
          rotate_left
          · intro w' hSw
            (try dsimp only at hSw)
            go_simp
            all_goals with_reducible rfl
          try simp only [Act.put, List.setIfInBounds_toArray, List.set_cons_zero, List.set_cons_succ]
          refine wpAnyH_take (i := 10) (oi := { dst := some 30, op := Op.assign (Operand.tmp 40), type := 4, pos := "disk.go:64", after := #[{ on := 9, ground := Ground.data }, { on := 7, ground := Ground.chain }], guard := none }) (v := ?_) rfl (by kernel_rfl) (by kernel_rfl) (by kernel_rfl) (fun _ _ _ h => h) (Or.inl ⟨by rfl, ?_⟩) hHeld ?_
          rotate_left
          · intro w' hSw
            (try dsimp only at hSw)
            go_simp
            all_goals with_reducible rfl
          try simp only [Act.put, List.setIfInBounds_toArray, List.set_cons_zero, List.set_cons_succ]
          refine wpAnyH_done (by kernel_rfl) ?_ _
          have hln := len_map hmp
          rw [hes] at hln
          have K36 := c36 (G := G2) (S := S.begin) n b pb cb w3 (HD2.out.below HB3.out) ((HBB.out w3 (fun k hk hn => (HB3.out.block k (Nat.lt_of_lt_of_le hk HT.out.size)).trans (HT.out.block k hk hn)) (Nat.le_trans HT.out.size HB3.out.size))) (by rw [HFS.out]; exact HU.out) (by omega)
          unfold ptr at K36
          have HK36 := Lib.hid K36
          clear K36
          go_wp2_with (go_at_call 36; (refine HK36.out.mono ?_); rintro e w4 ⟨rfl, G4, hG4, hd4, ht4⟩; have HG4 := Lib.hid hG4; have HD4 := Lib.hid hd4; have HT4 := Lib.hid ht4; clear hG4 hd4 ht4)
          go_ret
          have hd4 := HD4.out
          rw [fileOf_begin, HFS.out] at hd4
          exact Did.then HG.out HT.out hd4 (fun b h => (HG4.out b h).imp (fun h => h) fun h => Nat.le_trans HB3.out.size h) ((Turn.of HB3.out).trans HT4.out fun _ _ h => h)
    · have ht1 : decide (1 ≤ n.length ∧ n.length ≤ 32) = false := decide_eq_false hnm
      rw [ht1] at K35
      have hnf : ¬ S.fits n b := fun h => hnm (hfit.1 h).1
      rw [if_neg hnf]
      simp only [hnm, hnf, ne_eq, not_true_eq_false, not_false_eq_true, if_true, if_false]
      clear hfit hnf
      go_enter Try.func12, Try.ntmps12
      go_wp2_with (first | (go_at_call 35; (with_reducible refine (K35.out _).mono ?_); rintro e w9 ⟨rfl, rfl⟩) | (go_at_call 34; (refine K34.out.mono ?_); rintro e w2 ⟨rfl, G2, hG, ⟨bm, es, ck, R, hk⟩, ht⟩; obtain ⟨y0, y1, y2, y3, y4, y5, y6, yf⟩ := hk.cells; have hl := look_out0 hk.map (show Instr.findNow .string (.string (bs n)) es.toList 0 = some none from (by rcases hk.look n with ⟨_, _, _, _, _, _, _, _, _, h7⟩ | ⟨h1, _⟩; rw [HFS.out, HLK.out] at h7; cases h7; exact h1)); have hmp := hk.map; have hes : es.size = S.fs.length := (by have h1 := hk.mp.length_eq; have h2 := hk.perm.length_eq; rw [HFS.out] at h2; simp at h1 h2; omega); have K21 := c21 w2 ⟨bm, es, ck, R, hk⟩ (by rw [HFS.out]; exact HU.out); rw [HFS.out] at K21; unfold ptr at K21; have HK21 := Lib.hid K21; have HD2 := Lib.hid (show D G2 bd S.begin w2 from ⟨bm, es, ck, R, hk⟩); have HY0 := Lib.hid y0; have HY1 := Lib.hid y1; have HMP := Lib.hid hmp; have HBD := Lib.hid (Array.getElem?_eq_some_iff.1 hk.hd).1; have HBM := Lib.hid (Array.getElem?_eq_some_iff.1 hk.map).1; have HG := Lib.hid hG; have HT := Lib.hid ht; clear hk hG ht K21 y2 y3 y4 y5 y6 yf) | (go_at_call 11; (refine K11.out.mono ?_); rintro e w1 ⟨rfl, rfl⟩))
      go_ret
      exact Did.then HG.out HT.out HD2.out (fun b h => .inl h) (Turn.refl _ _)
  | some f =>
    have HLK := Lib.hid hlk
    by_cases hnm : named n
    · have ht1 : decide (1 ≤ n.length ∧ n.length ≤ 32) = true := decide_eq_true hnm
      rw [ht1] at K35
      have hwr : IntKind.i64.wrap (S.begin.room - (used S.fs : Int)) = S.begin.room - (used S.fs : Int) := IntWalk.i64_in _ (by have := HU.out; omega)
      by_cases hfu1 : (b.length : Int) > S.begin.room - used S.fs
      · have hfd : decide (S.begin.room - (used S.fs : Int) < (b.length : Int)) = true := decide_eq_true hfu1
        have hnf : ¬ S.fits n b := fun h => (hfit.1 h).2.1 hfu1
        rw [if_neg hnf]
        simp only [hnm, hnf, ne_eq, not_true_eq_false, not_false_eq_true, if_true, if_false]
        clear hfit hnf
        go_enter Try.func12, Try.ntmps12
        go_wp2_with (first | (go_at_call 35; (with_reducible refine (K35.out _).mono ?_); rintro e w9 ⟨rfl, rfl⟩) | (go_at_call 34; (refine K34.out.mono ?_); rintro e w2 ⟨rfl, G2, hG, ⟨bm, es, ck, R, hk⟩, ht⟩; obtain ⟨y0, y1, y2, y3, y4, y5, y6, yf⟩ := hk.cells; have hlo : ∃ b1 j, Instr.findNow .string (.string (bs n)) es.toList 0 = some (some (j, ptr b1)) := (by rcases hk.look n with ⟨en, j, _, h1, _, _, _, h5, h6, h7⟩ | ⟨_, _, h7⟩; exact ⟨en.b, j, h1⟩; rw [HFS.out, HLK.out] at h7; cases h7); obtain ⟨b1, j, hf1⟩ := hlo; have hl := look_in0 hk.map hf1; unfold ptr at hl; have hmp := hk.map; have hes : es.size = S.fs.length := (by have h1 := hk.mp.length_eq; have h2 := hk.perm.length_eq; rw [HFS.out] at h2; simp at h1 h2; omega); have K21 := c21 w2 ⟨bm, es, ck, R, hk⟩ (by rw [HFS.out]; exact HU.out); rw [HFS.out] at K21; unfold ptr at K21; have HK21 := Lib.hid K21; have HD2 := Lib.hid (show D G2 bd S.begin w2 from ⟨bm, es, ck, R, hk⟩); have HY0 := Lib.hid y0; have HY1 := Lib.hid y1; have HMP := Lib.hid hmp; have HBD := Lib.hid (Array.getElem?_eq_some_iff.1 hk.hd).1; have HBM := Lib.hid (Array.getElem?_eq_some_iff.1 hk.map).1; have HG := Lib.hid hG; have HT := Lib.hid ht; clear hk hG ht K21 y2 y3 y4 y5 y6 yf) | (go_at_call 11; (refine K11.out.mono ?_); rintro e w1 ⟨rfl, rfl⟩))
        have HK21 := Lib.hid (show Calls Try.prog 21 #[.pointer (some ⟨bd, 0, none⟩)] w2.drew _ from c21d HD2.out HFS.out HU.out)
        refine wp_region_held_drew (S := (fun w' => w'.cell? ⟨bd, 0, none⟩ = some (.int .i64 S.begin.room))) (by kernel_rfl) ?_ (fun hHeld => ?_)
        · (try dsimp only)
          go_keep
        refine wpAnyH_take (i := 0) (oi := { dst := some 31, op := Op.move (Operand.tmp 2), type := 33, pos := "disk.go:64", after := #[], guard := none }) (v := ?_) rfl (by kernel_rfl) (by kernel_rfl) (by kernel_rfl) (fun _ _ _ h => h) (Or.inl ⟨by rfl, ?_⟩) hHeld ?_
        rotate_left
        · intro w' hSw
          (try dsimp only at hSw)
          go_simp
          all_goals with_reducible rfl
        try simp only [Act.put, List.setIfInBounds_toArray, List.set_cons_zero, List.set_cons_succ]
        refine wpAnyH_take (i := 1) (oi := { dst := some 32, op := Op.call { callee := Callee.builtin Builtin.len, args := #[Operand.tmp 31], argTypes := #[33] }, type := 3, pos := "disk.go:64", after := #[{ on := 0, ground := Ground.data }], guard := none }) (v := ?_) rfl (by kernel_rfl) (by kernel_rfl) (by kernel_rfl) (fun _ _ _ h => h) (Or.inl ⟨by rfl, ?_⟩) hHeld ?_
        rotate_left
        · intro w' hSw
          (try dsimp only at hSw)
          go_simp
          all_goals with_reducible rfl
        try simp only [Act.put, List.setIfInBounds_toArray, List.set_cons_zero, List.set_cons_succ]
        refine wpAnyH_take (i := 2) (oi := { dst := some 33, op := Op.move (Operand.tmp 0), type := 25, pos := "disk.go:64", after := #[], guard := none }) (v := ?_) rfl (by kernel_rfl) (by kernel_rfl) (by kernel_rfl) (fun _ _ _ h => h) (Or.inl ⟨by rfl, ?_⟩) hHeld ?_
        rotate_left
        · intro w' hSw
          (try dsimp only at hSw)
          go_simp
          all_goals with_reducible rfl
        try simp only [Act.put, List.setIfInBounds_toArray, List.set_cons_zero, List.set_cons_succ]
        refine wpAnyH_take (i := 3) (oi := { dst := some 34, op := Op.nilCheck (Operand.tmp 33), type := 0, pos := "disk.go:64", after := #[{ on := 2, ground := Ground.data }], guard := none }) (v := ?_) rfl (by kernel_rfl) (by kernel_rfl) (by kernel_rfl) (fun _ _ _ h => h) (Or.inl ⟨by rfl, ?_⟩) hHeld ?_
        rotate_left
        · intro w' hSw
          (try dsimp only at hSw)
          go_simp
          all_goals with_reducible rfl
        try simp only [Act.put, List.setIfInBounds_toArray, List.set_cons_zero, List.set_cons_succ]
        refine wpAnyH_take (i := 4) (oi := { dst := some 35, op := Op.fieldAddr 56 (Operand.tmp 34) 0, type := 0, pos := "disk.go:64", after := #[{ on := 3, ground := Ground.data }], guard := none }) (v := ?_) rfl (by kernel_rfl) (by kernel_rfl) (by kernel_rfl) (fun _ _ _ h => h) (Or.inl ⟨by rfl, ?_⟩) hHeld ?_
        rotate_left
        · intro w' hSw
          (try dsimp only at hSw)
          go_simp
          all_goals with_reducible rfl
        try simp only [Act.put, List.setIfInBounds_toArray, List.set_cons_zero, List.set_cons_succ]
        refine wpAnyH_take (i := 5) (oi := { dst := some 36, op := Op.load 3 (Operand.tmp 35), type := 3, pos := "disk.go:64", after := #[{ on := 4, ground := Ground.data }], guard := none }) (v := ?_) rfl (by kernel_rfl) (by kernel_rfl) (by kernel_rfl) (fun _ _ _ h => h) (Or.inl ⟨by rfl, ?_⟩) hHeld ?_
        rotate_left
        · intro w' hSw
          (try dsimp only at hSw)
          go_simp
          all_goals with_reducible rfl
        try simp only [Act.put, List.setIfInBounds_toArray, List.set_cons_zero, List.set_cons_succ]
        refine wpAnyH_take (i := 6) (oi := { dst := some 37, op := Op.move (Operand.tmp 0), type := 25, pos := "disk.go:64", after := #[], guard := none }) (v := ?_) rfl (by kernel_rfl) (by kernel_rfl) (by kernel_rfl) (fun _ _ _ h => h) (Or.inl ⟨by rfl, ?_⟩) hHeld ?_
        rotate_left
        · intro w' hSw
          (try dsimp only at hSw)
          go_simp
          all_goals with_reducible rfl
        try simp only [Act.put, List.setIfInBounds_toArray, List.set_cons_zero, List.set_cons_succ]
        refine wpAnyH_ready (rs := [7]) (by kernel_rfl) (by simp) ?_
        refine AllReadyH.cons (o := { dst := some 38, op := Op.call { callee := Callee.value (Operand.func 21), args := #[Operand.tmp 37], argTypes := #[25] }, type := 3, pos := "disk.go:64", after := #[{ on := 6, ground := Ground.data }], guard := none }) rfl (fun K hK => ?_) AllReadyH.nil
        go_simp
        go_at_call 21; (refine HK21.out.mono ?_); rintro e w3 ⟨rfl, hB3⟩; have y0 := (hB3.cell (p := ⟨bd, 0, none⟩) HBD.out).trans HY0.out; have y1 := (hB3.cell (p := ⟨bd, 1, none⟩) HBD.out).trans HY1.out; have hmp := (hB3.block _ HBM.out).trans HMP.out; have hB3' : Below w2.heap.size w2 w3 := (Below.refl _ w2).drew.trans hB3; have HB3 := Lib.hid hB3'; clear hB3 hB3'
        go_wp2_with fail
        refine hK.out _ _ ?_ (fun hHeld2 => ?_)
        · (try dsimp only)
          first
            | go_keep
            | (rw [World.cell?_setCell_other]; (· assumption); (· simp))
        clear hK K hHeld
        have hHeld := hHeld2
        clear hHeld2
        try simp only [Act.put, List.setIfInBounds_toArray, List.set_cons_zero, List.set_cons_succ]
        refine wpAnyH_take (i := 8) (oi := { dst := some 39, op := Op.binOp BinOp.sub 3 (Operand.tmp 36) (Operand.tmp 38) 3, type := 3, pos := "disk.go:64", after := #[{ on := 5, ground := Ground.data }, { on := 7, ground := Ground.data }], guard := none }) (v := ?_) rfl (by kernel_rfl) (by kernel_rfl) (by kernel_rfl) (fun _ _ _ h => h) (Or.inl ⟨by rfl, ?_⟩) hHeld ?_
        rotate_left
        · intro w' hSw
          (try dsimp only at hSw)
          go_simp
          all_goals with_reducible rfl
        try simp only [Act.put, List.setIfInBounds_toArray, List.set_cons_zero, List.set_cons_succ]
        refine wpAnyH_take (i := 9) (oi := { dst := some 40, op := Op.binOp BinOp.gtr 3 (Operand.tmp 32) (Operand.tmp 39) 3, type := 4, pos := "disk.go:64", after := #[{ on := 1, ground := Ground.data }, { on := 8, ground := Ground.data }], guard := none }) (v := ?_) rfl (by kernel_rfl) (by kernel_rfl) (by kernel_rfl) (fun _ _ _ h => h) (Or.inl ⟨by rfl, ?_⟩) hHeld ?_
        rotate_left
        · intro w' hSw
          (try dsimp only at hSw)
          go_simp
          all_goals with_reducible rfl
        try simp only [Act.put, List.setIfInBounds_toArray, List.set_cons_zero, List.set_cons_succ]
        refine wpAnyH_take (i := 10) (oi := { dst := some 30, op := Op.assign (Operand.tmp 40), type := 4, pos := "disk.go:64", after := #[{ on := 9, ground := Ground.data }, { on := 7, ground := Ground.chain }], guard := none }) (v := ?_) rfl (by kernel_rfl) (by kernel_rfl) (by kernel_rfl) (fun _ _ _ h => h) (Or.inl ⟨by rfl, ?_⟩) hHeld ?_
        rotate_left
        · intro w' hSw
          (try dsimp only at hSw)
          go_simp
          all_goals with_reducible rfl
        try simp only [Act.put, List.setIfInBounds_toArray, List.set_cons_zero, List.set_cons_succ]
        refine wpAnyH_done (by kernel_rfl) ?_ _
        go_wp2
        go_ret
        exact Did.then HG.out HT.out (HD2.out.below HB3.out) (fun b h => .inl h) (Turn.of HB3.out)
      · have hfd : decide (S.begin.room - (used S.fs : Int) < (b.length : Int)) = false := decide_eq_false hfu1
        have hfv : S.fits n b := hfit.2 ⟨hnm, hfu1, fun h => by rw [hlk] at h; exact absurd h.1 (by simp)⟩
        rw [if_pos hfv]
        simp only [hnm, hfv, ne_eq, not_true_eq_false, not_false_eq_true, if_true, if_false]
        clear hfit hfv
        go_enter Try.func12, Try.ntmps12
        go_wp2_with (first | (go_at_call 35; (with_reducible refine (K35.out _).mono ?_); rintro e w9 ⟨rfl, rfl⟩) | (go_at_call 34; (refine K34.out.mono ?_); rintro e w2 ⟨rfl, G2, hG, ⟨bm, es, ck, R, hk⟩, ht⟩; obtain ⟨y0, y1, y2, y3, y4, y5, y6, yf⟩ := hk.cells; have hlo : ∃ b1 j, Instr.findNow .string (.string (bs n)) es.toList 0 = some (some (j, ptr b1)) := (by rcases hk.look n with ⟨en, j, _, h1, _, _, _, h5, h6, h7⟩ | ⟨_, _, h7⟩; exact ⟨en.b, j, h1⟩; rw [HFS.out, HLK.out] at h7; cases h7); obtain ⟨b1, j, hf1⟩ := hlo; have hl := look_in0 hk.map hf1; unfold ptr at hl; have hmp := hk.map; have hes : es.size = S.fs.length := (by have h1 := hk.mp.length_eq; have h2 := hk.perm.length_eq; rw [HFS.out] at h2; simp at h1 h2; omega); have K21 := c21 w2 ⟨bm, es, ck, R, hk⟩ (by rw [HFS.out]; exact HU.out); rw [HFS.out] at K21; unfold ptr at K21; have HK21 := Lib.hid K21; have HD2 := Lib.hid (show D G2 bd S.begin w2 from ⟨bm, es, ck, R, hk⟩); have HY0 := Lib.hid y0; have HY1 := Lib.hid y1; have HMP := Lib.hid hmp; have HBD := Lib.hid (Array.getElem?_eq_some_iff.1 hk.hd).1; have HBM := Lib.hid (Array.getElem?_eq_some_iff.1 hk.map).1; have HG := Lib.hid hG; have HT := Lib.hid ht; clear hk hG ht K21 y2 y3 y4 y5 y6 yf) | (go_at_call 11; (refine K11.out.mono ?_); rintro e w1 ⟨rfl, rfl⟩))
        have HK21 := Lib.hid (show Calls Try.prog 21 #[.pointer (some ⟨bd, 0, none⟩)] w2.drew _ from c21d HD2.out HFS.out HU.out)
        refine wp_region_held_drew (S := (fun w' => w'.cell? ⟨bd, 0, none⟩ = some (.int .i64 S.begin.room))) (by kernel_rfl) ?_ (fun hHeld => ?_)
        · (try dsimp only)
          go_keep
        refine wpAnyH_take (i := 0) (oi := { dst := some 31, op := Op.move (Operand.tmp 2), type := 33, pos := "disk.go:64", after := #[], guard := none }) (v := ?_) rfl (by kernel_rfl) (by kernel_rfl) (by kernel_rfl) (fun _ _ _ h => h) (Or.inl ⟨by rfl, ?_⟩) hHeld ?_
        rotate_left
        · intro w' hSw
          (try dsimp only at hSw)
          go_simp
          all_goals with_reducible rfl
        try simp only [Act.put, List.setIfInBounds_toArray, List.set_cons_zero, List.set_cons_succ]
        refine wpAnyH_take (i := 1) (oi := { dst := some 32, op := Op.call { callee := Callee.builtin Builtin.len, args := #[Operand.tmp 31], argTypes := #[33] }, type := 3, pos := "disk.go:64", after := #[{ on := 0, ground := Ground.data }], guard := none }) (v := ?_) rfl (by kernel_rfl) (by kernel_rfl) (by kernel_rfl) (fun _ _ _ h => h) (Or.inl ⟨by rfl, ?_⟩) hHeld ?_
        rotate_left
        · intro w' hSw
          (try dsimp only at hSw)
          go_simp
          all_goals with_reducible rfl
        try simp only [Act.put, List.setIfInBounds_toArray, List.set_cons_zero, List.set_cons_succ]
        refine wpAnyH_take (i := 2) (oi := { dst := some 33, op := Op.move (Operand.tmp 0), type := 25, pos := "disk.go:64", after := #[], guard := none }) (v := ?_) rfl (by kernel_rfl) (by kernel_rfl) (by kernel_rfl) (fun _ _ _ h => h) (Or.inl ⟨by rfl, ?_⟩) hHeld ?_
        rotate_left
        · intro w' hSw
          (try dsimp only at hSw)
          go_simp
          all_goals with_reducible rfl
        try simp only [Act.put, List.setIfInBounds_toArray, List.set_cons_zero, List.set_cons_succ]
        refine wpAnyH_take (i := 3) (oi := { dst := some 34, op := Op.nilCheck (Operand.tmp 33), type := 0, pos := "disk.go:64", after := #[{ on := 2, ground := Ground.data }], guard := none }) (v := ?_) rfl (by kernel_rfl) (by kernel_rfl) (by kernel_rfl) (fun _ _ _ h => h) (Or.inl ⟨by rfl, ?_⟩) hHeld ?_
        rotate_left
        · intro w' hSw
          (try dsimp only at hSw)
          go_simp
          all_goals with_reducible rfl
        try simp only [Act.put, List.setIfInBounds_toArray, List.set_cons_zero, List.set_cons_succ]
        refine wpAnyH_take (i := 4) (oi := { dst := some 35, op := Op.fieldAddr 56 (Operand.tmp 34) 0, type := 0, pos := "disk.go:64", after := #[{ on := 3, ground := Ground.data }], guard := none }) (v := ?_) rfl (by kernel_rfl) (by kernel_rfl) (by kernel_rfl) (fun _ _ _ h => h) (Or.inl ⟨by rfl, ?_⟩) hHeld ?_
        rotate_left
        · intro w' hSw
          (try dsimp only at hSw)
          go_simp
          all_goals with_reducible rfl
        try simp only [Act.put, List.setIfInBounds_toArray, List.set_cons_zero, List.set_cons_succ]
        refine wpAnyH_take (i := 5) (oi := { dst := some 36, op := Op.load 3 (Operand.tmp 35), type := 3, pos := "disk.go:64", after := #[{ on := 4, ground := Ground.data }], guard := none }) (v := ?_) rfl (by kernel_rfl) (by kernel_rfl) (by kernel_rfl) (fun _ _ _ h => h) (Or.inl ⟨by rfl, ?_⟩) hHeld ?_
        rotate_left
        · intro w' hSw
          (try dsimp only at hSw)
          go_simp
          all_goals with_reducible rfl
        try simp only [Act.put, List.setIfInBounds_toArray, List.set_cons_zero, List.set_cons_succ]
        refine wpAnyH_take (i := 6) (oi := { dst := some 37, op := Op.move (Operand.tmp 0), type := 25, pos := "disk.go:64", after := #[], guard := none }) (v := ?_) rfl (by kernel_rfl) (by kernel_rfl) (by kernel_rfl) (fun _ _ _ h => h) (Or.inl ⟨by rfl, ?_⟩) hHeld ?_
        rotate_left
        · intro w' hSw
          (try dsimp only at hSw)
          go_simp
          all_goals with_reducible rfl
        try simp only [Act.put, List.setIfInBounds_toArray, List.set_cons_zero, List.set_cons_succ]
        refine wpAnyH_ready (rs := [7]) (by kernel_rfl) (by simp) ?_
        refine AllReadyH.cons (o := { dst := some 38, op := Op.call { callee := Callee.value (Operand.func 21), args := #[Operand.tmp 37], argTypes := #[25] }, type := 3, pos := "disk.go:64", after := #[{ on := 6, ground := Ground.data }], guard := none }) rfl (fun K hK => ?_) AllReadyH.nil
        go_simp
        go_at_call 21; (refine HK21.out.mono ?_); rintro e w3 ⟨rfl, hB3⟩; have y0 := (hB3.cell (p := ⟨bd, 0, none⟩) HBD.out).trans HY0.out; have y1 := (hB3.cell (p := ⟨bd, 1, none⟩) HBD.out).trans HY1.out; have hmp := (hB3.block _ HBM.out).trans HMP.out; have hB3' : Below w2.heap.size w2 w3 := (Below.refl _ w2).drew.trans hB3; have HB3 := Lib.hid hB3'; clear hB3 hB3'
        go_wp2_with fail
        refine hK.out _ _ ?_ (fun hHeld2 => ?_)
        · (try dsimp only)
          first
            | go_keep
            | (rw [World.cell?_setCell_other]; (· assumption); (· simp))
        clear hK K hHeld
        have hHeld := hHeld2
        clear hHeld2
        try simp only [Act.put, List.setIfInBounds_toArray, List.set_cons_zero, List.set_cons_succ]
        refine wpAnyH_take (i := 8) (oi := { dst := some 39, op := Op.binOp BinOp.sub 3 (Operand.tmp 36) (Operand.tmp 38) 3, type := 3, pos := "disk.go:64", after := #[{ on := 5, ground := Ground.data }, { on := 7, ground := Ground.data }], guard := none }) (v := ?_) rfl (by kernel_rfl) (by kernel_rfl) (by kernel_rfl) (fun _ _ _ h => h) (Or.inl ⟨by rfl, ?_⟩) hHeld ?_
        rotate_left
        · intro w' hSw
          (try dsimp only at hSw)
          go_simp
          all_goals with_reducible rfl
        try simp only [Act.put, List.setIfInBounds_toArray, List.set_cons_zero, List.set_cons_succ]
        refine wpAnyH_take (i := 9) (oi := { dst := some 40, op := Op.binOp BinOp.gtr 3 (Operand.tmp 32) (Operand.tmp 39) 3, type := 4, pos := "disk.go:64", after := #[{ on := 1, ground := Ground.data }, { on := 8, ground := Ground.data }], guard := none }) (v := ?_) rfl (by kernel_rfl) (by kernel_rfl) (by kernel_rfl) (fun _ _ _ h => h) (Or.inl ⟨by rfl, ?_⟩) hHeld ?_
        rotate_left
        · intro w' hSw
          (try dsimp only at hSw)
          go_simp
          all_goals with_reducible rfl
        try simp only [Act.put, List.setIfInBounds_toArray, List.set_cons_zero, List.set_cons_succ]
        refine wpAnyH_take (i := 10) (oi := { dst := some 30, op := Op.assign (Operand.tmp 40), type := 4, pos := "disk.go:64", after := #[{ on := 9, ground := Ground.data }, { on := 7, ground := Ground.chain }], guard := none }) (v := ?_) rfl (by kernel_rfl) (by kernel_rfl) (by kernel_rfl) (fun _ _ _ h => h) (Or.inl ⟨by rfl, ?_⟩) hHeld ?_
        rotate_left
        · intro w' hSw
          (try dsimp only at hSw)
          go_simp
          all_goals with_reducible rfl
        try simp only [Act.put, List.setIfInBounds_toArray, List.set_cons_zero, List.set_cons_succ]
        refine wpAnyH_done (by kernel_rfl) ?_ _
        have K36 := c36 (G := G2) (S := S.begin) n b pb cb w3 (HD2.out.below HB3.out) ((HBB.out w3 (fun k hk hn => (HB3.out.block k (Nat.lt_of_lt_of_le hk HT.out.size)).trans (HT.out.block k hk hn)) (Nat.le_trans HT.out.size HB3.out.size))) (by rw [HFS.out]; exact HU.out) (by omega)
        unfold ptr at K36
        have HK36 := Lib.hid K36
        clear K36
        go_wp2_with (go_at_call 36; (refine HK36.out.mono ?_); rintro e w4 ⟨rfl, G4, hG4, hd4, ht4⟩; have HG4 := Lib.hid hG4; have HD4 := Lib.hid hd4; have HT4 := Lib.hid ht4; clear hG4 hd4 ht4)
        go_ret
        have hd4 := HD4.out
        rw [fileOf_begin, HFS.out] at hd4
        exact Did.then HG.out HT.out hd4 (fun b h => (HG4.out b h).imp (fun h => h) fun h => Nat.le_trans HB3.out.size h) ((Turn.of HB3.out).trans HT4.out fun _ _ h => h)
    · have ht1 : decide (1 ≤ n.length ∧ n.length ≤ 32) = false := decide_eq_false hnm
      rw [ht1] at K35
      have hnf : ¬ S.fits n b := fun h => hnm (hfit.1 h).1
      rw [if_neg hnf]
      simp only [hnm, hnf, ne_eq, not_true_eq_false, not_false_eq_true, if_true, if_false]
      clear hfit hnf
      go_enter Try.func12, Try.ntmps12
      go_wp2_with (first | (go_at_call 35; (with_reducible refine (K35.out _).mono ?_); rintro e w9 ⟨rfl, rfl⟩) | (go_at_call 34; (refine K34.out.mono ?_); rintro e w2 ⟨rfl, G2, hG, ⟨bm, es, ck, R, hk⟩, ht⟩; obtain ⟨y0, y1, y2, y3, y4, y5, y6, yf⟩ := hk.cells; have hlo : ∃ b1 j, Instr.findNow .string (.string (bs n)) es.toList 0 = some (some (j, ptr b1)) := (by rcases hk.look n with ⟨en, j, _, h1, _, _, _, h5, h6, h7⟩ | ⟨_, _, h7⟩; exact ⟨en.b, j, h1⟩; rw [HFS.out, HLK.out] at h7; cases h7); obtain ⟨b1, j, hf1⟩ := hlo; have hl := look_in0 hk.map hf1; unfold ptr at hl; have hmp := hk.map; have hes : es.size = S.fs.length := (by have h1 := hk.mp.length_eq; have h2 := hk.perm.length_eq; rw [HFS.out] at h2; simp at h1 h2; omega); have K21 := c21 w2 ⟨bm, es, ck, R, hk⟩ (by rw [HFS.out]; exact HU.out); rw [HFS.out] at K21; unfold ptr at K21; have HK21 := Lib.hid K21; have HD2 := Lib.hid (show D G2 bd S.begin w2 from ⟨bm, es, ck, R, hk⟩); have HY0 := Lib.hid y0; have HY1 := Lib.hid y1; have HMP := Lib.hid hmp; have HBD := Lib.hid (Array.getElem?_eq_some_iff.1 hk.hd).1; have HBM := Lib.hid (Array.getElem?_eq_some_iff.1 hk.map).1; have HG := Lib.hid hG; have HT := Lib.hid ht; clear hk hG ht K21 y2 y3 y4 y5 y6 yf) | (go_at_call 11; (refine K11.out.mono ?_); rintro e w1 ⟨rfl, rfl⟩))
      go_ret
      exact Did.then HG.out HT.out HD2.out (fun b h => .inl h) (Turn.refl _ _)
end Go.Proofs.DK
