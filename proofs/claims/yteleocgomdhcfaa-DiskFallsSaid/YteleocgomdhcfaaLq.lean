/- Proved: what an operation (append) comes to on both disks. Each theorem says its own conditions. -/
import Derived.Test.YteleocgomdhcfaaLp
set_option linter.unusedVariables false
set_option linter.unusedSimpArgs false
set_option linter.unusedSectionVars false
namespace Go.Proofs.DK
open Go.RowKit
theorem c23 [Okb] (S : Ds) (p : Option Addr) (c : Nat) (n b : List UInt8) (pb : Option Addr) (cb : Nat) (w : World) (hF : Fine S) (h : FsAt w p S.fs) (hbb : Rd w (.slice pb b.length cb) b) (hR : 0 ≤ S.room ∧ S.room ≤ 2000000) (hU : used S.fs ≤ 1000000) (hbl : b.length ≤ 500000) (hnl : n.length ≤ 1000000) (hp : 0 ≤ S.part ∧ S.part ≤ 9223372036854775807) (hokn : Okb.n0 ≤ w.heap.size) : Calls Try.prog 23 #[MV S (.slice p S.fs.length c), .string (bs n), .slice pb b.length cb] w (DOut (S.appendE n b) (S.append n b) w) := by
  rcases S.how_lt with hh | hh | hh
  · exact c23_0 S p c n b pb cb w hF h hbb hR hU hbl hnl hp hokn hh
  · exact c23_1 S p c n b pb cb w hF h hbb hR hU hbl hnl hp hokn hh
  · exact c23_2 S p c n b pb cb w hF h hbb hR hU hbl hnl hp hokn hh
theorem oper_app {o : Oper} {a : Act} {W W' : World} {next : Act → World → Prop} {Q : Exit → Act → World → Prop} {s x : Operand} {v u r : Value} (ho : o.op = .call { callee := .builtin .append, args := #[s, x], argTypes := #[33, 33] }) (hty : o.type = 33) (hs : a.eval s = v) (hx : a.eval x = u)
    (hrun : (Builtin.append_ #[33, 33] 33 #[v, u]).run Try.prog W = .ok r W') (h : next (a.put o.dst r) W') : Oper.wp Try.prog o a W next Q := by
  unfold Oper.wp execOp
  simp only [ho, hty, resolve, invoke, builtin, Sem.run_bind, Sem.run_pure, Result.andThen_ok, List.map_toArray, List.map_cons, List.map_nil, hs, hx, hrun]
  exact h
set_option maxRecDepth 100000 in
set_option maxHeartbeats 4000000 in
theorem do_0 (N bd m : Nat) (S : Ds) (p : Option Addr) (c : Nat) (o : Opn) (pb pk : Option Addr) (cb ck : Nat) (w : World) (hb : Both N bd S p w) (hN : N ≤ w.heap.size) (hok : Ok m S) (hm : m ≤ 100000) (hl : Lim S) (hR : RdN N w (.slice pb o.b.length cb) o.b) (hbl : o.b.length ≤ 500000) (hnl : o.n.length ≤ 1000000) (hk : o.kind = 0) :
    Calls Try.prog 8 #[ptr bd, MV S (.slice p S.fs.length c), .agg (opc o (.slice pb o.b.length cb) (.slice pk o.keep.length ck))] w (DoOut N bd (S.append o.n o.b) w) := by
  have hF := hok.fine hl hm
  obtain ⟨G, hD, hG, hFs⟩ := hb
  have hWB := WB.below S (.slice p S.fs.length c) o (.slice pb o.b.length cb) (.slice pk o.keep.length ck) w
  have hD1 := hD.below hWB
  have HT := Lib.hid (Tri.at S (.slice p S.fs.length c) o (.slice pb o.b.length cb) (.slice pk o.keep.length ck) w)
  have HS := Lib.hid (WB.size S (.slice p S.fs.length c) o (.slice pb o.b.length cb) (.slice pk o.keep.length ck) w)
  have HWB := Lib.hid hWB; have HG := Lib.hid hG; have HFS := Lib.hid hFs; have HOK := Lib.hid hok; have HF := Lib.hid hF
  obtain ⟨kind, n, t, b, oN, oK, keep⟩ := o
  simp only at hk
  subst hk
  have HR := Lib.hid hR; have HD := Lib.hid hD; have HL := Lib.hid hl; have HBL := Lib.hid hbl; have HNL1 := Lib.hid hnl
  unfold ptr
  clear hD hG hFs hWB hD1 hok hl hF hR hnl
  unfold MV opc
  simp only
  go_enter Try.func8, Try.ntmps8
  obtain ⟨w0, hw0⟩ : ∃ w0, w0 = (WB S (.slice p S.fs.length c) ⟨0, n, t, b, oN, oK, keep⟩ (.slice pb b.length cb) (.slice pk keep.length ck) w).drew := ⟨_, rfl⟩
  have hs0 : w0.heap.size = w.heap.size + 3 := by rw [hw0]; exact HS.out
  have hTr0 : Tri S (.slice p S.fs.length c) ⟨0, n, t, b, oN, oK, keep⟩ (.slice pb b.length cb) (.slice pk keep.length ck) w.heap.size w0 := by
    rw [hw0]
    exact HT.out.keep fun _ _ _ => rfl
  have hB0 : Below w.heap.size w w0 := by
    rw [hw0]
    exact Below.drew HWB.out
  have hE0 := own_empty5 w0 0 (Nat.zero_le _)
  rw [hs0] at hE0
  have hBE : Below w.heap.size w (w0.alloc (.cells #[] 5)) := hB0.alloc (by omega) _
  have hsE : (w0.alloc (.cells #[] 5)).heap.size = w.heap.size + 4 := by rw [World.size_alloc, hs0]
  have hTE := hTr0.keep (W' := w0.alloc (.cells #[] 5)) (fun k h1 h2 => ((Below.refl _ _).alloc (Nat.le_refl _) _).block k (by omega))
  obtain ⟨p1, c1, w1, hrun, hi1, hg1, hr1⟩ := run_app_br (v := .slice (some ⟨w.heap.size + 3, 0, none⟩) 0 0) (s := []) hE0 (HR.out.rdAll hN (hBE.mono hN)) (by rw [List.length_nil]; omega)
  rw [List.length_nil, Nat.zero_add] at hrun hi1 hr1
  rw [List.nil_append] at hi1
  have hs1 := hg1.size
  rw [hsE] at hs1
  have hrow : ∀ g, rb (.slice p1 b.length c1) = some g → w.heap.size + 3 ≤ g := fun g hg => by
    rcases hr1 with h | h
    · rw [h] at hg; have e' : w.heap.size + 3 = g := Option.some.inj hg; omega
    · rw [h, hsE] at hg; have e' : w.heap.size + 4 = g := Option.some.inj hg; omega
  have hB1 : Below w.heap.size w w1 := hBE.grown hg1 (by omega) (fun k e => by have e' : w.heap.size + 3 = k := Option.some.inj e; omega)
  have hTr1 := hTE.keep (W' := w1) (fun k h1 h2 => hg1.block k (by omega) (fun e => by have e' : k = w.heap.size + 3 := Option.some.inj e; omega))
  have hD1 := HD.out.below hB1
  have K12 := c12 n b p1 c1 w1 hD1 HF.out (fun W hk hz => by
    obtain ⟨pq, cq, e, hle, hr⟩ := hi1.rd
    cases e
    refine ⟨p1, c1, rfl, hle, fun j x hx => ?_⟩
    obtain ⟨b', o', hp, hb', hc, _⟩ := hr j x hx
    subst hp
    have hrw := hrow b' (by unfold rb; rcases hi1.2 with ⟨e, _⟩ | ⟨g', cap, cur, e, _⟩; · cases e
                            · cases e; rfl)
    exact ⟨b', o', rfl, by omega, (World.cell?_of_block (a := ⟨b', o' + j, none⟩) (hk b' hb' (fun hg => by have := (HG.out b' hg).2.1; omega))).trans hc, trivial⟩) (by rw [HOK.out.room]; omega) (Nat.le_trans HOK.out.used (by decide)) HBL.out HNL1.out ⟨HOK.out.part, HL.out.part⟩
  have x1 := cellof hTr0.f 1; have x3 := cellof hTr0.f 3
  have x1e := cellof hTE.f 1; have x3e := cellof hTE.f 3
  have x1f := cellof hTr1.f 1; have x3f := cellof hTr1.f 3
  unfold opc at x1 x3 x1e x3e x1f x3f
  simp only [List.getElem?_toArray, List.getElem?_cons_zero, List.getElem?_cons_succ] at x1 x3 x1e x3e x1f x3f
  have HB1 := Lib.hid hB1; have HTR1 := Lib.hid hTr1; have K12 := Lib.hid K12; rw [hw0] at hrun; have HRUN := Lib.hid hrun; have HW0 := Lib.hid hw0
  clear hB1 hTr1 hD1 hi1 hg1 hr1 hrow hTE hE0 hBE hTr0 hB0 hrun hw0
  unfold ptr at K12
  have hl1 : w.heap.size < w1.heap.size := (by omega)
  go_wp2
  refine wp_region_held_drew (S := (fun w' => w'.cell? ⟨w.heap.size + 1, 1, none⟩ = some (.string (bs n)) ∧ w'.cell? ⟨w.heap.size + 1, 3, none⟩ = some (.slice pb b.length cb))) (by kernel_rfl) ?_ (fun hHeld => ?_)
  · (try dsimp only)
    go_keep
  refine wpAnyH_take (i := 0) (oi := { dst := some 65, op := Op.move (Operand.tmp 0), type := 25, pos := "law.go:49", after := #[], guard := none }) (v := ?_) rfl (by kernel_rfl) (by kernel_rfl) (by kernel_rfl) (fun _ _ _ h => h) (Or.inl ⟨by rfl, ?_⟩) hHeld ?_
  rotate_left
  · intro w' hSw
    (try dsimp only at hSw)
    go_simp
    all_goals with_reducible rfl
  try simp only [Act.put, List.setIfInBounds_toArray, List.set_cons_zero, List.set_cons_succ]
  refine wpAnyH_take (i := 1) (oi := { dst := some 66, op := Op.fieldAddr 35 (Operand.tmp 5) 1, type := 0, pos := "law.go:49", after := #[], guard := none }) (v := ?_) rfl (by kernel_rfl) (by kernel_rfl) (by kernel_rfl) (fun _ _ _ h => h) (Or.inl ⟨by rfl, ?_⟩) hHeld ?_
  rotate_left
  · intro w' hSw
    (try dsimp only at hSw)
    go_simp
    all_goals with_reducible rfl
  try simp only [Act.put, List.setIfInBounds_toArray, List.set_cons_zero, List.set_cons_succ]
  refine wpAnyH_take (i := 2) (oi := { dst := some 67, op := Op.load 9 (Operand.tmp 66), type := 9, pos := "law.go:49", after := #[{ on := 1, ground := Ground.data }], guard := none }) (v := ?_) rfl (by kernel_rfl) (by kernel_rfl) (by kernel_rfl) (fun _ _ _ h => h) (Or.inl ⟨by rfl, ?_⟩) hHeld ?_
  rotate_left
  · intro w' hSw
    (try dsimp only at hSw)
    go_simp
    all_goals with_reducible rfl
  try simp only [Act.put, List.setIfInBounds_toArray, List.set_cons_zero, List.set_cons_succ]
  refine wpAnyH_take (i := 4) (oi := { dst := some 69, op := Op.fieldAddr 35 (Operand.tmp 5) 3, type := 0, pos := "law.go:49", after := #[], guard := none }) (v := ?_) rfl (by kernel_rfl) (by kernel_rfl) (by kernel_rfl) (fun _ _ _ h => h) (Or.inl ⟨by rfl, ?_⟩) hHeld ?_
  rotate_left
  · intro w' hSw
    (try dsimp only at hSw)
    go_simp
    all_goals with_reducible rfl
  try simp only [Act.put, List.setIfInBounds_toArray, List.set_cons_zero, List.set_cons_succ]
  refine wpAnyH_take (i := 5) (oi := { dst := some 70, op := Op.load 33 (Operand.tmp 69), type := 33, pos := "law.go:49", after := #[{ on := 4, ground := Ground.data }], guard := none }) (v := ?_) rfl (by kernel_rfl) (by kernel_rfl) (by kernel_rfl) (fun _ _ _ h => h) (Or.inl ⟨by rfl, ?_⟩) hHeld ?_
  rotate_left
  · intro w' hSw
    (try dsimp only at hSw)
    go_simp
    all_goals with_reducible rfl
  try simp only [Act.put, List.setIfInBounds_toArray, List.set_cons_zero, List.set_cons_succ]
  refine wpAnyH_ready (rs := [3]) (by kernel_rfl) (by simp) ?_
  refine AllReadyH.cons (o := { dst := some 68, op := Op.buildSlice 33 0 #[], type := 33, pos := "law.go:49", after := #[], guard := none }) rfl (fun K hK => ?_) AllReadyH.nil
  go_simp
  skip
  go_wp2_with fail
  refine hK.out _ _ ?_ (fun hHeld2 => ?_)
  · (try dsimp only)
    first
      | go_keep
      | (rw [World.cell?_setCell_other]; (· assumption); (· simp))
  clear hK K hHeld
  have hHeld := hHeld2
  clear hHeld2
  try simp only [Act.put, List.setIfInBounds_toArray, List.set_cons_zero, List.set_cons_succ]
  refine wpAnyH_ready (rs := [6]) (by kernel_rfl) (by simp) ?_
  refine AllReadyH.cons (o := { dst := some 71, op := Op.call { callee := Callee.builtin Builtin.append, args := #[Operand.tmp 68, Operand.tmp 70], argTypes := #[33, 33] }, type := 33, pos := "law.go:49", after := #[{ on := 3, ground := Ground.data }, { on := 5, ground := Ground.data }], guard := none }) rfl (fun K hK => ?_) AllReadyH.nil
  skip
  (rw [if_pos (by rfl)]); refine oper_app rfl rfl (by rfl) (by rfl) HRUN.out ?_; clear x1 x3; have x1 := x1f; have x3 := x3f
  skip
  refine hK.out _ _ ?_ (fun hHeld2 => ?_)
  · (try dsimp only)
    first
      | go_keep
      | (rw [World.cell?_setCell_other]; (· assumption); (· simp))
  clear hK K hHeld
  have hHeld := hHeld2
  clear hHeld2
  try simp only [Act.put, List.setIfInBounds_toArray, List.set_cons_zero, List.set_cons_succ]
  refine wpAnyH_ready (rs := [7]) (by kernel_rfl) (by simp) ?_
  refine AllReadyH.cons (o := { dst := some 72, op := Op.call { callee := Callee.value (Operand.func 12), args := #[Operand.tmp 65, Operand.tmp 67, Operand.tmp 71], argTypes := #[25, 9, 33] }, type := 26, pos := "law.go:49", after := #[{ on := 0, ground := Ground.data }, { on := 2, ground := Ground.data }, { on := 6, ground := Ground.data }, { on := 6, ground := Ground.chain }], guard := none }) rfl (fun K hK => ?_) AllReadyH.nil
  go_simp
  go_at_call 12; (refine K12.out.mono ?_); rintro e w2 ⟨rfl, G', hG', hD2, hT2⟩; have hs2 := hT2.size; have hTr2 := HTR1.out.keep (fun c h1 h2 => hT2.block c (by omega) (fun hg => by have := (HG.out c hg).2.1; omega)); clear x1 x3; have x1 := cellof hTr2.f 1; have x3 := cellof hTr2.f 3; unfold opc at x1 x3; simp only [List.getElem?_toArray, List.getElem?_cons_zero, List.getElem?_cons_succ] at x1 x3; have HTR2 := Lib.hid hTr2; have HT2 := Lib.hid hT2; have HD2 := Lib.hid hD2; have HG' := Lib.hid hG'; clear hTr2 hT2 hD2 hG'
  go_wp2_with fail
  refine hK.out _ _ ?_ (fun hHeld2 => ?_)
  · (try dsimp only)
    first
      | go_keep
      | (rw [World.cell?_setCell_other]; (· assumption); (· simp))
  clear hK K hHeld
  have hHeld := hHeld2
  clear hHeld2
  try simp only [Act.put, List.setIfInBounds_toArray, List.set_cons_zero, List.set_cons_succ]
  refine wpAnyH_take (i := 8) (oi := { dst := some 8, op := Op.assign (Operand.tmp 72), type := 26, pos := "law.go:49", after := #[{ on := 7, ground := Ground.data }, { on := 7, ground := Ground.chain }, { on := 0, ground := Ground.phase }, { on := 1, ground := Ground.phase }, { on := 2, ground := Ground.phase }, { on := 3, ground := Ground.phase }, { on := 4, ground := Ground.phase }, { on := 5, ground := Ground.phase }, { on := 6, ground := Ground.phase }, { on := 7, ground := Ground.phase }], guard := none }) (v := ?_) rfl (by kernel_rfl) (by kernel_rfl) (by kernel_rfl) (fun _ _ _ h => h) (Or.inl ⟨by rfl, ?_⟩) hHeld ?_
  rotate_left
  · intro w' hSw
    (try dsimp only at hSw)
    go_simp
    all_goals with_reducible rfl
  try simp only [Act.put, List.setIfInBounds_toArray, List.set_cons_zero, List.set_cons_succ]
  refine wpAnyH_done (by kernel_rfl) ?_ _
  have hT2 := HT2.out; have hG' := HG'.out
  have hTr2 := HTR2.out; have hD2 := HD2.out
  have hF2 : @FsAt (okP (fun b => G' b ∨ (w.heap.size ≤ b ∧ b < w.heap.size + 3)) w2.heap.size) w2 p S.fs := HFS.out.change (by omega) (fun b hb hok _ => by
    have hb2 : w2.heap[b]? = w.heap[b]? := (hT2.block b (by omega) (fun hg => by have := hok hg; omega)).trans (HB1.out.block b hb)
    refine ⟨hb2, fun h => ?_⟩
    rcases h with h | h
    · rcases hG' b h with h | h
      · have := hok h; omega
      · omega
    · omega) (fun b hb ht => (hT2.block b (by omega) (fun hg => (HG.out b hg).2.2 ht.kp)).trans (HB1.out.block b hb))
  have hbb2 : @Rd (okP (fun b => G' b ∨ (w.heap.size ≤ b ∧ b < w.heap.size + 3)) w2.heap.size) w2 (.slice pb b.length cb) b := HR.out.rd hN (hT2.below (HB1.out.mono hN) (fun b hb => (HG.out b hb).1) (by omega)) (fun k hk hf => by
    rcases hf with h | h
    · rcases hG' k h with h | h
      · have := (HG.out k h).1; omega
      · omega
    · omega)
  clear HTR2 HT2 HD2 HG'
  have hlt2 : w.heap.size < w2.heap.size := (by omega)
  have hlt3 : w.heap.size + 1 < w2.heap.size := (by omega)
  have hlt4 : w.heap.size + 2 < w2.heap.size := (by omega)
  have y0 := cellof hTr2.a 0; have y1 := cellof hTr2.a 1; have y2 := cellof hTr2.a 2; have y3 := cellof hTr2.a 3; have y4 := cellof hTr2.a 4; have y5 := cellof hTr2.a 5; have y6 := cellof hTr2.a 6
  have x0 := cellof hTr2.f 0; have x1 := cellof hTr2.f 1; have x2 := cellof hTr2.f 2; have x3 := cellof hTr2.f 3; have x4 := cellof hTr2.f 4; have x5 := cellof hTr2.f 5; have x6 := cellof hTr2.f 6
  have fy := fun o => frozenof hTr2.a o; have fz := fun o => frozenof hTr2.z o
  unfold opc at x0 x1 x2 x3 x4 x5 x6
  simp only [List.getElem?_toArray, List.getElem?_cons_zero, List.getElem?_cons_succ] at y0 y1 y2 y3 y4 y5 y6 x0 x1 x2 x3 x4 x5 x6
  have K24 := Lib.hid (@c23 (okP (fun b => G' b ∨ (w.heap.size ≤ b ∧ b < w.heap.size + 3)) w2.heap.size) S p c n b pb cb w2 HF.out hF2 hbb2 (by rw [HOK.out.room]; omega) (Nat.le_trans HOK.out.used (by decide)) HBL.out HNL1.out ⟨HOK.out.part, HL.out.part⟩ (Nat.le_refl _))
  have HTR2 := Lib.hid hTr2; have HT2 := Lib.hid hT2; have HD2 := Lib.hid hD2; have HG' := Lib.hid hG'
  clear hTr2 hT2 hD2 hG' hF2
  unfold DOut MV at K24
  go_wp2_with (fail)
  go_at_call 23; (refine K24.out.mono ?_); rintro e w3 ⟨p3, c3, rfl, hF3, hB3⟩
  clear K12 K24
  generalize S.append n b = S' at *
  generalize S.appendE n b = E at *
  generalize hnl : S'.fs.length = nl at *
  have HNL := Lib.hid hnl
  clear hnl
  obtain ⟨room', fs', down', falls', fused', fuse', part'⟩ := S'
  have hs3 := hB3.size
  have hTr3 := HTR2.out.keep (fun c h1 h2 => hB3.block c (by omega))
  have y0 := cellof hTr3.a 0; have y1 := cellof hTr3.a 1; have y2 := cellof hTr3.a 2; have y3 := cellof hTr3.a 3; have y4 := cellof hTr3.a 4; have y5 := cellof hTr3.a 5; have y6 := cellof hTr3.a 6
  have fy := fun o => frozenof hTr3.a o; have fz := fun o => frozenof hTr3.z o
  simp only [List.getElem?_toArray, List.getElem?_cons_zero, List.getElem?_cons_succ] at y0 y1 y2 y3 y4 y5 y6
  have HTR3 := Lib.hid hTr3; have HF3 := Lib.hid hF3; have HB3 := Lib.hid hB3
  clear hTr3 hF3 hB3
  iterate 20 first | go_values | go_skip | go_guarded | go_step | go_upon | go_in | go_back | go_simp | skip
  change Code.wp _ _ _ _ (put7 ⟨room', fs', down', falls', fused', fuse', part'⟩ (.slice p3 nl c3) w.heap.size w3)
  have h4 : (put7 ⟨room', fs', down', falls', fused', fuse', part'⟩ (.slice p3 nl c3) w.heap.size w3).heap[w.heap.size]? = some (bx ⟨room', fs', down', falls', fused', fuse', part'⟩ (.slice p3 nl c3)) := put7_at HTR3.out.a
  have hk4 : ∀ k, k ≠ w.heap.size → (put7 ⟨room', fs', down', falls', fused', fuse', part'⟩ (.slice p3 nl c3) w.heap.size w3).heap[k]? = w3.heap[k]? := fun k h => put7_ne h
  have hs4 := put7_size ⟨room', fs', down', falls', fused', fuse', part'⟩ (.slice p3 nl c3) w.heap.size w3
  have hb4 : Below N w3 (put7 ⟨room', fs', down', falls', fused', fuse', part'⟩ (.slice p3 nl c3) w.heap.size w3) := put7_below (Below.refl _ _) hN
  obtain ⟨w4, hw4⟩ : ∃ w4, w4 = put7 ⟨room', fs', down', falls', fused', fuse', part'⟩ (.slice p3 nl c3) w.heap.size w3 := ⟨_, rfl⟩
  rw [← hw4] at h4 hk4 hs4 hb4 ⊢
  clear hw4
  have y0 := cellof h4 0; have y1 := cellof h4 1; have y2 := cellof h4 2; have y3 := cellof h4 3; have y4 := cellof h4 4; have y5 := cellof h4 5; have y6 := cellof h4 6
  have fy := fun o => frozenof h4 o
  have hz4 := (hk4 (w.heap.size + 2) (by omega)).trans HTR3.out.z
  have z0 := cellof hz4 0; have z1 := cellof hz4 1; have z2 := cellof hz4 2; have z3 := cellof hz4 3; have z4 := cellof hz4 4; have z5 := cellof hz4 5; have z6 := cellof hz4 6
  have fz := fun o => frozenof hz4 o
  simp only [List.getElem?_toArray, List.getElem?_cons_zero, List.getElem?_cons_succ] at y0 y1 y2 y3 y4 y5 y6 z0 z1 z2 z3 z4 z5 z6
  have H4 := Lib.hid h4; have HK4 := Lib.hid hk4; have HS4 := Lib.hid hs4; have HB4 := Lib.hid hb4; have HZ4 := Lib.hid hz4
  have hl4 : w.heap.size < w4.heap.size := (by omega)
  have hl5 : w.heap.size + 2 < w4.heap.size := (by omega)
  clear h4 hk4 hs4 hb4 hz4
  go_wp2
  go_region_held (fun w' => w'.cell? ⟨w.heap.size, 0, none⟩ = some (.int .i64 room') ∧ w'.cell? ⟨w.heap.size, 1, none⟩ = some (.slice p3 nl c3) ∧ w'.cell? ⟨w.heap.size, 2, none⟩ = some (.bool down') ∧ w'.cell? ⟨w.heap.size, 3, none⟩ = some (.int .i64 falls') ∧ w'.cell? ⟨w.heap.size, 4, none⟩ = some (.bool fused') ∧ w'.cell? ⟨w.heap.size, 5, none⟩ = some (.int .i64 fuse') ∧ w'.cell? ⟨w.heap.size, 6, none⟩ = some (.int .i64 part')) (refine ⟨?_, ?_, ?_, ?_, ?_, ?_, ?_⟩ <;> (simp only [far7 (show w.heap.size + 1 + 1 ≠ w.heap.size from by omega), drew_cell]; assumption)) (fail)
  go_wp2
  change bodyPost _ _ _ _ _ (put7 ⟨room', fs', down', falls', fused', fuse', part'⟩ (.slice p3 nl c3) (w.heap.size + 2) w4).drew
  have h5 : (put7 ⟨room', fs', down', falls', fused', fuse', part'⟩ (.slice p3 nl c3) (w.heap.size + 2) w4).heap[w.heap.size + 2]? = some (bx ⟨room', fs', down', falls', fused', fuse', part'⟩ (.slice p3 nl c3)) := put7_at (S' := ⟨0, [], false, 0, false, 0, 0⟩) (v' := .slice none 0 0) HZ4.out
  have hk5 : ∀ k, k ≠ w.heap.size + 2 → (put7 ⟨room', fs', down', falls', fused', fuse', part'⟩ (.slice p3 nl c3) (w.heap.size + 2) w4).heap[k]? = w4.heap[k]? := fun k h => put7_ne h
  have hs5 := put7_size ⟨room', fs', down', falls', fused', fuse', part'⟩ (.slice p3 nl c3) (w.heap.size + 2) w4
  have hb5 : Below N w4 (put7 ⟨room', fs', down', falls', fused', fuse', part'⟩ (.slice p3 nl c3) (w.heap.size + 2) w4) := put7_below (Below.refl _ _) (by omega)
  obtain ⟨w5, hw5⟩ : ∃ w5, w5 = put7 ⟨room', fs', down', falls', fused', fuse', part'⟩ (.slice p3 nl c3) (w.heap.size + 2) w4 := ⟨_, rfl⟩
  rw [← hw5] at h5 hk5 hs5 hb5 ⊢
  clear hw5 z0 z1 z2 z3 z4 z5 z6 y0 y1 y2 y3 y4 y5 y6 fy fz
  have h5' : w5.drew.heap[w.heap.size + 2]? = some (bx ⟨room', fs', down', falls', fused', fuse', part'⟩ (.slice p3 nl c3)) := h5
  have z0 := cellof h5' 0; have z1 := cellof h5' 1; have z2 := cellof h5' 2; have z3 := cellof h5' 3; have z4 := cellof h5' 4; have z5 := cellof h5' 5; have z6 := cellof h5' 6
  simp only [List.getElem?_toArray, List.getElem?_cons_zero, List.getElem?_cons_succ] at z0 z1 z2 z3 z4 z5 z6
  refine bodyPost_ret (v := .tuple #[.bool true, .agg #[.int .i64 room', .slice p3 nl c3, .bool down', .int .i64 falls', .bool fused', .int .i64 fuse', .int .i64 part']]) (by simp [results, Try.results8, go_sem, z0, z1, z2, z3, z4, z5, z6]) rfl ⟨true, p3, c3, by rw [HNL.out]; rfl, ?_, ?_, fun k hk hkp => ?_⟩
  · refine fin_both hN (by omega) HD2.out (fun b hb => ?_) HF3.out HB3.out (fun b h1 h2 => ?_) ?_ ⟨_, HTR3.out.a⟩ ⟨_, HTR3.out.z⟩
    · rcases HG'.out b hb with h | h
      · have := HG.out b h
        exact .inl ⟨this.1, this.2.1⟩
      · exact .inr (by omega)
    · exact (hk5 b h2).trans (HK4.out b h1)
    · show w5.heap.size = _
      rw [hs5, HS4.out]
  · refine Below.drew ?_
    have h1 : Below N w w2 := HT2.out.below (HB1.out.mono hN) (fun b hb => (HG.out b hb).1) (by omega)
    exact ((h1.trans (HB3.out.mono (by omega))).trans HB4.out).trans hb5
  · exact (hk5 k (by omega)).trans ((HK4.out k (by omega)).trans ((HB3.out.block k (by omega)).trans ((HT2.out.block k (by omega) (fun hg => (HG.out k hg).2.2 hkp)).trans (HB1.out.block k hk))))
end Go.Proofs.DK
