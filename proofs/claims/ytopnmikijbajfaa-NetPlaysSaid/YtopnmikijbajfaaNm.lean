/- Proved: the rows of operations that the laws are handed, read. Each theorem says its own conditions. -/
import Derived.Test.YtopnmikijbajfaaNj
import Derived.Test.YtopnmikijbajfaaAd
import Derived.ChangeSame
import Derived.ChangeSlices
set_option linter.unusedVariables false
set_option linter.unusedSimpArgs false
namespace Go.Proofs.NT
open Go.RowKit Go.Ai Go.ChangeShapes Go.WideShapes
def XOk' (x : Opr) : Prop := 0 ≤ x.a ∧ x.a < 4294967296 ∧ 0 ≤ x.b ∧ x.b < 4294967296
theorem wf_u32 {n : Int} (h : (Lit.int .u32 n).wf = true) : 0 ≤ n ∧ n < 4294967296 := by
  have h : IntKind.u32.min ≤ n ∧ n ≤ IntKind.u32.max := by simpa [Lit.wf] using h
  have e1 : IntKind.u32.min = 0 := by decide
  have e2 : IntKind.u32.max = 4294967295 := by decide
  obtain ⟨h1, h2⟩ := h
  rw [e1] at h1; rw [e2] at h2
  exact ⟨h1, by omega⟩
theorem wf_u8 {n : Int} (h : (Lit.int .u8 n).wf = true) : 0 ≤ n ∧ n < 256 := by
  have h : IntKind.u8.min ≤ n ∧ n ≤ IntKind.u8.max := by simpa [Lit.wf] using h
  have e1 : IntKind.u8.min = 0 := by decide
  have e2 : IntKind.u8.max = 255 := by decide
  obtain ⟨h1, h2⟩ := h
  rw [e1] at h1; rw [e2] at h2
  exact ⟨h1, by omega⟩
section
variable {H : Type} {enc : TypeId × Value → H} {W : World}
theorem bytes_of {v : Value} {fuel : Nat} {y : DataW H × List MemPlace} (h : DataW.trod enc Try.prog W 0 (fun _ => true) true fuel 28 [v] = some y) : ∃ s p c, v = .slice p s.length c ∧ BIn W v s ∧ s.length ≤ maxLen := by
  have five : Try.prog.cellsOf 5 = 1 := by kernel_rfl
  rcases Go.ChangeShapes.open_ints Try.underlying28 Try.underlying5 five h with ⟨h, _⟩ | ⟨⟨b, o, sp⟩, l, cap, zs, h, _, hlc, hcm, hzl, _, hcell, hwf⟩
  · obtain rfl : v = .slice none 0 0 := by simpa using h
    exact ⟨[], none, 0, rfl, .inl ⟨none, 0, rfl, rfl⟩, by simp⟩
  · obtain rfl : v = .slice (some ⟨b, o, sp⟩) l cap := by simpa using h
    rcases Nat.eq_zero_or_pos l with rfl | hpos
    · exact ⟨[], _, _, rfl, .inl ⟨_, _, rfl, rfl⟩, by simp⟩
    · have hz : zs.length = cap := by simpa using hzl
      have hsp : sp = none := by
        have h0 := hcell 0 (by omega)
        cases sp with
        | none => rfl
        | some q =>
          simp [World.cell?, Addr.add] at h0
          split at h0 <;> cases h0
      subst hsp
      have hb : b < W.heap.size := by
        have h0 := hcell 0 (by omega)
        rw [Addr.add_lit] at h0
        exact World.block_lt_of_cell? W _ h0
      have hlen : ((zs.take l).map u8).length = l := by rw [List.length_map, List.length_take]; omega
      refine ⟨(zs.take l).map u8, some ⟨b, o, none⟩, cap, by rw [hlen], .inr ⟨b, o, cap, by rw [hlen], fun _ => hb, fun j x hx => ?_⟩, by rw [hlen]; omega⟩
      have hj := (List.getElem?_eq_some_iff.1 hx).1
      rw [B_len, hlen] at hj
      have hjz : j < zs.length := by omega
      have h1 := hcell j hjz
      rw [Addr.add_lit] at h1
      rw [h1]
      simp only [B, List.map_map, List.getElem?_map, List.getElem?_take, if_pos hj, List.getElem?_eq_getElem hjz, Option.map_some, Function.comp_apply, Option.some.injEq] at hx
      have hw := wf_u8 (hwf zs[j] (List.getElem_mem hjz))
      rw [u8_eq hw.1 hw.2] at hx
      rw [← hx]
      simp [List.getD_eq_getElem?_getD, List.getElem?_eq_getElem hjz]
set_option maxRecDepth 10000 in
theorem op_of {b o : Nat} {fuel : Nat} {y : DataW H × List MemPlace} {cs : List Value} (hc : W.cells? 0 ⟨b, o, none⟩ 5 = some cs) (h : DataW.trod enc Try.prog W 0 (fun _ => true) true fuel 32 cs = some y) : ∃ x, OpAt W b o x ∧ XOk' x ∧ x.s.length ≤ maxLen := by
  obtain ⟨_, hl, hat⟩ := World.cells?_some hc
  match cs, hl with
  | [c0, c1, c2, c3, c4], _ =>
    have g0 := hat 0 (by omega); have g1 := hat 1 (by omega); have g2 := hat 2 (by omega); have g3 := hat 3 (by omega); have g4 := hat 4 (by omega)
    rw [Addr.add_lit] at g0 g1 g2 g3 g4
    obtain ⟨xs, n, _, _, _, hlen, hf⟩ := DataW.trod_struct Try.underlying32 h
    have e3 : Try.prog.cellsOf 3 = 1 := by kernel_rfl
    have e26 : Try.prog.cellsOf 26 = 1 := by kernel_rfl
    have e28 : Try.prog.cellsOf 28 = 1 := by kernel_rfl
    have h0 := hf 0; have h1 := hf 1; have h2 := hf 2; have h3 := hf 3; have h4 := hf 4
    simp only [List.getElem?_toArray, List.getElem?_cons_succ, List.getElem?_cons_zero, Option.some.injEq, forall_eq'] at h0 h1 h2 h3 h4
    match xs, hlen, h0, h1, h2, h3, h4 with
    | [x0, x1, x2, x3, x4], _, h0, h1, h2, h3, h4 =>
      simp only [e3, e26, e28, List.drop_succ_cons, List.drop_zero, List.take_succ_cons, List.take_zero, List.getElem?_cons_succ, List.getElem?_cons_zero] at h0 h1 h2 h3 h4
      obtain ⟨z0, f0, _⟩ := DataW.trod_int Try.underlying3 h0
      obtain ⟨z1, f1, _, w1⟩ := DataW.trod_int Try.underlying26 h1
      obtain ⟨z2, f2, _, w2⟩ := DataW.trod_int Try.underlying26 h2
      obtain ⟨s, p, c, f3, hb, hs⟩ := bytes_of h3
      obtain ⟨z4, f4, _⟩ := DataW.trod_int Try.underlying3 h4
      simp only [List.cons.injEq, and_true] at f0 f1 f2 f4
      subst f0 f1 f2 f3 f4
      have r1 := wf_u32 w1
      have r2 := wf_u32 w2
      exact ⟨⟨z0, z1, z2, s, z4⟩, ⟨p, c, World.block_lt_of_cell? W _ g0, by simpa using g0, g1, g2, g3, g4, fun _ => hb⟩, ⟨r1.1, r1.2, r2.1, r2.2⟩, hs⟩
/-- The rows of operations. -/
theorem ops_of {b o l c : Nat} {fuel : Nat} {y : DataW H × List MemPlace} (h : DataW.trod enc Try.prog W 0 (fun _ => true) true fuel 22 [.slice (some ⟨b, o, none⟩) l c] = some y) : l ≤ c ∧ c ≤ maxLen ∧ ∃ xs : List Opr, xs.length = l ∧ ∀ (i : Nat) (x : Opr), xs[i]? = some x → OpAt W b (o + i * 5) x ∧ XOk' x ∧ x.s.length ≤ maxLen := by
  have e32 : Try.prog.cellsOf 32 = 5 := by kernel_rfl
  rcases DataW.trod_slice Try.underlying22 h with ⟨h, _⟩ | ⟨a, l', c', elems, rest, n, _, h, _, _, hl', hm, hlen, hel, _, _⟩
  · simp at h
  · have h : Value.slice (some ⟨b, o, none⟩) l c = .slice (some a) l' c' := by simpa using h
    cases h
    refine ⟨hl', hm, ?_⟩
    have each : ∀ i, i < l → ∃ x, OpAt W b (o + i * 5) x ∧ XOk' x ∧ x.s.length ≤ maxLen := fun i hi => by
      have h1 := hel i hi
      rw [e32, Addr.add_lit, List.getElem?_eq_getElem (by omega)] at h1
      obtain ⟨cs, hc, ht⟩ := Option.bind_eq_some_iff.1 h1
      exact op_of hc ht
    refine ⟨(List.range l).map fun i => if hi : i < l then Classical.choose (each i hi) else ⟨0, 0, 0, [], 0⟩, by simp, fun i x hx => ?_⟩
    rw [List.getElem?_map] at hx
    have hi : i < l := by
      rcases Nat.lt_or_ge i l with h | h
      · exact h
      · rw [List.getElem?_eq_none (by simpa using h)] at hx; cases hx
    rw [List.getElem?_range hi] at hx
    simp only [Option.map_some, Option.some.injEq, dif_pos hi] at hx
    rw [← hx]
    exact Classical.choose_spec (each i hi)
end
theorem c8n (w : World) : Calls Try.prog 8 #[.slice none 0 0] w fun e w' => e = .returned (.slice none 0 0) ∧ w' = w := by
  go_enter Try.func8, Try.ntmps8
  go_wp2
  refine wp_loop_rounds 1 ?_
  rw [rounds_succ]
  go_wp2
  go_ret
  exact ⟨rfl, rfl⟩
theorem c3n (W : World) : Calls Try.prog 3 #[.slice none 0 0] W fun e w' => e = .returned (.bool true) ∧ Below W.heap.size W w' := by
  have hmk : ∀ W' : World, (Instr.makeMap 25 none).run Try.prog W' = .ok (.map (some W'.heap.size)) (W'.alloc (.map #[] 0)) := fun W' => rfl
  go_enter Try.func3, Try.ntmps3
  go_wp2_with (first
    | (go_at_call 6; refine (c6 _).mono ?_; rintro e w1 ⟨rfl, rfl⟩)
    | (go_at_call 8; refine (c8n _).mono ?_; rintro e w3 ⟨rfl, rfl⟩))
  refine wp_loop_rounds 1 ?_
  rw [rounds_succ]
  go_wp2_with (go_at_call 13; refine (c13 _).mono ?_; rintro e w9 ⟨rfl, hB9⟩)
  go_ret
  exact ⟨rfl, (((Below.refl _ W).alloc (Nat.le_refl _) _).alloc (by simp) _).trans (hB9.mono (by simp; omega))⟩
end Go.Proofs.NT
