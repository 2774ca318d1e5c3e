/- Proved: the rows of operations and of numbers that the law is handed, read. Each theorem says its own conditions. -/
import Derived.Test.YteleocgomdhcfaaLr
import Derived.Test.YteleocgomdhcfaaAd
import Derived.ChangeSame
import Derived.ChangeSlices
import Derived.SizedLaws
set_option linter.unusedVariables false
set_option linter.unusedSimpArgs false
namespace Go.Proofs.DK
open Go.RowKit Go.Ai Go.ChangeShapes Go.WideShapes
theorem wf_u8 {n : Int} (h : (Lit.int .u8 n).wf = true) : 0 ≤ n ∧ n < 256 := by
  have h : IntKind.u8.min ≤ n ∧ n ≤ IntKind.u8.max := by simpa [Lit.wf] using h
  have e1 : IntKind.u8.min = 0 := by decide
  have e2 : IntKind.u8.max = 255 := by decide
  obtain ⟨h1, h2⟩ := h
  rw [e1] at h1; rw [e2] at h2
  exact ⟨h1, by omega⟩
theorem wf_i64 {n : Int} (h : (Lit.int .i64 n).wf = true) : n ≤ 9223372036854775807 := by
  have h : IntKind.i64.min ≤ n ∧ n ≤ IntKind.i64.max := by simpa [Lit.wf] using h
  have e2 : IntKind.i64.max = 9223372036854775807 := by decide
  rw [e2] at h
  exact h.2
def u8 (z : Int) : UInt8 := UInt8.ofNat z.toNat
theorem u8_eq {z : Int} (h0 : 0 ≤ z) (h1 : z < 256) : ((u8 z).toNat : Int) = z := by
  unfold u8
  rw [UInt8.toNat_ofNat']
  omega
section
variable {H : Type} {enc : TypeId × Value → H} {W : World}
theorem row_addr {b o : Nat} {sp : Option Nat} {u : Value} (h : W.cell? ((⟨b, o, sp⟩ : Addr).add 0) = some u) : sp = none ∧ b < W.heap.size := by
  have h1 : sp = none := by
    cases sp with
    | none => rfl
    | some q =>
      simp [World.cell?, Addr.add] at h
      split at h <;> cases h
  subst h1
  rw [Addr.add_lit] at h
  exact ⟨rfl, World.block_lt_of_cell? W _ h⟩
theorem bytes_of {v : Value} {fuel : Nat} {y : DataW H × List MemPlace} (h : DataW.trod enc Try.prog W 0 (fun _ => true) true fuel 33 [v] = some y) : ∃ s p c, v = .slice p s.length c ∧ RdN W.heap.size W v s ∧ s.length ≤ maxLen := by
  have five : Try.prog.cellsOf 5 = 1 := by kernel_rfl
  rcases Go.ChangeShapes.open_ints Try.underlying33 Try.underlying5 five h with ⟨h, _⟩ | ⟨⟨b, o, sp⟩, l, cap, zs, h, _, hlc, hcm, hzl, _, hcell, hwf⟩
  · obtain rfl : v = .slice none 0 0 := by simpa using h
    exact ⟨[], none, 0, rfl, ⟨none, 0, rfl, Nat.le_refl _, fun j x hx => by simp at hx⟩, by simp⟩
  · obtain rfl : v = .slice (some ⟨b, o, sp⟩) l cap := by simpa using h
    have hz : zs.length = cap := by simpa using hzl
    have hlen : ((zs.take l).map u8).length = l := by rw [List.length_map, List.length_take]; omega
    refine ⟨(zs.take l).map u8, some ⟨b, o, sp⟩, cap, by rw [hlen], ⟨_, _, by rw [hlen], by rw [hlen]; exact hlc, fun j x hx => ?_⟩, by rw [hlen]; omega⟩
    have hj := (List.getElem?_eq_some_iff.1 hx).1
    rw [hlen] at hj
    have hjz : j < zs.length := by omega
    have h1 := hcell j hjz
    obtain ⟨rfl, hb⟩ := row_addr (hcell 0 (by omega))
    rw [Addr.add_lit] at h1
    refine ⟨b, o, rfl, hb, ?_⟩
    rw [h1]
    simp only [List.getElem?_map, List.getElem?_take, if_pos hj, List.getElem?_eq_getElem hjz, Option.map_some, Option.some.injEq] at hx
    have hw := wf_u8 (hwf zs[j] (List.getElem_mem hjz))
    rw [← hx, u8_eq hw.1 hw.2]
    simp [List.getD_eq_getElem?_getD, List.getElem?_eq_getElem hjz]
theorem ints_of {v : Value} {fuel : Nat} {y : DataW H × List MemPlace} (h : DataW.trod enc Try.prog W 0 (fun _ => true) true fuel 23 [v] = some y) : ∃ s p c, v = .slice p s.length c ∧ RdIN W.heap.size W v s ∧ s.length ≤ maxLen := by
  have three : Try.prog.cellsOf 3 = 1 := by kernel_rfl
  rcases Go.ChangeShapes.open_ints Try.underlying23 Try.underlying3 three h with ⟨h, _⟩ | ⟨⟨b, o, sp⟩, l, cap, zs, h, _, hlc, hcm, hzl, _, hcell, hwf⟩
  · obtain rfl : v = .slice none 0 0 := by simpa using h
    exact ⟨[], none, 0, rfl, ⟨none, 0, rfl, fun j x hx => by simp at hx⟩, by simp⟩
  · obtain rfl : v = .slice (some ⟨b, o, sp⟩) l cap := by simpa using h
    have hz : zs.length = cap := by simpa using hzl
    have hlen : (zs.take l).length = l := by rw [List.length_take]; omega
    refine ⟨zs.take l, some ⟨b, o, sp⟩, cap, by rw [hlen], ⟨_, _, by rw [hlen], fun j x hx => ?_⟩, by rw [hlen]; omega⟩
    have hj := (List.getElem?_eq_some_iff.1 hx).1
    rw [hlen] at hj
    have hjz : j < zs.length := by omega
    have h1 := hcell j hjz
    obtain ⟨rfl, hb⟩ := row_addr (hcell 0 (by omega))
    rw [Addr.add_lit] at h1
    refine ⟨b, o, rfl, hb, ?_⟩
    rw [h1]
    rw [List.getElem?_take, if_pos hj, List.getElem?_eq_getElem hjz, Option.some.injEq] at hx
    rw [← hx]
    simp [List.getD_eq_getElem?_getD, List.getElem?_eq_getElem hjz]
/-- An operation that was handed in. -/
def OpIn (W : World) (b o : Nat) (x : Opn) : Prop := ∃ pb cb pk ck, W.cell? ⟨b, o, none⟩ = some (.int .i64 x.kind) ∧ W.cell? ⟨b, o + 1, none⟩ = some (.string (bs x.n)) ∧ W.cell? ⟨b, o + 2, none⟩ = some (.string (bs x.t)) ∧ W.cell? ⟨b, o + 3, none⟩ = some (.slice pb x.b.length cb) ∧ W.cell? ⟨b, o + 4, none⟩ = some (.int .i64 x.N) ∧ W.cell? ⟨b, o + 5, none⟩ = some (.int .i64 x.K) ∧ W.cell? ⟨b, o + 6, none⟩ = some (.slice pk x.keep.length ck) ∧ RdN W.heap.size W (.slice pb x.b.length cb) x.b ∧ RdIN W.heap.size W (.slice pk x.keep.length ck) x.keep
structure OpFit (x : Opn) : Prop where
  n : x.n.length ≤ 1000000000000000
  t : x.t.length ≤ 1000000000000000
  b : x.b.length ≤ maxLen
  keep : x.keep.length ≤ maxLen
  N : x.N ≤ 9223372036854775807
  K : x.K ≤ 9223372036854775807
theorem str_of (s : ByteArray) : bs s.data.toList = s := by cases s; simp [bs]
set_option maxRecDepth 10000 in
theorem op_of {b o : Nat} {fuel : Nat} {y : DataW H × List MemPlace} {cs : List Value} (hc : W.cells? 0 ⟨b, o, none⟩ 7 = some cs) (h : DataW.trod enc Try.prog W 0 (fun _ => true) true fuel 35 cs = some y) (hz : ∀ n ∈ y.1.weights Try.prog 35, n ≤ reachBytes) : ∃ x, OpIn W b o x ∧ OpFit x := by
  obtain ⟨_, hl, hat⟩ := World.cells?_some hc
  match cs, hl with
  | [c0, c1, c2, c3, c4, c5, c6], _ =>
    have g0 := hat 0 (by omega); have g1 := hat 1 (by omega); have g2 := hat 2 (by omega); have g3 := hat 3 (by omega); have g4 := hat 4 (by omega); have g5 := hat 5 (by omega); have g6 := hat 6 (by omega)
    rw [Addr.add_lit] at g0 g1 g2 g3 g4 g5 g6
    obtain ⟨xs, n, _, rfl, _, hlen, hf⟩ := DataW.trod_struct Try.underlying35 h
    have e3 : Try.prog.cellsOf 3 = 1 := by kernel_rfl
    have e9 : Try.prog.cellsOf 9 = 1 := by kernel_rfl
    have e33 : Try.prog.cellsOf 33 = 1 := by kernel_rfl
    have e23 : Try.prog.cellsOf 23 = 1 := by kernel_rfl
    have h0 := hf 0; have h1 := hf 1; have h2 := hf 2; have h3 := hf 3; have h4 := hf 4; have h5 := hf 5; have h6 := hf 6
    simp only [List.getElem?_toArray, List.getElem?_cons_succ, List.getElem?_cons_zero, Option.some.injEq, forall_eq'] at h0 h1 h2 h3 h4 h5 h6
    match xs, hlen, h0, h1, h2, h3, h4, h5, h6 with
    | [x0, x1, x2, x3, x4, x5, x6], _, h0, h1, h2, h3, h4, h5, h6 =>
      simp only [e3, e9, e33, e23, List.drop_succ_cons, List.drop_zero, List.take_succ_cons, List.take_zero, List.getElem?_cons_succ, List.getElem?_cons_zero] at h0 h1 h2 h3 h4 h5 h6
      obtain ⟨z0, f0, _⟩ := DataW.trod_int Try.underlying3 h0
      obtain ⟨s1, f1, v1, _⟩ := DataW.trod_string Try.underlying9 h1
      obtain ⟨s2, f2, v2, _⟩ := DataW.trod_string Try.underlying9 h2
      obtain ⟨b3, p3, q3, f3, hb, hs3⟩ := bytes_of h3
      obtain ⟨z4, f4, _, w4⟩ := DataW.trod_int Try.underlying3 h4
      obtain ⟨z5, f5, _, w5⟩ := DataW.trod_int Try.underlying3 h5
      obtain ⟨k6, p6, q6, f6, hk, hs6⟩ := ints_of h6
      simp only [List.cons.injEq, and_true] at f0 f1 f2 f4 f5
      subst f0 f1 f2 f3 f4 f5 f6
      have hw1 : s1.data.toList.length ≤ reachBytes := hz _ (by simp [DataW.weights, Try.underlying35, DataW.weightsEach, v1])
      have hw2 : s2.data.toList.length ≤ reachBytes := hz _ (by simp [DataW.weights, Try.underlying35, DataW.weightsEach, v2])
      unfold reachBytes at hw1 hw2
      exact ⟨⟨z0, s1.data.toList, s2.data.toList, b3, z4, z5, k6⟩, ⟨p3, q3, p6, q6, by simpa using g0, by rw [str_of]; exact g1, by rw [str_of]; exact g2, g3, g4, g5, g6, hb, hk⟩, ⟨by simp only; omega, by simp only; omega, hs3, hs6, wf_i64 w4, wf_i64 w5⟩⟩
/-- The rows of operations. -/
theorem ops_of {b o l c : Nat} {fuel : Nat} {y : DataW H × List MemPlace} (h : DataW.trod enc Try.prog W 0 (fun _ => true) true fuel 22 [.slice (some ⟨b, o, none⟩) l c] = some y) (hz : ∀ n ∈ y.1.weights Try.prog 22, n ≤ reachBytes) : l ≤ c ∧ c ≤ maxLen ∧ ∃ xs : List Opn, xs.length = l ∧ ∀ (i : Nat) (x : Opn), xs[i]? = some x → OpIn W b (o + i * 7) x ∧ OpFit x := by
  have e35 : Try.prog.cellsOf 35 = 7 := by kernel_rfl
  rcases DataW.trod_slice Try.underlying22 h with ⟨h2, _⟩ | ⟨a, l', c', elems, rest, n, _, h2, rfl, _, hl', hm, hlen, hel, _, _⟩
  · simp at h2
  · have h2 : Value.slice (some ⟨b, o, none⟩) l c = .slice (some a) l' c' := by simpa using h2
    cases h2
    refine ⟨hl', hm, ?_⟩
    have wall : ∀ (es : List (DataW H × List MemPlace)) (i : Nat) (e : DataW H × List MemPlace), es[i]? = some e → ∀ n ∈ e.1.weights Try.prog 35, n ∈ DataW.weightsAll Try.prog 35 (es.map (·.1)) := by
      intro es
      induction es with
      | nil => intro i e he; simp at he
      | cons a r ih =>
        intro i e he n hn
        cases i with
        | zero =>
          simp at he; subst he
          simp only [List.map_cons, DataW.weightsAll, List.mem_append]
          exact .inl hn
        | succ i =>
          simp at he
          simp only [List.map_cons, DataW.weightsAll, List.mem_append]
          exact .inr (ih i e he n hn)
    have each : ∀ i, i < l → ∃ x, OpIn W b (o + i * 7) x ∧ OpFit x := fun i hi => by
      have h1 := hel i hi
      have hi' : i < elems.length := by omega
      rw [e35, Addr.add_lit, List.getElem?_eq_getElem hi'] at h1
      obtain ⟨cs, hc, ht⟩ := Option.bind_eq_some_iff.1 h1
      exact op_of hc ht fun n hn => hz n (by
        have := wall elems i _ (List.getElem?_eq_getElem hi') n hn
        simp only [DataW.weights, Try.underlying22, List.mem_cons, List.mem_append]
        exact .inr (.inl this))
    refine ⟨(List.range l).map fun i => if hi : i < l then Classical.choose (each i hi) else ⟨0, [], [], [], 0, 0, []⟩, by simp, fun i x hx => ?_⟩
    rw [List.getElem?_map] at hx
    have hi : i < l := by
      rcases Nat.lt_or_ge i l with h | h
      · exact h
      · rw [List.getElem?_eq_none (by simpa using h)] at hx; cases hx
    rw [List.getElem?_range hi] at hx
    simp only [Option.map_some, Option.some.injEq, dif_pos hi] at hx
    rw [← hx]
    exact Classical.choose_spec (each i hi)
end
end Go.Proofs.DK
