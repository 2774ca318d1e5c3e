/- Proved: what the document's 'without' comes to. Each theorem says its own conditions. -/
import Derived.Test.YteleocgomdhcfaaKi
set_option linter.unusedVariables false
set_option linter.unusedSimpArgs false
set_option linter.unusedSectionVars false
namespace Go.Proofs.DK
open Go.RowKit
variable [Okb]
theorem heap_one (w : World) (a b : Obj) : ((w.alloc a).alloc b).heap[w.heap.size]? = some a := by
  have h : (w.alloc a).heap[w.heap.size]? = some a := heap_alloc_new w a
  have hB : Below (w.heap.size + 1) (w.alloc a) ((w.alloc a).alloc b) := (Below.refl _ _).alloc (by simp) _
  exact (hB.block w.heap.size (by omega)).trans h
/-- Two blocks: the disk that was handed in, and the one that is handed back. -/
def bx (S : Ds) (v : Value) : Obj := .cells #[.int .i64 S.room, v, .bool S.down, .int .i64 S.falls, .bool S.fused, .int .i64 S.fuse, .int .i64 S.part] 31
def bz : Obj := .cells #[.int .i64 0, .slice none 0 0, .bool false, .int .i64 0, .bool false, .int .i64 0, .int .i64 0] 31
def W2 (S : Ds) (v : Value) (w : World) : World := (w.alloc (bx S v)).alloc bz
theorem W2.below (S : Ds) (v : Value) (w : World) : Below w.heap.size w (W2 S v w) := ((Below.refl _ w).alloc (Nat.le_refl _) _).alloc (by simp) _
theorem W2.size (S : Ds) (v : Value) (w : World) : (W2 S v w).heap.size = w.heap.size + 2 := by simp [W2]
/-- What holds of the two blocks. -/
structure Two (S : Ds) (v : Value) (b : Nat) (W : World) : Prop where
  a : W.heap[b]? = some (bx S v)
  z : W.heap[b + 1]? = some bz
theorem Two.at (S : Ds) (v : Value) (w : World) : Two S v w.heap.size (W2 S v w) := ⟨heap_one _ _ _, heap_two _ _ _⟩
theorem Two.keep {S : Ds} {v : Value} {b : Nat} {W W' : World} (h : Two S v b W) (hB : Below (b + 2) W W') : Two S v b W' := ⟨(hB.block b (by omega)).trans h.a, (hB.block (b + 1) (by omega)).trans h.z⟩
def WoOut (S : Ds) (fs : List Fl) (R : Value → List UInt8 → Prop) (w : World) (e : Ending) (w' : World) : Prop := ∃ p c X, e = .returned (MV S (.slice p X.length c)) ∧ XAt w.heap.size w' (.slice p X.length c) X ∧ (∀ x ∈ X, R x.2 x.1.b) ∧ X.map (·.1) = fs ∧ Below w.heap.size w w'
set_option maxRecDepth 100000 in
set_option maxHeartbeats 4000000 in
theorem c43r (R : Value → List UInt8 → Prop) (hR : ∀ v l, R v l → ∃ p c, v = .slice p l.length c) (S : Ds) (p : Option Addr) (c : Nat) (n : List UInt8) (w : World) (h : FsR R w p S.fs) (hL : S.fs.length ≤ 1000) : Calls Try.prog 43 #[MV S (.slice p S.fs.length c), .string (bs n)] w (WoOut S (woF S.fs n) R w) := by
  obtain ⟨i0, hi0, hz0, hz1, hz2⟩ := info_parts info43
  have HF := Lib.hid h
  clear h
  have HA := Lib.hid (W2.below S (.slice p S.fs.length c) w)
  have HT := Lib.hid (Two.at S (.slice p S.fs.length c) w)
  have hs2 := W2.size S (.slice p S.fs.length c) w
  have hown0 : XAt (w.heap.size + 2) ((W2 S (.slice p S.fs.length c) w).alloc (.cells #[] 43)) (.slice (some ⟨w.heap.size + 2, 0, none⟩) 0 0) [] := by
    have := own_empty (W2 S (.slice p S.fs.length c) w) (w.heap.size + 2) (by omega)
    rw [hs2] at this
    exact this
  have hB0 : Below (w.heap.size + 2) (W2 S (.slice p S.fs.length c) w) ((W2 S (.slice p S.fs.length c) w).alloc (.cells #[] 43)) := (Below.refl _ _).alloc (by omega) _

  obtain ⟨room, fs, down, falls, fused, fuse, part⟩ := S
  unfold MV
  simp only at hL HF ⊢
  generalize hN : fs.length = k0 at *
  have HN := Lib.hid hN
  clear hN
  go_enter Try.func43, Try.ntmps43
  go_wp2
  go_loopw [5, 11] (fun o i wr => ∃ (k : Nat) (X : List (Fl × Value)), i = .int .i64 k ∧ k ≤ k0 ∧ XAt (w.heap.size + 2) wr o X ∧ (∀ x ∈ X, R x.2 x.1.b) ∧ X.map (·.1) = woF (fs.take k) n ∧ Below (w.heap.size + 2) (W2 ⟨room, fs, down, falls, fused, fuse, part⟩ (.slice p k0 c) w) wr) (fun _ i _ => k0 - (intOf i).toNat)
  case atStart => exact ⟨0, [], rfl, Nat.zero_le _, hown0, by simp, by simp [woF], hB0⟩
  case round =>
    obtain ⟨k, X, rfl, hk, hr, hrd, hX, hB⟩ := hrel
    obtain ⟨po, co, rfl⟩ := own_slice hr
    have hT := HT.out.keep hB
    have hsz := hB.size
    rw [hs2] at hsz
    have hB2 : Below w.heap.size w wr := HA.out.trans (hB.mono (by omega))
    have z0 := cellof hT.a 0
    have z1 := cellof hT.a 1
    have z2 := cellof hT.a 2
    have z3 := cellof hT.a 3
    have z4 := cellof hT.a 4
    have z5 := cellof hT.a 5
    have z6 := cellof hT.a 6
    have u0 := cellof hT.z 0
    have u1 := cellof hT.z 1
    have u2 := cellof hT.z 2
    have u3 := cellof hT.z 3
    have u4 := cellof hT.z 4
    have u5 := cellof hT.z 5
    have u6 := cellof hT.z 6
    have fa := fun o => frozenof hT.a o
    have fz := fun o => frozenof hT.z o
    simp only [List.getElem?_toArray, List.getElem?_cons_zero, List.getElem?_cons_succ] at z0 z1 z2 z3 z4 z5 z6 u0 u1 u2 u3 u4 u5 u6
    have hXl : X.length ≤ k := by
      have h1 := congrArg List.length hX
      rw [List.length_map] at h1
      have h2 := wo_len (fs.take k) n
      have h3 : (fs.take k).length ≤ k := by rw [List.length_take]; omega
      omega
    by_cases hlt : k < k0
    · obtain ⟨f, hf⟩ : ∃ f, fs[k]? = some f := ⟨_, List.getElem?_eq_getElem (by rw [HN.out]; exact hlt)⟩
      obtain ⟨b, rfl, hb, y0, ⟨v, y1, hv⟩, y2, _⟩ := HF.out k f hf
      have HV := Lib.hid hv
      obtain ⟨pv, cv, rfl⟩ := hR _ _ hv
      have y0 := (hB2.cell (p := ⟨b, _, none⟩) hb).trans y0
      have y1 := (hB2.cell (p := ⟨b, _, none⟩) hb).trans y1
      have y2 := (hB2.cell (p := ⟨b, _, none⟩) hb).trans y2
      have hws := wo_snoc (fs.take k) f n
      rw [← take_succ hf] at hws
      have HR := Lib.hid hr; have HB := Lib.hid hB; have HWS := Lib.hid hws; have HRD := Lib.hid hrd; have HX := Lib.hid hX
      have hown := HR.out
      unfold XAt at hown
      clear hr hB hws hrd hX hf hT hB2
      generalize hA : X.length = al at *
      by_cases ha : f.n = n
      · have hd : ((bs f.n).toList == (bs n).toList) = true := by rw [ha]; simp
        go_wp2
        all_goals go_roundw
        all_goals first
          | (simp [intOf]; omega)
          | (refine ⟨k + 1, X, by go_num, by omega, HR.out, HRD.out, ?_, HB.out⟩
             rw [HWS.out, if_pos ha, List.append_nil]; exact HX.out)
      · have hd : ((bs f.n).toList == (bs n).toList) = false := by
          rw [bs_toList, bs_toList]
          exact beq_eq_false_iff_ne.2 ha
        go_wp2_with (at_builtin; refine wpList_append_lies _ (by rfl) _ _ 29 (by rfl) (w.heap.size + 2) 43 i0 _ 3 48 Try.underlying29 hi0 hz0 hz1 hz2 rfl (by omega) _ al (xcells X) (by rfl) (World.ownsRow.alloc hown _) ⟨wr.heap.size, 0, none⟩ 1 1 [.string (bs f.n), .slice pv f.b.length cv, .int .i64 f.s] (by rfl) (by rfl) (World.news_of_block (cs := #[.string (bs f.n), .slice pv f.b.length cv, .int .i64 f.s]) (t := 43) (fr := (0, 0)) (heap_alloc_new wr _)) (by simp [Value.oneCell']) (by omega) (by unfold maxLen; omega) (by omega) (by simp; omega) (wr.heap.size + 1) (by simp) ?_; intro gg cap w4 hown4 hgrow hat hlt4; have HO4 := Lib.hid hown4; have HG4 := Lib.hid hgrow; clear hown4 hgrow)
        all_goals go_roundw
        all_goals first
          | (simp [intOf]; omega)
          | (have hr := HR.out
             subst hA
             obtain ⟨r1, r2⟩ := XAt.snoc (m := (f, .slice pv f.b.length cv)) HB.out (by omega) hr HO4.out HG4.out
             refine ⟨k + 1, X ++ [(f, .slice pv f.b.length cv)], by go_num, by omega, r1, ?_, ?_, r2⟩
             · intro x hx
               rcases List.mem_append.1 hx with hx | hx
               · exact HRD.out x hx
               · rw [List.mem_singleton.1 hx]; exact HV.out
             · rw [HWS.out, if_neg ha, List.map_append, HX.out]; rfl)
    · have hkn : k = k0 := by omega
      subst hkn
      have hall : fs.take k = fs := List.take_of_length_le (by rw [HN.out]; exact Nat.le_refl _)
      rw [hall] at hX
      have HR := Lib.hid hr; have HRD := Lib.hid hrd; have HX := Lib.hid hX; have HB := Lib.hid hB2
      clear hr hrd hX hB hB2 hT
      go_wp2
      refine bodyPost_ret (v := .agg #[.int .i64 room, .slice po X.length co, .bool down, .int .i64 falls, .bool fused, .int .i64 fuse, .int .i64 part]) (by simp [results, Try.results43, go_sem, u0, u1, u2, u3, u4, u5, u6]) rfl ⟨po, co, X, rfl, ?_, HRD.out, HX.out, ?_⟩
      · refine own_base (base := w.heap.size + 2) ?_ (by omega)
        repeat refine ownsRow_setCell_below ?_ (by simp) _
        exact HR.out
      · repeat refine Below.setCell ?_ (by simp) _
        exact HB.out
theorem rd_slice (w0 : World) (v : Value) (l : List UInt8) (h : Rd w0 v l) : ∃ p c, v = .slice p l.length c := by
  obtain ⟨p, c, hv, _⟩ := h
  exact ⟨p, c, hv⟩
theorem c43 (S : Ds) (p : Option Addr) (c : Nat) (n : List UInt8) (w0 w : World) (h : FsIn w0 w p S.fs) (hL : S.fs.length ≤ 1000) : Calls Try.prog 43 #[MV S (.slice p S.fs.length c), .string (bs n)] w (WoOut S (woF S.fs n) (Rd w0) w) := c43r (Rd w0) (rd_slice w0) S p c n w h hL
end Go.Proofs.DK
