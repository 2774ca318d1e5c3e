/- Proved: what the program's 'List' comes to. Each theorem says its own conditions. -/
import Derived.Test.YteleocgomdhcfaaLg
import Derived.Test.YteleocgomdhcfaaIter
set_option linter.unusedVariables false
set_option linter.unusedSimpArgs false
namespace Go.Proofs.DK
open Go.RowKit Go.Maps Go.Ai
open Go.Proofs (encStr)
open Go.WideElems (Fit rg rd rd_mk rg_of)
variable {G : Nat → Prop} {bd bm : Nat} {es : Array MapEntry} {ck : Nat} {R : List En} {S : Ds} {w W : World}
def nameOf : Value → List UInt8
  | .string s => s.data.toList
  | _ => []
theorem nameOf_bs (n : List UInt8) : nameOf (.string (bs n)) = n := by simp [nameOf, bs]
theorem enc_bs (n : List UInt8) : encStr n = .string (bs n) := rfl
theorem dk_names (h : Dk G bd bm es ck R S W) (hN : ∀ f ∈ S.fs, f.n.length ≤ 1000000) (hmany : S.fs.length ≤ maxLen) : ∃ nn D0, W.ownsMap Try.prog 9 (fun _ => some (.nil, [])) bm nn D0 ∧ (strKeys (H := Unit) D0).Perm (S.fs.map (·.n)) ∧ Maps.size D0 = S.fs.length := by
  have hk : Try.prog.underlying 9 = some .string := Try.underlying9
  obtain ⟨ks, hks⟩ : ∃ ks, ks = es.toList.map fun x => nameOf x.key := ⟨_, rfl⟩
  have hmem : ∀ x ∈ es.toList, ∃ f ∈ S.fs, x.key = encStr f.n := fun x hx => by
    obtain ⟨e, he, h1, _⟩ := h.keys x hx
    exact ⟨e.f, h.perm.mem_iff.1 (List.mem_map.2 ⟨e, he, rfl⟩), h1⟩
  have hkeys' : es.toList.map (·.key) = ks.map encStr := by
    rw [hks, List.map_map]
    refine List.map_congr_left fun x hx => ?_
    obtain ⟨f, _, hf⟩ := hmem x hx
    simp only [Function.comp]
    rw [hf, enc_bs, nameOf_bs, enc_bs]
  have hperm0 : ks.Perm (S.fs.map (·.n)) := by
    have h1 := h.mp.map fun x : Value × Value => nameOf x.1
    rw [List.map_map, List.map_map] at h1
    have h2 := h.perm.map (·.n)
    rw [List.map_map] at h2
    rw [hks]
    refine List.Perm.trans h1 ?_
    refine List.Perm.trans (List.Perm.of_eq ?_) h2
    refine List.map_congr_left fun e he => ?_
    simp only [Function.comp]
    exact nameOf_bs _
  have hreads : ∀ x ∈ es.toList, ∃ k ∈ ks, x.key = encStr k ∧ rd (H := Unit) Try.prog 9 (fun _ => some (.nil, [])) x = some (.string k, .nil) := by
    intro x hx
    obtain ⟨f, hf, hfe⟩ := hmem x hx
    refine ⟨f.n, hperm0.mem_iff.2 (List.mem_map.2 ⟨f, hf, rfl⟩), hfe, ?_⟩
    have : keyOf Try.prog 9 x.key = some (.string f.n) := by
      rw [hfe]
      have hkl1 := hN f hf
      have hkl2 : (⟨f.n.toArray⟩ : ByteArray).size ≤ maxLen := by
        show f.n.toArray.size ≤ maxLen
        rw [List.size_toArray]; unfold maxLen; omega
      simp only [keyOf, hk, mapKey, encStr, hkl2, if_true]
    unfold rd
    rw [this]
    rfl
  have hlk : ks.length = es.size := by rw [hks, List.length_map, Array.length_toList]
  have hF : Fit (H := Unit) Try.prog 9 (fun _ => some (.nil, [])) es ck := by
    refine ⟨?_, h.st, fun x hx => ?_⟩
    · rw [← hlk, hperm0.length_eq, List.length_map]; exact hmany
    · obtain ⟨k, _, _, hr⟩ := hreads x hx
      exact ⟨_, hr⟩
  have hrg : (es.toList.map (rg (H := Unit) Try.prog 9 (fun _ => some (.nil, [])))).map (fun p => strOf p.1) = ks := by
    apply encs_inj
    rw [← hkeys', List.map_map, List.map_map]
    apply List.map_congr_left
    intro x hx
    obtain ⟨k, _, hke, hr⟩ := hreads x hx
    simp only [Function.comp_apply, rg_of hr, strOf, hke]
  have hperm : (strKeys (.map ((es.toList.map (rg (H := Unit) Try.prog 9 (fun _ => some (.nil, [])))).foldr DataW.insert []))).Perm ks := by
    show (((es.toList.map (rg (H := Unit) Try.prog 9 (fun _ => some (.nil, [])))).foldr DataW.insert []).map fun p => strOf p.1).Perm ks
    have := (Go.WideShapes.sorted_perm (es.toList.map (rg (H := Unit) Try.prog 9 (fun _ => some (.nil, []))))).map (fun p => strOf p.1)
    rw [hrg] at this
    exact this
  have hsize : Maps.size (.map ((es.toList.map (rg (H := Unit) Try.prog 9 (fun _ => some (.nil, [])))).foldr DataW.insert [])) = S.fs.length := by
    have h1 := (hperm.trans hperm0).length_eq
    rw [List.length_map] at h1
    rw [← h1]
    simp [strKeys, size_eq]
  exact ⟨es.size, _, ⟨es, ck, h.map, hF, Nat.le_refl _, rfl⟩, hperm.trans hperm0, hsize⟩
theorem names_sorted {ss : List (List UInt8)} (hs : Srt S.fs) (hp : ss.Perm (S.fs.map (·.n))) : ss.mergeSort leB = S.fs.map (·.n) := by
  rw [mergeSort_of_perm hp]
  refine List.mergeSort_of_pairwise (List.pairwise_map.2 (hs.imp fun {a b} h => ?_))
  exact decide_eq_true fun hba => List.lt_irrefl _ (List.lt_trans h hba)
theorem c33 (bm : Nat) (w : World) : Calls Try.prog 33 #[.map (some bm)] w fun e w' => e = .returned (.func (.func 46) #[] #[.pointer (some ⟨w.heap.size, 0, none⟩)]) ∧ w.alloc (.cells #[.map (some bm)] 54) = w' := by
  go_enter Try.func33, Try.ntmps33
  go_wp2
  go_ret
  exact ⟨rfl, rfl⟩
/-- The row of names. -/
def ListOut (S : Ds) (w : World) (e : Ending) (w' : World) : Prop := ∃ p c, e = .returned (.slice p S.fs.length c) ∧ w'.ownsRow w.heap.size 9 1 (.slice p S.fs.length c) S.fs.length (S.fs.map fun f => .string (bs f.n)) ∧ Below w.heap.size w w'
theorem c9 (w : World) (h : D G bd S w) (hN : ∀ f ∈ S.fs, f.n.length ≤ 1000000) (hmany : S.fs.length ≤ 1000) : Calls Try.prog 9 #[ptr bd] w (ListOut S w) := by
  obtain ⟨bm, es, ck, R, h⟩ := h
  obtain ⟨y0, y1, y2, y3, y4, y5, y6, yf⟩ := h.cells
  have hB : Below w.heap.size w (w.alloc (.cells #[.map (some bm)] 54)) := (Below.refl _ w).alloc (Nat.le_refl _) _
  have h1 := h.keep (W' := w.alloc (.cells #[.map (some bm)] 54)) fun b hb _ => hB.block b hb
  obtain ⟨nn, D0, hown, hpm, hsz⟩ := dk_names h1 hN (by unfold maxLen; omega)
  have K32 := Lib.hid (Try.sortsKeys (w.alloc (.cells #[.map (some bm)] 54)) w.heap.size bm nn D0 (by simp) (cellof (heap_alloc_new w _) 0) hown (by rw [hsz]; unfold maxLen; omega) (by rw [hsz]; omega))
  have HP := Lib.hid hpm; have HS := Lib.hid h.srt; have HB := Lib.hid hB
  unfold ptr
  clear h h1 hown hpm hsz hN
  go_enter Try.func9, Try.ntmps9
  go_wp2_with (first
    | (go_at_call 32; (refine K32.out.mono ?_); rintro e w3 ⟨v, ss, rfl, hss, hrow, _, hb3⟩; have HSS := Lib.hid hss; have HROW := Lib.hid hrow; have HB3 := Lib.hid hb3; clear hss hrow hb3)
    | (go_at_call 33; (refine (c33 bm w).mono ?_); rintro e w2 ⟨rfl, rfl⟩))
  go_ret
  have hp := HSS.out.trans HP.out
  have hrow := HROW.out
  have hlen : ss.length = S.fs.length := by have := hp.length_eq; rwa [List.length_map] at this
  rw [names_sorted HS.out hp, List.map_map, hlen] at hrow
  obtain ⟨p, c, rfl⟩ := own_slice hrow
  refine ⟨p, c, rfl, own_base hrow (by simp), HB.out.trans (HB3.out.mono (by simp))⟩
end Go.Proofs.DK
