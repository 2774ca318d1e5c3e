/- Proved: 'ScriptActs' answers true for every input, and leaves what it was handed as it was; its tied card. Conditions: the card's own. -/
import Derived.Test.YtojfppkibmmmdaaDoorRows
import Derived.WalkKit
import Derived.ProofKit
import Derived.OpenShut
import Derived.Stop.Joined
import Derived.LaidMore
import Derived.Lay
import Derived.SevenTiedAt
import Derived.Test.YtojfppkibmmmdaaDoorCards
import Derived.Test.YtojfppkibmmmdaaDoorTie
import Derived.Test.YtojfppkibmmmdaaDoorAd
import Derived.Test.YtojfppkibmmmdaaDoorSn
namespace Go.Proofs.YtojfppkibmmmdaaDoor.scriptActs
open Go.ChangeShapes Go.WideShapes Go.ChangeAt Go.RowKit
set_option linter.unusedVariables false
set_option linter.unusedSimpArgs false

theorem progOk' : Go.Ai.progOk Tryd.prog = true := by kernel_rfl
theorem outer (a : Array Value) (h : a.toList.length = 1) : ∃ v0, a = #[v0] := by
  obtain ⟨l⟩ := a
  match l, h with
  | [v0], _ => exact ⟨v0, rfl⟩
theorem own : ownKnob Tryd.prog.godebug = none := by kernel_rfl
theorem laidOut' : laidOutB Tryd.prog = true := by kernel_rfl

noncomputable def kk : List (Nat × List Value) := [(0, [1,1,1,1,3,13,4,4,4,2,5,6,7,9,12,11].map fun n => .int .u8 n)]
theorem tabled_mono {W W' : World} (h : Go.Ai.Tabled Tryd.prog W kk) (hb : Below W.heap.size W W') : Go.Ai.Tabled Tryd.prog W' kk := fun g vs hm => by
  obtain ⟨a, b, c⟩ := h g vs hm
  exact ⟨a, b, fun i v hi => ⟨(c i v hi).1, by rw [hb.cell (p := ⟨g, i, none⟩) (World.block_lt_of_cell? W _ (c i v hi).2)]; exact (c i v hi).2⟩⟩
theorem tab_of {W : World} (h : Go.Ai.Tabled Tryd.prog W kk) : SA.Tab W ∧ 0 < W.heap.size := by
  obtain ⟨a, b, c⟩ := h 0 _ (List.mem_singleton.2 rfl)
  exact ⟨fun i v e => (c i v e).2, World.block_lt_of_cell? W _ (c 0 _ rfl).2⟩
theorem c7 {W : World} (hL : Go.Ai.Tabled Tryd.prog W kk) : Calls Tryd.prog 7 #[] W (SA.Tru W) :=
  Go.Ai.ai_test progOk' (Checked.mixed Tryd.checked) 1000 200 7 [] rfl kk (fun ts => Go.Ai.fast_true (by kernel_rfl)) W hL
theorem c3n {W : World} (hL : Go.Ai.Tabled Tryd.prog W kk) : Calls Tryd.prog 3 #[.slice none 0 0] W (SA.Tru W) :=
  Go.Ai.ai_test progOk' (Checked.mixed Tryd.checked) 1000 200 3 [.slice none 0 0] rfl kk (fun ts => Go.Ai.fast_true (by kernel_rfl)) W hL
theorem wf_u8 {n : Int} (h : (Lit.int .u8 n).wf = true) : 0 ≤ n ∧ n ≤ 255 := by
  have h : IntKind.u8.min ≤ n ∧ n ≤ IntKind.u8.max := by simpa [Lit.wf] using h
  have e1 : IntKind.u8.min = 0 := by decide
  have e2 : IntKind.u8.max = 255 := by decide
  obtain ⟨h1, h2⟩ := h
  exact ⟨by rw [e1] at h1; exact h1, by rw [e2] at h2; exact h2⟩
def bytesOf (zs : List Int) (l : Nat) : List Nat := (List.range l).map fun i => (zs.getD i 0).toNat
theorem bytes_len (zs : List Int) (l : Nat) : (bytesOf zs l).length = l := by simp [bytesOf]
theorem bytes_src {W : World} {b o l cap : Nat} {zs : List Int} (hlc : l ≤ cap) (hz : zs.length = cap) (hcell : ∀ i, i < zs.length → W.cell? ((⟨b, o, none⟩ : Addr).add i) = some (.int .u8 (zs.getD i 0))) (hwf : ∀ z ∈ zs, (Lit.int .u8 z).wf = true) : SA.Src W (.slice (some ⟨b, o, none⟩) (bytesOf zs l).length cap) (bytesOf zs l) ∧ ∀ x ∈ bytesOf zs l, x < 256 := by
  have hb : ∀ i, i < cap → 0 ≤ zs.getD i 0 ∧ zs.getD i 0 ≤ 255 := fun i hi => wf_u8 (hwf _ (by
    rw [List.getD_eq_getElem?_getD, List.getElem?_eq_getElem (by omega)]
    exact List.getElem_mem _))
  refine ⟨⟨b, o, cap, rfl, by rw [bytes_len]; exact hlc, fun hp => ?_, fun j x e => ?_⟩, fun x hx => ?_⟩
  · rw [bytes_len] at hp
    exact World.block_lt_of_cell? W _ (hcell 0 (by omega))
  · have hj : j < l := by have := (List.getElem?_eq_some_iff.1 e).1; rw [bytes_len] at this; exact this
    simp only [bytesOf, List.getElem?_map, List.getElem?_range hj, Option.map_some, Option.some.injEq] at e
    subst e
    rw [← Addr.add_lit, hcell j (by omega), Int.toNat_of_nonneg (hb j (by omega)).1]
  · simp only [bytesOf, List.mem_map, List.mem_range] at hx
    obtain ⟨i, hi, rfl⟩ := hx
    have := hb i (by omega)
    omega
set_option maxRecDepth 100000 in
theorem walk {H : Type} {enc : TypeId × Value → H} {base : Nat} (v0 : Value) {W : World} {ds : List (DataW H)} {p : List MemPlace} (h0 : Value.okWide Tryd.prog W .any base 22 v0) (hA : DataW.TrodAll enc Tryd.prog W 0 (fun _ => true) true #[22].toList #[v0].toList ds p) (hL : Go.Ai.Tabled Tryd.prog W kk) :
    Calls Tryd.prog 3 #[v0] W fun e W' => e = .returned (.bool true) ∧ Below W.heap.size W W' := by
  obtain ⟨d0, rfl, hT⟩ : ∃ d0, ds = [d0] ∧ ∃ p0, DataW.Trod enc Tryd.prog W 0 (fun _ => true) true 22 v0 d0 p0 := by
    match ds, hA with
    | [d0], ⟨p0, q, h1, _, _⟩ => exact ⟨d0, rfl, p0, h1⟩
  obtain ⟨p0, fuel, hf⟩ := hT
  have five : Tryd.prog.cellsOf 5 = 1 := by kernel_rfl
  have hfix : ∀ w', Below W.heap.size W w' → Calls Tryd.prog 7 #[] w' (SA.Tru w') := fun w' hb => c7 (tabled_mono hL hb)
  obtain ⟨hTab, hpos⟩ := tab_of hL
  rcases Go.Ai.cell_slice Tryd.underlying22 (Go.Ai.okWide_cell h0 (fun fs h => by rw [Tryd.underlying22] at h; cases h) (fun m e h => by rw [Tryd.underlying22] at h; cases h)) with rfl | ⟨blk, off, l, cap, rfl, hlc, hcap⟩
  · exact c3n hL
  · rcases open_ints Tryd.underlying22 Tryd.underlying5 five hf with ⟨h, _⟩ | ⟨a, l', cap', zs, h, _, hlc', hcm, hzl, _, hcell, hwf⟩
    · simp [Value.cells] at h
    · have h : Value.slice (some ⟨blk, off, none⟩) l cap = .slice (some a) l' cap' := by simpa [Value.cells] using h
      cases h
      by_cases hl6 : 6000 < l
      · exact SA.law3g _ l cap W hl6 hfix
      · have hz : zs.length = cap := by simpa using hzl
        obtain ⟨hsrc, hby⟩ := bytes_src (l := l) hlc hz hcell hwf
        have hlen := bytes_len zs l
        generalize bytesOf zs l = L at hsrc hby hlen
        subst hlen
        have up : ∀ {v l} {W' : World}, SA.Src W v l → Below W.heap.size W W' → SA.Src W' v l := fun {v l W'} h hB => by
          obtain ⟨b', o', c', e, g1, g2, g3⟩ := h
          subst e
          exact ⟨b', o', c', rfl, g1, fun hp => Nat.lt_of_lt_of_le (g2 hp) hB.size, fun j x e => (hB.cell (p := ⟨b', o' + j, none⟩) (g2 (by have := (List.getElem?_eq_some_iff.1 e).1; omega))).trans (g3 j x e)⟩
        have hAl := SA.actsL_len 1024 L
        refine SA.law3 (SA.actsL 1024 L) blk off L.length cap W (by omega) (SA.acts_byt 1024 _ hby) (SA.acts_pat 1024 L) (by omega) ?_ ?_ hfix
        · exact fun w' hB => SA.c8 SA.P1' (SA.still_PI 13 100) L _ w' (Nat.lt_of_lt_of_le hpos hB.size) (SA.tab_mono hTab hpos hB) hby (by omega) (up hsrc hB) (fun m hm W' => SA.pat_got 100 (.inl rfl) m hm W')
        · exact fun w' hB => SA.c9 SA.P3 (SA.still_PI 15 160) L blk off cap w' hby (by omega) (up hsrc hB) (fun m hm W' => (SA.c15 m hm W').mono fun _ _ h => h)

theorem tabbed {w : World} (h : laidMetH Tryd.prog Rows.scriptActsRow.laid w) : Go.Ai.Tabled Tryd.prog w kk := Go.Ai.tabled_of (by kernel_rfl) (by kernel_rfl) h

set_option maxRecDepth 100000 in
theorem lifted (os : Os) (started : os.Started) (H : Type) (enc : TypeId × Value → H) :
    ReturnsInHanded {} Tryd.checked os 3 .any (fun w args => (Rows.scriptActsSpec.pre enc Tryd.prog Tryd.f3 [] false w args ∧ laidMetH Tryd.prog Rows.scriptActsRow.laid w) ∧ sizedMet enc Tryd.prog Tryd.f3 (OpenSpec.ofChange Rows.scriptActsSpec) false w args) (Rows.scriptActsSpec.post enc Tryd.prog Tryd.f3 false true false false) := by
  refine returnsInHanded_of_change_and (C := Tryd.checked) (X := fun w _ => laidMetH Tryd.prog Rows.scriptActsRow.laid w) (fun _ _ _ hh h => h.of_heap hh) own started (by kernel_rfl) Tryd.func3
    (ChangeSpec.witness_shaped (enc := enc) (C := Tryd.checked) (os := os) (X := fun w _ => laidMetH Tryd.prog Rows.scriptActsRow.laid w) false (World.laidAll Tryd.prog os Rows.scriptActsRow.laid) #[.slice none 0 0] 8 (World.laidAll_os _ _ _) (World.shaped_of_ZipB (by kernel_rfl) (by kernel_rfl)) (by kernel_rfl) (by kernel_rfl) (by kernel_rfl) (by rw [MakeChecks.laidMetH_plain _ _ _ (by kernel_rfl)]; exact laidMet_laidAll _ (by kernel_rfl) (by kernel_rfl))) ?_
  intro W base args ds gs before hval0 hW _ _ hL _
  have hval : ∀ (j : Nat) t v, Tryd.f3.params[j]? = some t → args[j]? = some v → Value.okWide Tryd.prog W .any base t v := hval0
  have hW' : DataW.Whole enc Tryd.prog Tryd.f3.params.toList Rows.scriptActsSpec.vars false W args.toList ds gs before := hW
  clear hval0 hW
  have hsize : args.toList.length = 1 := by
    obtain ⟨p, q, hA0, _⟩ := hW'
    have hA : DataW.TrodAll enc Tryd.prog W 0 (fun _ => true) true Tryd.f3.params.toList args.toList ds p := hA0
    rw [Tryd.params3] at hA
    exact (Go.Ai.trodAll_len hA).1
  obtain ⟨v0, rfl⟩ : ∃ v0, args = #[v0] := outer args hsize
  rw [Tryd.params3] at hval
  obtain ⟨pA, qA, hA0, _⟩ := id hW'
  rw [Tryd.params3] at hA0
  refine (walk v0 (hval 0 22 v0 rfl rfl) hA0 (tabbed hL)).mono fun e W' ⟨he, hw⟩ => ?_
  refine ⟨_, he, Go.Ai.row_true (P := Tryd.prog) (f := Tryd.f3) (s := Rows.scriptActsSpec) (tb := 4) laidOut' (by kernel_rfl) rfl (fun ds h => ?_) (by kernel_rfl) Tryd.underlying4 hW' hw⟩
  rw [Tryd.params3] at h
  match ds, h with
  | [d0], _ => rfl

theorem over : Rows.scriptActsRow.holds Tryd.pinned (OpenSpec.ofChange Rows.scriptActsSpec) :=
  OpenClaim.holds_of_wide 3 Tryd.f3 rfl rfl rfl rfl rfl rfl rfl ⟨rfl, rfl, rfl, rfl, rfl⟩ rfl rfl rfl rfl rfl (by kernel_rfl) Tryd.func3 (by kernel_rfl)
    (of_decide_eq_true (by kernel_rfl)) (by unfold Func.isWrapper; first | (rw [if_pos (by decide +kernel)]; kernel_rfl) | (rw [if_neg (by decide +kernel)]; exact ⟨rfl, rfl⟩))
    (fun os started H enc _ => lifted os started H enc)

/-- ████ THE STATEMENT ████ -/
theorem proved : Rows.ScriptActsCardSaid :=
  Claim7.holds_tied_plain_at .later [] [.data] true (true, "018ce4b2d2721757188613fd15d872e134e218230fc6cf0112f1e1ed7588fe74") false
    over (fun _ h => by cases h) (by kernel_rfl) (fun _ h => by cases h) scriptActs_row_tie rfl ⟨rfl, rfl⟩ (by kernel_rfl) rfl
    (fun f fn hf hfn => by
      obtain rfl : f = 3 := Option.some.inj ((show Tryd.prog.funcNamed "equerry/equerrylaw29.ScriptActs" = some 3 by kernel_rfl).symm.trans hf) |>.symm
      obtain rfl : fn = Tryd.f3 := (Option.some.inj (Tryd.func3.symm.trans hfn)).symm
      exact ⟨by kernel_rfl, fun j t ht => by
        rw [Tryd.params3] at ht
        have hm : t ∈ [22] := by
          have := Array.mem_of_getElem? ht
          simp at this ⊢
          omega
        have hall : ([22].all fun u => !Tryd.prog.wantsStandIn u) = true := by kernel_rfl
        exact (show Tryd.prog.wantsStandIn t = false by simpa using List.all_eq_true.1 hall t hm)⟩)
    (by kernel_rfl)
#print axioms proved
end Go.Proofs.YtojfppkibmmmdaaDoor.scriptActs
