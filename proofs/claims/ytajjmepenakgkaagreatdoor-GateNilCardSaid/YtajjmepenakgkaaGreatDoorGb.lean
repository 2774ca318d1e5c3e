/- Proved: the summary of slices.Sorted at maps without entries is sound; GateNil's summaries. Conditions: none but what each theorem names. -/
import Derived.Test.YtajjmepenakgkaaGreatDoorGa
import Derived.Test.YtajjmepenakgkaaGreatDoorIter
set_option linter.unusedVariables false
set_option linter.unusedSimpArgs false
namespace Go.Proofs.GK
open Go.RowKit Go.Ai
/-- slices.Sorted of the keys of a map without entries. -/
def emptySum (gs : List FuncId) (args : List Value) (σ : AW) : Out :=
  match args with
  | [.func (.func h) f c] => match gs.any (Nat.beq h), f.toList, c.toList with
    | true, [], [.pointer (some ⟨bx, 0, none⟩)] => match σ.get bx with
      | some (.cells [.map (some m)] _ false _) => match mapAt σ m with
        | some [] => ret (.slice none 0 0)
        | _ => none
      | _ => none
    | _, _, _ => none
  | _ => none
theorem emptySum_sound {w0 w : World} {σ : AW} {ι : Inj} {args args' : List Value} {r : Value × Option AW} (e : emptySum [195, 199] args σ = some r) (h : Rel Tryz.prog w0 σ ι w) (ha : LRel ι args args') :
    Calls Tryz.prog 144 args'.toArray w (CPost Tryz.prog w0 σ ι w r) := by
  unfold emptySum at e
  split at e <;> try contradiction
  rename_i hh f c
  split at e <;> try contradiction
  rename_i bx hg hf hc
  split at e <;> try contradiction
  rename_i m t ro hbx
  split at e <;> try contradiction
  rename_i hm
  have e := ret_eq e
  subst e
  -- the arguments
  obtain ⟨v', t', rfl, hv, ht⟩ := ha.cons_inv
  have := ht.nil_inv
  subst this
  obtain ⟨p, hp, _⟩ := h.blk bx _ hbx
  have hd := h.flat hbx hp rfl
  obtain ⟨cc, lo, hi, hcc, hcs, hcr, _, _⟩ := h.cells hbx hp
  have hgm := mapAt_some hm
  obtain ⟨q, hq, es', ck, b1, b2, b3, b4, b5⟩ := h.blk m _ hgm
  have hcell : w.cell? ⟨p.block, 0, none⟩ = some (.map (some q.block)) := by
    obtain ⟨x', hx', hxr⟩ := hcr 0 _ rfl
    rw [hd] at hx'
    rw [cell_of hcc]
    simp only [Nat.add_zero] at hx'
    rw [hx']
    cases hxr with
    | map a p' hp' =>
      have : p' = q := Option.some.inj (hp'.symm.trans hq)
      rw [this]
  have hv' : v' = .func (.func hh) #[] #[.pointer (some ⟨p.block, 0, none⟩)] := by
    cases hv with
    | func _ _ f' _ c' hy hs1 hs2 r1 r2 =>
    have hf' : f' = #[] := by
      apply Array.eq_empty_of_size_eq_zero
      rw [← hs1, ← Array.length_toList, hf]; rfl
    have hc1 : c.size = 1 := by rw [← Array.length_toList, hc]; rfl
    have h0 : c[0]? = some (.pointer (some ⟨bx, 0, none⟩)) := by rw [← Array.getElem?_toList, hc]; rfl
    have hlt : 0 < c'.size := by omega
    have h0' : c'[0]? = some c'[0] := Array.getElem?_eq_getElem hlt
    have hr := r2 0 _ _ h0 h0'
    have hce : c' = #[c'[0]] := by
      apply Array.ext
      · simp; omega
      · intro i h1 h2
        have : i = 0 := by simp at h2; omega
        subst this; simp
    subst hf'
    rw [hce]
    have : c'[0] = .pointer (some ⟨p.block, 0, none⟩) := by
      generalize c'[0] = x at hr
      cases hr with
      | ptr a o p' hp' =>
        have : p' = p := Option.some.inj (hp'.symm.trans hp)
        rw [this, hd]
    rw [this]
  subst hv'
  have hes : es' = #[] := by
    apply Array.eq_empty_of_size_eq_zero
    rw [← b2]; rfl
  subst hes
  have hbl : q.block < w.heap.size := (Array.getElem?_eq_some_iff.1 b1).1
  have hpl : p.block < w.heap.size := (Array.getElem?_eq_some_iff.1 hcc).1
  have fin : ∀ (fn : Func) (cd : Code), Tryz.prog.funcs[hh]? = some fn → fn.body = some cd → (fn.name == "runtime.NumGoroutine") = false → (∀ W, Below w.heap.size w W → Still0 hh #[.pointer (some ⟨p.block, 0, none⟩)] W) → Calls Tryz.prog 144 #[.func (.func hh) #[] #[.pointer (some ⟨p.block, 0, none⟩)]] w (CPost Tryz.prog w0 σ ι w (.slice none 0 0, none)) := fun fn cd h1 h2 h3 h4 => by
    refine (c144 hh fn cd h1 h2 h3 _ w h4).mono fun en w' hp => ?_
    obtain ⟨rfl, hB⟩ := hp
    exact ⟨_, ι, rfl, Step.grow h hB, .snil _ _⟩
  have hg : hh = 195 ∨ hh = 199 := by
    simp only [List.any_cons, List.any_nil, Bool.or_false, Bool.or_eq_true] at hg
    rcases hg with hg | hg
    · exact .inl (beq_eq hg)
    · exact .inr (beq_eq hg)
  rcases hg with rfl | rfl
  · exact fin Tryz.f195 _ Tryz.func195 rfl (by kernel_rfl) fun W hB => still195 p.block q.block ck W (Nat.lt_of_lt_of_le hpl hB.size) (Nat.lt_of_lt_of_le hbl hB.size) ((hB.cell (p := ⟨p.block, 0, none⟩) hpl).trans hcell) ((hB.block _ hbl).trans b1)
  · exact fin Tryz.f199 _ Tryz.func199 rfl (by kernel_rfl) fun W hB => still199 p.block q.block ck W (Nat.lt_of_lt_of_le hpl hB.size) (Nat.lt_of_lt_of_le hbl hB.size) ((hB.cell (p := ⟨p.block, 0, none⟩) hpl).trans hcell) ((hB.block _ hbl).trans b1)
set_option maxRecDepth 100000 in
theorem progOk'' : Go.Ai.progOk Tryz.prog = true := by kernel_rfl
noncomputable def sums : Sums := oneOf [(235, tCall Tryz.prog 100 60 235), (101, sortSum Tryz.prog 159 9), (144, emptySum [195, 199])]
theorem three_sound {P : Program} {w0 : World} {a b c : FuncId} {sa sb sc : List Value → AW → Out} (ha : SumOk P w0 a sa) (hb : SumOk P w0 b sb) (hc : SumOk P w0 c sc) : SumsSound P w0 (oneOf [(a, sa), (b, sb), (c, sc)]) := by
  refine oneOf_sound fun x hx => ?_
  simp only [List.mem_cons, List.not_mem_nil, or_false] at hx
  rcases hx with rfl | rfl | rfl
  · exact ha
  · exact hb
  · exact hc
theorem tSum_ok {P : Program} {w0 : World} (hN : progOk P = true) (n d : Nat) (f : FuncId) : SumOk P w0 f (tCall P n d f) := fun args σ r e ι w args' h ha => tCall_sound (progOk_spec hN) e h ha
theorem sSum_ok {P : Program} {w0 : World} {f g : FuncId} {kT : TypeId} (hS : SortsKeys P f g kT) : SumOk P w0 f (sortSum P g kT) := fun args σ r e ι w args' h ha => sortSum_sound hS e h ha
theorem eSum_ok {w0 : World} : SumOk Tryz.prog w0 144 (emptySum [195, 199]) := fun args σ r e ι w args' h ha => emptySum_sound e h ha
theorem sums_sound (w0 : World) : SumsSound Tryz.prog w0 sums := three_sound (tSum_ok progOk'' 100 60 235) (sSum_ok Tryz.sortsKeys) eSum_ok
end Go.Proofs.GK
