/- The interpreter of code is sound within a round (printed by genin3.py). Conditions: none but what each theorem names. -/
import Derived.Test.YtmjbkhgkhdkbjaaGreatDoorIn2
import Derived.LoopNIn
namespace Go.Ai
open Go.RowKit
variable {P : Program} {w0 : World} {σ : AW} {ι : Inj} {w : World} {self : Self} {sums : Sums}
/-- Code that defers nothing and ranges over no function. -/
def codeNd : Code → Bool
  | .region _ ops _ => ops.toList.all noDefer
  | .seq x y | .cond _ x y => codeNd x && codeNd y
  | .block _ b | .loop b => codeNd b
  | .skip | .label _ | .exit _ | .ret => true
  | _ => false
theorem region_nd {id : Nat} {ops : Array Oper} {d : Bool} (h : codeNd (.region id ops d) = true) : ∀ (i : Nat) (o : Oper), ops[i]? = some o → noDefer o = true := fun i o ho => by
  simp only [codeNd] at h
  exact List.all_eq_true.1 h o (Array.mem_toList_iff.2 (Array.mem_of_getElem? ho))
/-- The interpreter of code is sound, in a round or not. -/
def SelfSoundIn (P : Program) (w0 : World) (self : Self) : Prop :=
  ∀ (rd : Option Nat) (k : Nat) c, codeOk c = true → codeNd c = true → ∀ fr σ ex fr' σ', self c fr σ = some (ex, fr', σ') → ∀ ι w (a : Act), Rel P w0 σ ι w → LRel ι fr a.tmps.toList → a.defers = [] → Code.wpIn (wideR rd) k P c (Post P w0 σ ι w ex fr' σ') a w
theorem aLoop_soundIn (hin : SelfSoundIn P w0 self) {c : Code} (hck : codeOk c = true) (hnd : codeNd c = true) (rd : Option Nat) (k : Nat) : ∀ (n : Nat) (fr : List Value) (σ : AW) (ex : AEx) (fr' : List Value) (σ' : AW), aLoop self c n fr σ = some (ex, fr', σ') → ex ≠ .normal ∧
    ∀ ι w (a : Act) (Q : Exit → Act → World → Prop), (∀ e a1 w1, Post P w0 σ ι w ex fr' σ' e a1 w1 → Q e a1 w1) → Rel P w0 σ ι w → LRel ι fr a.tmps.toList → a.defers = [] → Code.roundsIn (wideR rd) k P c Q n a w
  | 0, _, _, _, _, _, e => by cases e
  | n + 1, fr, σ, ex, fr', σ', e => by
    simp only [aLoop] at e
    split at e
    · rename_i fr1 σ1 h1
      obtain ⟨hne, ih⟩ := aLoop_soundIn hin hck hnd rd k n fr1 σ1 ex fr' σ' e
      refine ⟨hne, fun ι w a Q hQ h hfr hd => ?_⟩
      rw [roundsIn_succ]
      refine wpIn_mono (hin rd k c hck hnd fr σ _ _ _ h1 ι w a h hfr hd) fun e1 a1 w1 hp => ?_
      obtain ⟨rfl, hd1, ι1, hs1, hfr1⟩ := hp
      exact ih ι1 w1 a1 Q (fun e2 a2 w2 hp2 => hQ _ _ _ (hp2.trans h hs1)) hs1.rel hfr1 hd1
    · rename_i r hne
      refine ⟨fun hx => hne fr' σ' (by rw [e, hx]), fun ι w a Q hQ h hfr hd => ?_⟩
      rw [roundsIn_succ]
      refine wpIn_mono (hin rd k c hck hnd fr σ _ _ _ e ι w a h hfr hd) fun e1 a1 w1 hp => ?_
      obtain ⟨rfl, hd1, ι1, hs1, hfr1⟩ := hp
      cases ex with
      | normal => exact (hne fr' σ' e).elim
      | exit id => exact hQ _ _ _ ⟨rfl, hd1, ι1, hs1, hfr1⟩
      | ret => exact hQ _ _ _ ⟨rfl, hd1, ι1, hs1, hfr1⟩

theorem stepC_soundIn (hN : ProgOk P) (hM : P.follows .mixedOrders = true) (hsums : SumsSound P w0 sums) (n : Nat) (hself : SelfSound P w0 self) (hin : SelfSoundIn P w0 self) : SelfSoundIn P w0 (stepC P sums n self) := by
  intro rd k c hck hnd fr σ ex fr' σ' e ι w a h hfr hd
  cases c with
  | skip => simp only [stepC] at e; cases e; exact wpIn_skip ⟨rfl, hd, ι, Step.refl h, hfr⟩
  | label l => simp only [stepC] at e; cases e; exact wpIn_label ⟨rfl, hd, ι, Step.refl h, hfr⟩
  | exit id => simp only [stepC] at e; cases e; exact wpIn_exit ⟨rfl, hd, ι, Step.refl h, hfr⟩
  | ret => simp only [stepC] at e; cases e; exact wpIn_ret ⟨rfl, hd, ι, Step.refl h, hfr⟩
  | region id ops draw =>
    cases draw with
    | false =>
      simp only [stepC] at e
      split at e <;> try contradiction
      rename_i fr1 σ1 hs
      cases e
      exact wpIn_region_list (aSeq_soundIn hN hself hsums ops rd k ops.toList (by simpa [codeNd] using hnd) fr σ _ _ hs ι w a _ (fun _ _ _ hp => hp) h hfr hd)
    | true =>
      simp only [stepC] at e
      split at e <;> try contradiction
      rename_i fr1 σ1 hs
      cases e
      exact aDraw_soundIn hN hM hself hsums (by simpa [codeOk] using hck) hs id (region_nd hnd) h hfr hd
  | seq x y =>
    simp only [codeOk, Bool.and_eq_true] at hck
    simp only [codeNd, Bool.and_eq_true] at hnd
    simp only [stepC] at e
    split at e
    · rename_i fr1 σ1 h1
      refine wpIn_seq (wpIn_mono (hin rd k x hck.1 hnd.1 _ _ _ _ _ h1 ι w a h hfr hd) fun e1 a1 w1 hp => ?_)
      obtain ⟨rfl, hd1, ι1, hs1, hfr1⟩ := hp
      exact wpIn_mono (hin rd k y hck.2 hnd.2 _ _ _ _ _ e ι1 w1 a1 hs1.rel hfr1 hd1) fun e2 a2 w2 hp2 => hp2.trans h hs1
    · rename_i r hne
      refine wpIn_seq (wpIn_mono (hin rd k x hck.1 hnd.1 _ _ _ _ _ e ι w a h hfr hd) fun e1 a1 w1 hp => ?_)
      obtain ⟨rfl, hd1, ι1, hs1, hfr1⟩ := hp
      cases ex with
      | normal => exact (hne fr' σ' e).elim
      | exit id => exact ⟨rfl, hd1, ι1, hs1, hfr1⟩
      | ret => exact ⟨rfl, hd1, ι1, hs1, hfr1⟩
  | cond c x y =>
    simp only [codeOk, Bool.and_eq_true] at hck
    simp only [codeNd, Bool.and_eq_true] at hnd
    simp only [stepC] at e
    split at e <;> try contradiction
    · rename_i hok hb
      have hv := ev_rel h hfr hok
      rw [hb] at hv
      have hc : a.eval c = .bool true := by generalize a.eval c = cv at hv; cases hv; rfl
      exact wpIn_cond hc (hin rd k x hck.1 hnd.1 _ _ _ _ _ e ι w a h hfr hd)
    · rename_i hok hb
      have hv := ev_rel h hfr hok
      rw [hb] at hv
      have hc : a.eval c = .bool false := by generalize a.eval c = cv at hv; cases hv; rfl
      exact wpIn_cond hc (hin rd k y hck.2 hnd.2 _ _ _ _ _ e ι w a h hfr hd)
  | block id b =>
    simp only [codeOk] at hck
    simp only [codeNd] at hnd
    simp only [stepC] at e
    split at e
    · rename_i i fr1 σ1 h1
      refine wpIn_block (wpIn_mono (hin rd k b hck hnd _ _ _ _ _ h1 ι w a h hfr hd) fun e1 a1 w1 hp => ?_)
      obtain ⟨rfl, hd1, ι1, hs1, hfr1⟩ := hp
      split at e
      · rename_i hi
        cases e
        simp only [exOf, Exit.inBlock, beq_eq hi, if_true]
        exact ⟨rfl, hd1, ι1, hs1, hfr1⟩
      · rename_i hi
        cases e
        have hne : i ≠ id := fun h => by rw [h, Nat.beq_refl] at hi; cases hi
        simp only [exOf, Exit.inBlock, hne, if_false]
        exact ⟨rfl, hd1, ι1, hs1, hfr1⟩
    · rename_i r hne
      refine wpIn_block (wpIn_mono (hin rd k b hck hnd _ _ _ _ _ e ι w a h hfr hd) fun e1 a1 w1 hp => ?_)
      obtain ⟨rfl, hd1, ι1, hs1, hfr1⟩ := hp
      cases ex with
      | normal => exact ⟨rfl, hd1, ι1, hs1, hfr1⟩
      | exit id => exact (hne id fr' σ' e).elim
      | ret => exact ⟨rfl, hd1, ι1, hs1, hfr1⟩
  | loop b =>
    simp only [codeOk] at hck
    simp only [codeNd] at hnd
    simp only [stepC] at e
    exact wpIn_loop_rounds n ((aLoop_soundIn hin hck hnd rd k n fr σ ex fr' σ' e).2 ι w a _ (fun _ _ _ hp => hp) h hfr hd)
  | scope b => simp [codeNd] at hnd
  | rangeFunc => cases e
  | goto => cases e
  | refuse => cases e

theorem run_soundIn (hN : ProgOk P) (hM : P.follows .mixedOrders = true) (hsums : SumsSound P w0 sums) (n : Nat) : ∀ d, SelfSoundIn P w0 (run P sums n d)
  | 0 => fun rd k c _ _ fr σ ex fr' σ' e => by cases e
  | d + 1 => stepC_soundIn hN hM hsums n (run_sound hN hM hsums n d) (run_soundIn hN hM hsums n d)
end Go.Ai
