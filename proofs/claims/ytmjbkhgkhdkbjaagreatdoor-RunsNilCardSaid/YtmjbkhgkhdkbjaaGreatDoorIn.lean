/- The interpreter's steps within a round of a range over a function: operations and plain regions, in the form 'wpIn'. Conditions: none but what each theorem names. -/
import Derived.Test.YtmjbkhgkhdkbjaaGreatDoorAd
import Derived.TacticsIn
import Derived.RangeFuncCalls
namespace Go.Ai
open Go.RowKit
variable {P : Program} {w0 : World} {σ : AW} {ι : Inj} {w : World} {self : Self} {sums : Sums}
/-- The widest fence, in a round or not. -/
abbrev wideR (r : Option Nat) : Fence := { Fence.wide with round := r }
def noDefer (o : Oper) : Bool := match o.op with
  | .defer _ => false
  | _ => true
theorem noDefer_ne {o : Oper} (h : noDefer o = true) : ∀ c, o.op ≠ .defer c := fun c e => by unfold noDefer at h; rw [e] at h; cases h
theorem callsIn_wideR {r : Option Nat} {n : Nat} {f : FuncId} {args : Array Value} {R : Ending → World → Prop} (h : Calls P f args w R) : CallsIn (wideR r) n P f args w R :=
  (callsIn_wide (n := n)).2 h
theorem aOper_wpIn (hN : ProgOk P) (hself : SelfSound P w0 self) (hsums : SumsSound P w0 sums) (h : Rel P w0 σ ι w) {o : Oper} {fr : List Value} {a : Act} (hx : XRel ι fr a o) {r : Value × Option AW} (hnd : noDefer o = true) {rd : Option Nat} {n : Nat}
    (e : aOper P sums self o fr σ = some r) {K : Act → World → Prop} {Q : Exit → Act → World → Prop} (hK : ∀ v' w' ι', Step P w0 σ ι w (r.2.getD σ) ι' w' → VRel ι' r.1 v' → K (a.put o.dst v') w') : o.wpIn (wideR rd) n P a w K Q := by
  refine ⟨fun _ _ => trivial, ?_⟩
  rw [Oper.semAt_eq _ _ _ (noDefer_ne hnd)]
  unfold aOper at e
  split at e <;> try contradiction
  have ofN : NVal P w0 σ ι w (execOp a.eval o) r → o.uponIn (wideR rd) n P a K Q ((execOp a.eval o).run P w) := by
    rintro ⟨nx, v', w', ι', hrun, hn, hs, hv⟩
    rw [hrun]
    rcases hn with rfl | ⟨rfl, rfl⟩
    · exact hK v' w' ι' hs hv
    · exact hK undef w' ι' hs hv
  split at e
  · rename_i r' he
    cases e
    exact ofN (aOp_sound h hx he)
  · split at e
    · rename_i r' he
      cases e
      exact ofN (gOp_sound h hx he)
    · split at e <;> try contradiction
      rename_i f args ht
      obtain ⟨l', hrun, hl⟩ := target_spec h hx ht
      obtain ⟨hcall, fn, c, hf, hc⟩ := aCall_sound hN hself hsums h e hl
      rw [hrun, callFunc_enter hN hf hc]
      rw [Oper.uponIn_enter]
      refine ⟨(fun h => by cases h), callsIn_wideR (hcall.mono fun en w' hp => ?_)⟩
      obtain ⟨v', ι', rfl, hs, hv⟩ := hp
      exact hK v' w' ι' hs hv
theorem aSeq_soundIn (hN : ProgOk P) (hself : SelfSound P w0 self) (hsums : SumsSound P w0 sums) (ops : Array Oper) (rd : Option Nat) (n : Nat) : ∀ (l : List Oper) (_ : l.all noDefer = true) (fr : List Value) (σ : AW) (fr' : List Value) (σ' : AW), aSeq P sums self ops l fr σ = some (fr', σ') →
    ∀ ι w (a : Act) (Q : Exit → Act → World → Prop), (∀ ex a1 w1, Post P w0 σ ι w .normal fr' σ' ex a1 w1 → Q ex a1 w1) → Rel P w0 σ ι w → LRel ι fr a.tmps.toList → a.defers = [] → wpListIn (wideR rd) n P ops Q l a w
  | [], _, fr, σ, fr', σ', e, ι, w, a, Q, hQ, h, hfr, hd => by
    simp only [aSeq] at e; cases e
    exact hQ _ _ _ ⟨rfl, hd, ι, Step.refl h, hfr⟩
  | o :: rest, hnd, fr, σ, fr', σ', e, ι, w, a, Q, hQ, h, hfr, hd => by
    simp only [List.all_cons, Bool.and_eq_true] at hnd
    simp only [aSeq] at e
    unfold wpListIn
    rw [yielded_eq hfr ops]
    split at e
    · rename_i hw
      rw [if_pos hw]
      split at e <;> try contradiction
      rename_i v u ho
      refine aOper_wpIn hN hself hsums h (XRel.of h hfr (aOper_ok ho)) hnd.1 ho fun v' w' ι' hs hv => ?_
      exact aSeq_soundIn hN hself hsums ops rd n rest hnd.2 _ _ _ _ e ι' w' (a.put o.dst v') Q (fun ex a1 w1 hp => hQ _ _ _ (hp.trans h hs)) hs.rel (putT_rel (hfr.mono hs.le) o.dst hv) (by rw [put_defers]; exact hd)
    · rename_i hw
      rw [if_neg (by rw [hw]; simp)]
      exact ⟨fun _ _ => trivial, aSeq_soundIn hN hself hsums ops rd n rest hnd.2 _ _ _ _ e ι w (a.put o.dst undef) Q hQ h (putT_rel hfr o.dst (VRel.undef ι)) (by rw [put_defers]; exact hd)⟩
end Go.Ai
