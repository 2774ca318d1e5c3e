/- The interpreter's steps within a round: regions whose order is open, in the form 'wpIn' (printed by genin.py). Conditions: none but what each theorem names. -/
import Derived.Test.YtmjbkhgkhdkbjaaGreatDoorIn
import Derived.OrdersIn
namespace Go.Ai
open Go.RowKit
variable {P : Program} {w0 : World} {σ : AW} {ι : Inj} {w : World} {self : Self} {sums : Sums} {ops : Array Oper}
section
variable {fr : List Value} {f : Hist}
theorem Plan.oneIn (B : Plan P sums self ops fr σ f) (hN : ProgOk P) (hself : SelfSound P w0 self) (hsums : SumsSound P w0 sums) {ι0 : Inj} {ws : World} {S : Nat → Prop} {a : Act} {b : Nat} {τ : AW} (h0 : Rel P w0 σ ι0 ws) (I : DTmp ops fr σ f S a ι) (M : DMem P w0 ops σ ι0 ws f S w ι b τ)
    {i : Nat} {o : Oper} (ho : ops[i]? = some o) (hnd : noDefer o = true) {rd : Option Nat} {n : Nat} (hi : ¬ S i)
    (hr : ∀ e ∈ o.after.toList, Region.binds .any e = true → S e.on) {Q : Exit → Act → World → Prop} {K : Act → World → Prop}
    (hK : ∀ a' w' ι' b' τ', DTmp ops fr σ f (fun m => S m ∨ m = i) a' ι' → DMem P w0 ops σ ι0 ws f (fun m => S m ∨ m = i) w' ι' b' τ' → K a' w') : wpOpIn (wideR rd) n P ops Q i K a w := by
  have hil : i < ops.size := by
    obtain ⟨h, _⟩ := Array.getElem?_eq_some_iff.1 ho; exact h
  have si := B.si i (by omega)
  have hwant := B.wanted I ho hi hr
  have hfrm := si.frm
  have hσn : σ.next ≤ f.K i := by rw [← B.K0]; exact B.Kle (Nat.zero_le _) (by omega)
  have hV : ∀ v, (f (i + 1)).2.vs = (f i).2.vs ++ [v] → f.V i = v := fun v e => by
    have e2 : ((f i).2.vs ++ [v]).getD (f i).2.vs.length undef = v := getD_append_at
    unfold Hist.V; rw [e]; rw [si.vl] at e2; exact e2
  have b0le := si.b0le
  -- the frame behind a quiet one
  have hKq : (f (i + 1)).2.cur = (f i).2.cur → f.K (i + 1) = f.K i := fun e => by unfold Hist.K; rw [e]
  unfold wpOpIn
  rw [ho]
  simp only
  cases B.kd i o ho with
  | skip hw e =>
    rw [hfrm] at hw
    rw [if_neg (by rw [hwant, hw]; simp)]
    refine ⟨fun _ _ => trivial, ?_⟩
    refine hK _ _ ι b τ (DTmp.next B I ho hi hr (Inj.le.refl ι) ?_) (M.quiet h0 ?_ ?_ (Below.refl _ w))
    · rw [hV undef (by rw [e]; rfl)]; exact VRel.undef _
    · unfold Hist.Bar; rw [e]; simp only [DX.quiet]; omega
    · unfold Hist.Cln; rw [e]; simp only [DX.quiet]; intro h; have := congrArg List.length h; simp at this
  | pure v hw hp he e =>
    rw [hfrm] at hw he
    rw [if_pos (by rw [hwant]; exact hw)]
    have hx := B.xrel h0 M.step.le I ho hi hr (aOper_ok he)
    have hbot : Rel P w0 (⟨.leaf, f.K i, f.K i⟩ : AW) (ι.upto (f.K i)) w := {
      below := M.step.rel.below
      glob := fun g hg => by
        obtain ⟨p, hp, hb, hd⟩ := h0.glob g hg
        have hlt := h0.dom g p hp
        exact ⟨p, by unfold Inj.upto; rw [if_pos (by omega)]; exact M.step.le _ _ hp, hb, hd⟩
      blk := fun j b e => by cases e
      inj := fun j j' b b' p p' e => by cases e
      dom := fun j p e => by
        unfold Inj.upto at e; split at e
        · assumption
        · cases e }
    refine (aOper_wpIn hN hself hsums hbot hx hnd (by rw [pure_any hp _ _ bot]; exact he) fun v' w' ι' hs hv => ?_)
    have hι : ι' = ι.upto (f.K i) := by
      funext j
      by_cases hj : j < f.K i
      · exact hs.same j hj
      · have e1 : (ι.upto (f.K i)) j = none := by unfold Inj.upto; rw [if_neg hj]
        rw [e1]
        cases e2 : ι' j with
        | none => rfl
        | some p => exact absurd (hs.rel.dom j p e2) hj
    rw [hι] at hv
    refine hK _ _ ι b τ (DTmp.next B I ho hi hr (Inj.le.refl ι) ?_) (M.quiet h0 ?_ ?_ (Step.clean hs hbot (Nat.le_refl _)))
    · rw [hV v (by rw [e]; rfl), hKq (by rw [e]; rfl)]; exact hv
    · unfold Hist.Bar; rw [e]; simp only [DX.quiet]; omega
    · unfold Hist.Cln; rw [e]; simp only [DX.quiet]; intro h; have := congrArg List.length h; simp at this
  | read v view hw hview he e =>
    rw [hfrm] at hw he
    rw [if_pos (by rw [hwant]; exact hw)]
    have hRd : f.Rd i := by unfold Hist.Rd; rw [e, si.jj]
    obtain ⟨hn, hmwv, hinf, hlow, hsub, hrel⟩ := B.viewed h0 I M ho hi hr hview (.inr (.inl hRd))
    have hx := B.xrel h0 M.step.le I ho hi hr (aOper_ok he)
    rw [← hn] at hx
    refine (aOper_wpIn hN hself hsums hrel hx hnd he fun v' w' ι' hs hv => ?_)
    have hι : ι' = ι.upto view.next := by
      funext j
      by_cases hj : j < view.next
      · exact hs.same j hj
      · have e1 : (ι.upto view.next) j = none := by unfold Inj.upto; rw [if_neg hj]
        rw [e1]
        cases e2 : ι' j with
        | none => rfl
        | some p => exact absurd (hs.rel.dom j p e2) hj
    rw [hι, hn] at hv
    refine hK _ _ ι b τ (DTmp.next B I ho hi hr (Inj.le.refl ι) ?_) (M.quiet h0 ?_ ?_ (Step.clean hs hrel (by show view.next ≤ view.mw; rw [hn, hmwv]; exact hinf)))
    · rw [hV v (by rw [e]), hKq (by rw [e])]; exact hv
    · unfold Hist.Bar; rw [e]; simp only; omega
    · unfold Hist.Cln; rw [e]; simp only; intro h; have := congrArg List.length h; simp at this
  | still v bb hw hl e =>
    rw [hfrm] at hw hl
    rw [if_pos (by rw [hwant]; exact hw)]
    obtain ⟨t, ax, off, hop, hea, hbn, hwl, hnw, hok, hld⟩ := loadStill_spec hl
    rw [si.n0] at hbn
    have hst := B.stillAt hil hnw hwl hbn (by rw [e]; simp [DX.still])
    have hK0 : f.K 0 ≤ f.K b := B.Kle (Nat.zero_le _) M.bl
    rw [B.K0] at hK0
    have hτ : τ.get bb = (f.C i).get bb := by rw [M.low bb (by omega), hst b M.bl, hst i (by omega)]
    -- a place in the text that stands behind both
    obtain ⟨m, hm1, hm2, hm3⟩ : ∃ m, i ≤ m ∧ b ≤ m ∧ m ≤ ops.size := ⟨max i b, Nat.le_max_left _ _, Nat.le_max_right _ _, Nat.max_le.2 ⟨by omega, M.bl⟩⟩
    have hKim : f.K i ≤ f.K m := B.Kle hm1 hm3
    obtain ⟨one, hone⟩ : ∃ one : AW, one = ⟨Trie.leaf.set bb ((f.C i).get bb), f.K m, f.K m⟩ := ⟨_, rfl⟩
    have hget : ∀ x, one.get x = if x = bb then (f.C i).get bb else none := fun x => by
      rw [hone]
      show (Trie.set _ _ _).get x = _
      rw [Trie.get_set]
      rfl
    have hon : one.next = f.K m := by rw [hone]
    have hom : one.mw = f.K m := by rw [hone]
    have hrel : Rel P w0 one (ι.upto (f.K m)) w := {
      below := M.step.rel.below
      glob := fun g hg => by
        obtain ⟨p, hp, hb, hd⟩ := h0.glob g hg
        have hlt := h0.dom g p hp
        exact ⟨p, by unfold Inj.upto; rw [if_pos (by omega)]; exact M.step.le _ _ hp, hb, hd⟩
      blk := fun x bl ex => by
        rw [hget] at ex
        split at ex
        · rename_i hx
          subst hx
          rw [← hτ] at ex
          obtain ⟨p, hp, r⟩ := M.rb x bl ex m hm2 hm3 (by omega)
          exact ⟨p, by unfold Inj.upto; rw [if_pos (by omega)]; exact hp, r⟩
        · cases ex
      inj := fun x y bx bY px py ex rx ey _ _ _ => by
        rw [hget] at ex ey
        split at ex
        · split at ey
          · rename_i h1 h2; rw [h1, h2]
          · cases ey
        · cases ex
      dom := fun x p ex => by
        rw [hon]
        unfold Inj.upto at ex
        split at ex
        · assumption
        · cases ex }
    have hopok : ∀ x ∈ o.op.operands.toList, evOk P x = true := by
      intro x hx
      rw [hop] at hx
      simp [Op.operands] at hx
      subst hx; exact hok
    have hx0 := B.xrel h0 M.step.le I ho hi hr hopok
    have hx : XRel (ι.upto (f.K m)) (frameAt ops fr f.V i) a o := fun y hy => (hx0 y hy).mono (Inj.upto_mono ι hKim)
    have he : aOper P sums self o (frameAt ops fr f.V i) one = some (v, none) := by
      refine aOper_load hop hok ?_
      rw [hea]
      rw [← hld]
      exact aLoad_at (by rw [hget, if_pos rfl]; rfl)
    refine (aOper_wpIn hN hself hsums hrel hx hnd he fun v' w' ι' hs hv => ?_)
    have hι : ι' = ι.upto (f.K m) := by
      funext j
      by_cases hj : j < f.K m
      · exact hs.same j (by rw [hon]; exact hj)
      · have e1 : (ι.upto (f.K m)) j = none := by unfold Inj.upto; rw [if_neg hj]
        rw [e1]
        cases e2 : ι' j with
        | none => rfl
        | some p => exact absurd (hs.rel.dom j p e2) (by show ¬ j < one.next; rw [hon]; exact hj)
    rw [hι] at hv
    have hld0 : aLoad P σ t (.pointer (some ⟨bb, off, none⟩)) = some (v, none) := by rw [← hld]; exact aLoad_at (hst i (by omega)).symm
    have hcut : ∃ v1, VRel ι0 v v1 := by
      obtain ⟨bl, hbl⟩ := aLoad_known hld0
      obtain ⟨p, hp, _⟩ := h0.blk bb bl hbl
      obtain ⟨y', _, _, _, _, hy⟩ := aLoad_spec h0 hld0 (.ptr bb off p hp)
      exact ⟨y', hy⟩
    obtain ⟨v1, hv1⟩ := hcut
    refine hK _ _ ι b τ (DTmp.next B I ho hi hr (Inj.le.refl ι) ?_) (M.quiet h0 ?_ ?_ (Step.clean hs hrel (by show one.next ≤ one.mw; rw [hon, hom]; exact Nat.le_refl _)))
    · rw [hV _ (by rw [e]; rfl), hKq (by rw [e]; rfl)]
      refine (hv.known hv1 h0.dom).mono fun j p hp => ?_
      unfold Inj.upto at hp ⊢
      split at hp
      · rename_i h1
        split at hp
        · rw [if_pos (by omega)]; exact hp
        · cases hp
      · cases hp
    · unfold Hist.Bar; rw [e]; simp only [DX.still]; omega
    · unfold Hist.Cln; rw [e]; simp only [DX.still]; intro h; have := congrArg List.length h; simp at this
  | clean v view out m hw hview he h1 h2 hm e =>
    rw [hfrm] at hw he
    rw [if_pos (by rw [hwant]; exact hw)]
    have hK1 : f.K (i + 1) = out.next := by unfold Hist.K; rw [e]; rfl
    have hCln : f.Cln i := by unfold Hist.Cln; rw [hK1, e]; simp [DX.made, si.jj, Hist.K]
    have nBar : ¬ f.Bar i := by unfold Hist.Bar; rw [e]; simp only [DX.made]; omega
    obtain ⟨hn, hmwv, hinf, hlow, hsub, hrel⟩ := B.viewed h0 I M ho hi hr hview (.inl hCln)
    have hph := B.phase I M ho hi hr hview (.inl hCln)
    have hbi : b ≤ i := by rw [← hph]; exact b0le
    have hKb : f.K b ≤ f.K i := B.Kle hbi (by omega)
    have h1 : f.K i ≤ out.next := h1
    have h2 : f.K i ≤ out.mw := h2
    have hx := B.xrel h0 M.step.le I ho hi hr (aOper_ok he)
    rw [← hn] at hx
    refine (aOper_wpIn hN hself hsums hrel hx hnd he fun v' w' ι1 hs hv => ?_)
    simp only [Option.getD_some] at hs
    have hcp := copyIv_spec _ _ _ _ _ hm
    have hKe : (f i).2.cur.next = f.K i := rfl
    rw [hKe] at hcp
    have hrange : f.K i + (out.next - f.K i) = out.next := by omega
    rw [hrange] at hcp
    -- other intervals lie elsewhere
    have apart : ∀ j, S j → f.K j ≤ f.K (j + 1) → ∀ x, f.K i ≤ x → x < out.next → f.K j ≤ x → x < f.K (j + 1) → False := by
      intro j hj _ x a1 a2 a3 a4
      have hjl := I.bound j hj
      rcases Nat.lt_trichotomy j i with h | h | h
      · have := B.Kle (show j + 1 ≤ i by omega) (by omega); omega
      · subst h; exact hi hj
      · have := B.Kle (show i + 1 ≤ j by omega) (by omega); omega
    have hfree : ∀ x, view.next ≤ x → x < out.next → ({ τ with mw := (f ops.size).2.mw } : AW).get x = none ∧ ι x = none := by
      intro x a1 a2
      rw [hn] at a1
      exact M.out x (by omega) fun j hj _ _ a3 a4 => apart j hj (B.Kle (Nat.le_succ j) (I.bound j hj)) x a1 a2 a3 a4
    have hKn : out.next ≤ f.K ops.size := by rw [← hK1]; exact B.Kle (by omega) (Nat.le_refl _)
    obtain ⟨τ', hτn, hτg⟩ : ∃ τ' : AW, τ'.next = τ.next ∧ ∀ x, τ'.get x = if view.next ≤ x ∧ x < out.next then out.get x else τ.get x := by
      cases hc : copyIv out.mem (f.K i) (out.next - f.K i) τ.mem with
      | none =>
        exfalso
        have key : ∀ (n : Nat) (m1 m2 m1' : Trie), copyIv out.mem (f.K i) n m1 = some m1' → copyIv out.mem (f.K i) n m2 = none → False := by
          intro n
          induction n with
          | zero => intro m1 m2 m1' _ h; simp [copyIv] at h
          | succ n ih =>
            intro m1 m2 m1' g1 g2
            simp only [copyIv] at g1 g2
            split at g1 <;> try contradiction
            rename_i a ha
            split at g2
            · split at g1
              · rename_i bb hbb
                rw [hbb] at g2
                split at g1 <;> try contradiction
                rename_i hrw
                simp only [hrw] at g2
                cases g2
              · rename_i hbb
                rw [hbb] at g2
                cases g2
            · rename_i hnone
              exact ih m1 m2 a ha hnone
        exact key _ _ _ _ hm hc
      | some mm =>
        refine ⟨⟨mm, τ.next, τ.mw⟩, rfl, fun x => ?_⟩
        have := (copyIv_spec _ _ _ _ _ hc).1 x
        rw [hrange] at this
        rw [hn]
        exact this
    obtain ⟨hst, hle1, hle2⟩ := Step.join (τ' := { τ' with mw := (f ops.size).2.mw }) M.step hrel hs (by rw [hn]; exact hσn) (by rw [hn]; exact h2) (by show out.next ≤ τ.next; rw [M.nx]; exact hKn) hfree
      (fun x bl a1 a2 a3 => hcp.2 x bl (by rw [hn] at a1; exact a1) a2 a3) hτn rfl hτg
    rw [hn] at hst hle1 hle2 hτg
    have hin : ∀ x, f.K i ≤ x → x < out.next → τ'.get x = out.get x := fun x a1 a2 => by rw [hτg, if_pos ⟨a1, a2⟩]
    have hout : ∀ x, ¬ (f.K i ≤ x ∧ x < out.next) → τ'.get x = τ.get x := fun x a => by rw [hτg, if_neg a]
    have hbel : Below w.heap.size w w' := Step.clean hs hrel (by rw [hn]; exact h2)
    have hup : ι1 = (ι.join ι1 (f.K i) out.next).upto out.next := by
      funext x
      unfold Inj.upto Inj.join
      by_cases hx : x < out.next
      · rw [if_pos hx]
        by_cases hx2 : f.K i ≤ x
        · rw [if_pos ⟨hx2, hx⟩]
        · rw [if_neg (by omega)]
          rw [hs.same x (by rw [hn]; omega)]
          unfold Inj.upto
          rw [if_pos (by rw [hn]; omega)]
      · rw [if_neg hx]
        cases e2 : ι1 x with
        | none => rfl
        | some p => exact absurd (hs.rel.dom x p e2) hx
    refine hK _ _ (ι.join ι1 (f.K i) out.next) b τ' (DTmp.next B I ho hi hr hle2 ?_) ?_
    · rw [hV v (by rw [e]; rfl), hK1, ← hup]; exact hv
    · exact {
        bar := fun c hc hBc => by
          rw [← M.bar c hc hBc]
          constructor
          · rintro (h | rfl)
            · exact h
            · exact (nBar hBc).elim
          · exact .inl
        b0 := M.b0
        bl := M.bl
        lim := M.lim
        low := fun x hx => by rw [hout x (by omega)]; exact M.low x hx
        seg := fun j hj a1 a2 x a3 a4 => by
          rcases hj with hj | rfl
          · rw [hout x (fun a => apart j hj (B.Kle (Nat.le_succ j) (I.bound j hj)) x a.1 a.2 a3 a4)]
            exact M.seg j hj a1 a2 x a3 a4
          · rw [hK1] at a4
            rw [hin x a3 a4]
            have e4 : f.C (j + 1) = ⟨m, out.next, (f j).2.cur.mw⟩ := by unfold Hist.C; rw [e]; rfl
            rw [e4]
            have := hcp.1 x
            rw [if_pos ⟨a3, a4⟩] at this
            exact this.symm
        out := fun x hx H => by
          have hni : ¬ (f.K i ≤ x ∧ x < out.next) := fun a => H i (.inr rfl) hbi hCln a.1 (by rw [hK1]; exact a.2)
          rw [hout x hni]
          unfold Inj.join
          rw [if_neg hni]
          exact M.out x hx fun j hj => H j (.inl hj)
        nx := by rw [hτn]; exact M.nx
        step := hst
        rb := fun x bl e j a1 a2 a3 => by
          by_cases hx : f.K i ≤ x ∧ x < out.next
          · rw [hin x hx.1 hx.2] at e
            obtain ⟨p, hp, r⟩ := hs.rel.blk x bl e
            refine ⟨p, hle1 _ _ hp, r.mono ?_⟩
            have hij : i + 1 ≤ j := by
              rcases Nat.lt_or_ge i j with h | h
              · omega
              · have := B.Kle h (show i ≤ ops.size by omega); omega
            have hle : out.next ≤ f.K j := by rw [← hK1]; exact B.Kle hij a2
            have hfin := Inj.upto_mono (ι.join ι1 (f.K i) out.next) hle
            rw [← hup] at hfin
            exact hfin
          · rw [hout x hx] at e
            obtain ⟨p, hp, r⟩ := M.rb x bl e j a1 a2 a3
            exact ⟨p, hle2 _ _ hp, (r.mono (Inj.upto_le_upto hle2 _)).heap (hbel.block _ r.lt)⟩ }
  | bar v view out hw hview he h1 hs1 hr1 wr' wild' hmk e =>
    rw [hfrm] at hw he
    rw [if_pos (by rw [hwant]; exact hw)]
    have hK1 : f.K (i + 1) = out.next := by unfold Hist.K; rw [e]; rfl
    have hC1 : f.C (i + 1) = out := by unfold Hist.C; rw [e]; rfl
    have hBar : f.Bar i := by unfold Hist.Bar; rw [e]; simp [DX.wrote, si.jj]
    obtain ⟨hn, hmwv, hinf, hlow, hsub, hrel⟩ := B.viewed h0 I M ho hi hr hview (.inr (.inr hBar))
    have hph := B.phase I M ho hi hr hview (.inr (.inr hBar))
    have hbi : b ≤ i := by rw [← hph]; exact b0le
    have hKb : f.K b ≤ f.K i := B.Kle hbi (by omega)
    have h1 : f.K i ≤ out.next := h1
    have hKn : out.next ≤ f.K ops.size := by rw [← hK1]; exact B.Kle (by omega) (Nat.le_refl _)
    -- none of those listed behind it is done
    have later : ∀ j, S j → i < j → ∀ (oj : Oper), ops[j]? = some oj → f.Cln j ∨ f.Bar j → False := by
      intro j hj hij oj hoj hk
      have sj := B.si j (by have := I.bound j hj; omega)
      have hb := sj.bs i hij hBar
      have go : ∀ vw, (f j).2.view (masks ops.toList []) = some vw → False := fun vw hvw => by
        obtain ⟨_, _, hall⟩ := view_eq hvw
        rw [sj.jj] at hall
        exact hi (mask_spec I.down j i (hall i hb) hj)
      have nq : ∀ vq, f (j + 1) = (putT (f j).1 oj.dst vq, (f j).2.quiet vq) → False := fun vq e => by
        rcases hk with hk | hk
        · unfold Hist.Cln at hk; rw [e] at hk; simp only [DX.quiet] at hk; have := congrArg List.length hk; simp at this
        · unfold Hist.Bar at hk; rw [e] at hk; simp only [DX.quiet] at hk; have := sj.b0le; omega
      cases B.kd j oj hoj with
      | skip _ e => exact nq _ e
      | pure _ _ _ _ e => exact nq _ e
      | read _ _ _ hvw _ _ => exact go _ hvw
      | still vq bq _ _ e =>
        rcases hk with hk | hk
        · unfold Hist.Cln at hk; rw [e] at hk; simp only [DX.still] at hk; have := congrArg List.length hk; simp at this
        · unfold Hist.Bar at hk; rw [e] at hk; simp only [DX.still] at hk; have := sj.b0le; omega
      | clean _ _ _ _ _ hvw _ _ _ _ _ => exact go _ hvw
      | bar _ _ _ _ hvw _ _ _ _ _ _ _ _ => exact go _ hvw
    have hdom : ∀ x p, ι x = some p → x < f.K i := by
      intro x p hx
      rcases Nat.lt_or_ge x (f.K i) with h | h
      · exact h
      · exfalso
        have := M.out x (by omega) fun j hj a1 a2 a3 a4 => by
          have hjl := I.bound j hj
          rcases Nat.lt_trichotomy j i with h' | h' | h'
          · have := B.Kle (show j + 1 ≤ i by omega) (by omega); omega
          · subst h'; exact hi hj
          · exact later j hj h' ops[j] (by simp) (.inl a2)
        rw [this.2] at hx; cases hx
    have hup : ι.upto view.next = ι := Inj.upto_all fun x p hx => by rw [hn]; exact hdom x p hx
    rw [hup] at hrel
    have hx : XRel ι (frameAt ops fr f.V i) a o := fun y hy => (B.xrel h0 M.step.le I ho hi hr (aOper_ok he) y hy).mono (Inj.upto_le _ _)
    have hmw : (f ops.size).2.mw ≤ out.mw := by
      have := B.mw (i + 1) ops.size (by omega) (Nat.le_refl _)
      refine Nat.le_trans this ?_
      rw [e]; exact Nat.min_le_right _ _
    refine (aOper_wpIn hN hself hsums hrel hx hnd he fun v' w' ι1 hs hv => ?_)
    simp only [Option.getD_some] at hs
    have st1 : Step P w0 σ ι0 ws { view with mw := (f ops.size).2.mw } ι w := by
      refine Step.sub M.step (fun x bl hx => (hsub x bl hx).1) (fun x hx => hlow x ?_) rfl (by show σ.next ≤ view.next; rw [hn]; exact hσn) (fun x p hx => by show x < view.next; rw [hn]; exact hdom x p hx)
      have : f.K 0 ≤ f.K b := B.Kle (Nat.zero_le _) M.bl
      rw [B.K0] at this
      omega
    have hve : ({ view with mw := INF } : AW) = view := by cases view; simp at hmwv; subst hmwv; rfl
    have st2 : Step P w0 { view with mw := (f ops.size).2.mw } ι w { out with mw := (f ops.size).2.mw } ι1 w' := by
      refine Step.weaken (m1 := INF) (σ' := out) ?_ hmw (Nat.le_refl _)
      rw [hve]; exact hs
    have st3 := Step.trans h0 st1 st2
    have st4 : Step P w0 σ ι0 ws { ({ out with next := f.K ops.size } : AW) with mw := (f ops.size).2.mw } ι1 w' :=
      Step.sub st3 (fun x bl hx => hx) (fun x hx => rfl) rfl (by show σ.next ≤ f.K ops.size; omega) (fun x p hx => by have := hs.rel.dom x p hx; show x < f.K ops.size; omega)
    refine hK _ _ ι1 (i + 1) { out with next := f.K ops.size } (DTmp.next B I ho hi hr hs.le ?_) ?_
    · rw [hV v (by rw [e]; rfl), hK1, Inj.upto_all hs.rel.dom]; exact hv
    · exact {
        bar := fun c hc hBc => by
          constructor
          · rintro (h | rfl)
            · rcases Nat.lt_trichotomy c i with h' | h' | h'
              · omega
              · omega
              · exact (later c h h' ops[c] (by simp) (.inr hBc)).elim
            · omega
          · intro h
            by_cases hci : c = i
            · exact .inr hci
            · refine .inl ?_
              obtain ⟨_, _, hall⟩ := view_eq hview
              rw [si.jj] at hall
              exact I.masked ho hr hci (hall c (si.bs c (by omega) hBc))
        b0 := .inr ⟨i, rfl, hBar⟩
        bl := by omega
        lim := fun x bl hx => by rw [hC1] at hx; rw [hK1]; exact hs.rel.lt hx
        low := fun x _ => by rw [hC1]; rfl
        seg := fun j hj a1 a2 x a3 a4 => by
          exfalso
          rcases hj with hj | rfl
          · have hjl := I.bound j hj
            exact later j hj (by omega) ops[j] (Array.getElem?_eq_getElem hjl) (.inl a2)
          · omega
        out := fun x hx _ => by
          rw [hK1] at hx
          constructor
          · show out.get x = none
            cases hg : out.get x with
            | none => rfl
            | some bl => have := hs.rel.lt hg; omega
          · cases hg : ι1 x with
            | none => rfl
            | some p => have := hs.rel.dom x p hg; omega
        nx := rfl
        step := st4
        rb := fun x bl e j a1 a2 a3 => by
          obtain ⟨p, hp, r⟩ := hs.rel.blk x bl e
          refine ⟨p, hp, ?_⟩
          rw [Inj.upto_all fun y q hy => by
            have := hs.rel.dom y q hy
            have := B.Kle a1 a2
            omega]
          exact r }

end
theorem any_soundIn (hN : ProgOk P) (hself : SelfSound P w0 self) (hsums : SumsSound P w0 sums) {fr : List Value} {f : Hist} (B : Plan P sums self ops fr σ f) (hnd : ∀ (i : Nat) (o : Oper), ops[i]? = some o → noDefer o = true) {rd : Option Nat} {n : Nat} {ι0 : Inj} {ws : World} (h0 : Rel P w0 σ ι0 ws) {Q : Exit → Act → World → Prop}
    (hQ : ∀ a w ι b τ S, DTmp ops fr σ f S a ι → DMem P w0 ops σ ι0 ws f S w ι b τ → (∀ i, i < ops.size → S i) → Q .normal a w) : ∀ (fuel : Nat) (listed : Array Bool) (a : Act) (w : World) (ι : Inj) (b : Nat) (τ : AW), listed.size = ops.size →
    ((List.range ops.size).filter fun j => !(listed.getD j false)).length = fuel → DTmp ops fr σ f (fun i => listed.getD i false = true) a ι → DMem P w0 ops σ ι0 ws f (fun i => listed.getD i false = true) w ι b τ → wpAnyIn (wideR rd) n P .any ops Q fuel listed a w := by
  intro fuel
  have allOf : ∀ (listed : Array Bool), Region.ready .any ops listed = [] → (∀ i, i < ops.size → listed.getD i true = listed.getD i false) → ∀ i, i < ops.size → listed.getD i false = true := by
    intro listed hr hsz i
    induction i using Nat.strongRecOn with
    | _ i ih =>
      intro hi
      cases hl : listed.getD i false with
      | true => rfl
      | false =>
        exfalso
        have : i ∈ Region.ready .any ops listed := by
          unfold Region.ready
          refine List.mem_filter.2 ⟨List.mem_range.2 hi, ?_⟩
          rw [hsz i hi, hl]
          have ho : ops[i]? = some ops[i] := by simp
          rw [ho]
          simp only [Bool.not_false, Option.map_some, Option.getD_some, Bool.true_and]
          rw [Array.all_eq_true_iff_forall_mem]
          intro e he
          cases hb : Region.binds .any e with
          | false => rfl
          | true =>
            have hlt := B.back i _ ho e (Array.mem_toList_iff.2 he) hb
            simp [ih e.on hlt (by omega)]
        rw [hr] at this
        cases this
  have szD : ∀ (listed : Array Bool), listed.size = ops.size → ∀ i, i < ops.size → listed.getD i true = listed.getD i false := by
    intro listed hsz i hi
    simp only [Array.getD_eq_getD_getElem?]
    rw [Array.getElem?_eq_getElem (by omega)]
    rfl
  induction fuel with
  | zero =>
    intro listed a w ι b τ hsz hcount I M
    have hall : ∀ i, i < ops.size → listed.getD i false = true := by
      intro i hi
      cases hl : listed.getD i false with
      | true => rfl
      | false =>
        exfalso
        have hm : i ∈ (List.range ops.size).filter fun j => !(listed.getD j false) := List.mem_filter.2 ⟨List.mem_range.2 hi, by rw [hl]; rfl⟩
        rw [List.length_eq_zero_iff.1 hcount] at hm
        cases hm
    refine ⟨?_, hQ a w ι b τ _ I M hall⟩
    unfold Region.ready
    rw [List.filter_eq_nil_iff]
    intro i hi
    have hi := List.mem_range.1 hi
    rw [szD listed hsz i hi, hall i hi]
    simp
  | succ fuel ih =>
    intro listed a w ι b τ hsz hcount I M
    refine ⟨fun hr => hQ a w ι b τ _ I M (allOf listed hr (szD listed hsz)), fun i hi => ?_⟩
    unfold Region.ready at hi
    obtain ⟨hir, hcond⟩ := List.mem_filter.1 hi
    have hil := List.mem_range.1 hir
    simp only [Bool.and_eq_true, Bool.not_eq_true'] at hcond
    have hn : listed.getD i false = false := by rw [← szD listed hsz i hil]; exact hcond.1
    have ho : ops[i]? = some ops[i] := by simp
    have hr : ∀ e ∈ ops[i].after.toList, Region.binds .any e = true → listed.getD e.on false = true := by
      intro e he hb
      have h2 := hcond.2
      rw [ho] at h2
      simp only [Option.map_some, Option.getD_some] at h2
      rw [Array.all_eq_true_iff_forall_mem] at h2
      have := h2 e (Array.mem_toList_iff.1 he)
      rw [hb] at this
      simpa using this
    refine B.oneIn hN hself hsums h0 I M ho (hnd i _ ho) (by rw [hn]; simp) hr fun a' w' ι' b' τ' I' M' => ?_
    have e : (fun m => listed.getD m false = true ∨ m = i) = (fun m => (listed.setIfInBounds i true).getD m false = true) := by
      funext m
      exact propext (getD_set (by omega)).symm
    rw [e] at I' M'
    refine ih _ a' w' ι' b' τ' (by simp [hsz]) ?_ I' M'
    · have := count_set ops.size i listed hil (by omega) hn
      omega

theorem aDraw_soundIn (hN : ProgOk P) (hM : P.follows .mixedOrders = true) (hself : SelfSound P w0 self) (hsums : SumsSound P w0 sums) (hok : drawOk ops = true) {fr fr' : List Value} {σ' : AW} (e : aDraw P sums self ops fr σ = some (fr', σ')) (id : Nat) (hnd : ∀ (i : Nat) (o : Oper), ops[i]? = some o → noDefer o = true) {rd : Option Nat} {n : Nat} {a : Act}
    (h : Rel P w0 σ ι w) (hfr : LRel ι fr a.tmps.toList) (hd : a.defers = []) : (Code.region id ops true).wpIn (wideR rd) n P (Post P w0 σ ι w .normal fr' σ') a w := by
  unfold aDraw at e
  split at e <;> try contradiction
  rename_i fr1 s hs
  cases e
  obtain ⟨hback, hclash⟩ := drawOk_spec hok
  obtain ⟨f, B, hfn⟩ := plan_of hback hclash hs
  have sn := B.si ops.size (Nat.le_refl _)
  have hfr1 : fr' = frameAt ops fr f.V ops.size := by rw [← sn.frm, hfn]
  have hsn : (f ops.size).2 = s := by rw [hfn]
  have hCn : f.C ops.size = s.cur := by unfold Hist.C; rw [hsn]
  have hKn : f.K ops.size = s.cur.next := by unfold Hist.K; rw [hsn]
  have hg := below_drawn w (w.drawn + 1)
  have h1 := h.grow hg
  have hup : ι.upto (f.K 0) = ι := by rw [B.K0]; exact Inj.upto_all h.dom
  refine wpIn_region_any hM (any_soundIn hN hself hsums B hnd (ι0 := ι) (ws := { w with drawn := w.drawn + 1 }) h1 ?_ ops.size _ a _ ι 0 { σ with next := f.K ops.size } (by simp) ?_ ?_ ?_)
  · intro a1 w1 ι1 b τ S I M hall
    have hb : (f ops.size).2.b0 = b := by
      have hle := sn.b0le
      rcases Nat.lt_trichotomy b (f ops.size).2.b0 with h' | h' | h'
      · exfalso
        rcases sn.b0b with h0 | ⟨c, hc, hB⟩
        · omega
        · have := (M.bar c (by omega) hB).1 (hall c (by omega))
          omega
      · exact h'.symm
      · exfalso
        rcases M.b0 with h0 | ⟨c, hc, hB⟩
        · omega
        · have := M.bl
          exact sn.nob c (by omega) (by omega) hB
    have hKb : f.K b ≤ f.K ops.size := B.Kle M.bl (Nat.le_refl _)
    have hsub : ∀ x bl, (f.C ops.size).get x = some bl → τ.get x = some bl := by
      intro x bl hx
      by_cases hxb : x < f.K b
      · rw [M.low x hxb, ← hx]
        have := sn.low x (by rw [hb]; exact hxb)
        rw [hb] at this
        exact this.symm
      · by_cases hxn : x < f.K ops.size
        · obtain ⟨j, g1, g2, g3, g4, g5⟩ := sn.cover x (by rw [hb]; omega) hxn
          rw [M.seg j (hall j g2) (by rw [← hb]; exact g1) g3 x g4 g5, ← sn.mid j g1 g2 g3 x g4 g5]
          exact hx
        · exfalso
          have := sn.high x (by omega)
          rw [hb] at this
          have := M.lim x bl (by rw [← this]; exact hx)
          omega
    have hst : Step P w0 σ ι { w with drawn := w.drawn + 1 } { s.cur with mw := s.mw } ι1 w1 := by
      refine Step.sub M.step (fun x bl hx => hsub x bl (by rw [hCn]; exact hx)) (fun x hx => ?_) (by rw [hsn]) ?_ (fun x p hx => ?_)
      · have h0b : f.K 0 ≤ f.K b := B.Kle (Nat.zero_le _) M.bl
        rw [B.K0] at h0b
        have := sn.low x (by rw [hb]; omega)
        rw [hb, hCn] at this
        show s.cur.get x = τ.get x
        rw [this, M.low x (by omega)]
      · show σ.next ≤ s.cur.next
        rw [← hKn, ← B.K0]; exact B.Kle (Nat.zero_le _) (Nat.le_refl _)
      · have := M.step.rel.dom x p hx
        have e : ({ τ with mw := (f ops.size).2.mw } : AW).next = f.K ops.size := M.nx
        rw [e, hKn] at this
        exact this
    refine ⟨rfl, I.defers, ι1, Step.trans h (Step.grow h hg) hst, ?_⟩
    rw [hfr1]
    refine ⟨by rw [frame_length, I.size], fun t x x' hx hx' => ?_⟩
    have htl : t < fr.length := by
      rw [← I.size]
      rcases Nat.lt_or_ge t a1.tmps.toList.length with h | h
      · exact h
      · rw [List.getElem?_eq_none h] at hx'; cases hx'
    rcases I.tr t x' hx' with ⟨j, hj, hdj, hmax, hv⟩ | ⟨hno, y, hy, hv⟩
    · have hjn := I.bound j hj
      rcases frame_get (V := f.V) (ops := ops) ops.size t htl with ⟨j2, g1, g2, g3, g4⟩ | ⟨g1, g2⟩
      · have e1 := hmax j2 (hall j2 g1) g2
        have : j = j2 := by
          rcases Nat.lt_or_ge j2 j with h | h
          · exact (g3 j h hjn hdj).elim
          · omega
        subst this
        rw [g4] at hx; cases hx
        exact hv.mono (Inj.upto_le _ _)
      · exact (g1 j hjn hdj).elim
    · rcases frame_get (V := f.V) (ops := ops) ops.size t htl with ⟨j2, g1, g2, g3, g4⟩ | ⟨g1, g2⟩
      · exact (hno j2 (hall j2 g1) g2).elim
      · rw [g2, hy] at hx; cases hx
        exact hv.mono (Inj.upto_le _ _)
  · have : ((List.range ops.size).filter fun j => !((Array.replicate ops.size false).getD j false)) = List.range ops.size := by
      rw [List.filter_eq_self]
      intro j hj
      simp only [Array.getD_eq_getD_getElem?, Array.getElem?_replicate]
      split <;> rfl
    rw [this]; simp
  · have hno : ∀ i, (Array.replicate ops.size false).getD i false = true → False := by
      intro i hi
      simp only [Array.getD_eq_getD_getElem?, Array.getElem?_replicate] at hi
      split at hi <;> simp at hi
    exact {
      down := fun i o ho hi => (hno i hi).elim
      bound := fun i hi => (hno i hi).elim
      defers := hd
      size := hfr.1.symm
      tr := fun t x' hx' => by
        refine .inr ⟨fun j hj => (hno j hj).elim, ?_⟩
        have htl : t < fr.length := by
          rw [hfr.1]
          rcases Nat.lt_or_ge t a.tmps.toList.length with h | h
          · exact h
          · rw [List.getElem?_eq_none h] at hx'; cases hx'
        have hx : fr[t]? = some fr[t] := List.getElem?_eq_getElem htl
        exact ⟨_, hx, by rw [Inj.upto_all h.dom]; exact hfr.2 t _ x' hx hx'⟩ }
  · have hno : ∀ i, (Array.replicate ops.size false).getD i false = true → False := by
      intro i hi
      simp only [Array.getD_eq_getD_getElem?, Array.getElem?_replicate] at hi
      split at hi <;> simp at hi
    have hC0 : f.C 0 = σ := by unfold Hist.C; rw [B.h0]; rfl
    exact {
      bar := fun i _ _ => ⟨fun h => (hno i h).elim, fun h => by omega⟩
      b0 := .inl rfl
      bl := Nat.zero_le _
      lim := fun x bl hx => by rw [hC0] at hx; rw [B.K0]; exact h.lt hx
      low := fun x _ => by rw [hC0]; rfl
      seg := fun i hi => (hno i hi).elim
      out := fun x hx _ => by
        rw [B.K0] at hx
        constructor
        · show σ.get x = none
          cases hg : σ.get x with
          | none => rfl
          | some bl => have := h.lt hg; omega
        · cases hg : ι x with
          | none => rfl
          | some p => have := h.dom x p hg; omega
      nx := rfl
      step := by
        have s1 := Step.weaken (m := (f ops.size).2.mw) (m1 := σ.mw) (m2 := σ.mw) (Step.refl h1) (by show _ ≤ σ.mw; exact sn.mwle) sn.mwle
        refine Step.sub s1 (fun x bl hx => hx) (fun x hx => rfl) rfl ?_ (fun x p hx => ?_)
        · show σ.next ≤ f.K ops.size
          rw [← B.K0]; exact B.Kle (Nat.zero_le _) (Nat.le_refl _)
        · show x < f.K ops.size
          have := h.dom x p hx
          have h2 : f.K 0 ≤ f.K ops.size := B.Kle (Nat.zero_le _) (Nat.le_refl _)
          rw [B.K0] at h2
          omega
      rb := fun x bl e j _ hj _ => by
        obtain ⟨p, hp, r⟩ := h1.blk x bl e
        refine ⟨p, hp, ?_⟩
        rw [Inj.upto_all fun y q hy => by
          have := h.dom y q hy
          have h2 : f.K 0 ≤ f.K j := B.Kle (Nat.zero_le _) hj
          rw [B.K0] at h2
          omega]
        exact r }

end Go.Ai
