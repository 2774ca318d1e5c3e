/- Proved: facts that the law's walk leans on. Each theorem says its own conditions. -/
import Derived.Test.YteleocgomdhcfaaLs
set_option linter.unusedVariables false
set_option linter.unusedSimpArgs false
namespace Go.Proofs.DK
open Go.RowKit
def put7o (x : Opn) (vb vk : Value) (b : Nat) (w : World) : World := ((((((w.setCell ⟨b, 0, none⟩ (.int .i64 x.kind)).setCell ⟨b, 1, none⟩ (.string (bs x.n))).setCell ⟨b, 2, none⟩ (.string (bs x.t))).setCell ⟨b, 3, none⟩ vb).setCell ⟨b, 4, none⟩ (.int .i64 x.N)).setCell ⟨b, 5, none⟩ (.int .i64 x.K)).setCell ⟨b, 6, none⟩ vk
theorem put7o_at {x : Opn} {vb vk u0 u1 u2 u3 u4 u5 u6 : Value} {b : Nat} {w : World} (h : w.heap[b]? = some (.cells #[u0, u1, u2, u3, u4, u5, u6] 35)) : (put7o x vb vk b w).heap[b]? = some (.cells (opc x vb vk) 35) := by
  unfold put7o
  have h1 := setCell_at (o := 0) (.int .i64 x.kind) h
  have h2 := setCell_at (o := 1) (.string (bs x.n)) h1
  have h3 := setCell_at (o := 2) (.string (bs x.t)) h2
  have h4 := setCell_at (o := 3) vb h3
  have h5 := setCell_at (o := 4) (.int .i64 x.N) h4
  have h6 := setCell_at (o := 5) (.int .i64 x.K) h5
  have h7 := setCell_at (o := 6) vk h6
  simp only [List.setIfInBounds_toArray, List.set_cons_zero, List.set_cons_succ] at h7
  exact h7
theorem put7o_ne {x : Opn} {vb vk : Value} {b k : Nat} {w : World} (h : k ≠ b) : (put7o x vb vk b w).heap[k]? = w.heap[k]? := by
  unfold put7o
  rw [setCell_ne _ h, setCell_ne _ h, setCell_ne _ h, setCell_ne _ h, setCell_ne _ h, setCell_ne _ h, setCell_ne _ h]
theorem put7o_size (x : Opn) (vb vk : Value) (b : Nat) (w : World) : (put7o x vb vk b w).heap.size = w.heap.size := by simp [put7o]
theorem put7o_below {N : Nat} {x : Opn} {vb vk : Value} {b : Nat} {w0 w : World} (h : Below N w0 w) (hb : N ≤ b) : Below N w0 (put7o x vb vk b w) := by
  unfold put7o
  repeat refine Below.setCell ?_ (by simpa using hb) _
  exact h
theorem bx_cell {W : World} {a : Nat} {S : Ds} {v : Value} (h : W.heap[a]? = some (bx S v)) (hv : ∀ x, v ≠ .int .u8 x) (i : Nat) : ∀ x, W.cell? ⟨a, i, none⟩ ≠ some (.int .u8 x) := by
  rw [cellof h i]
  rcases i with _ | _ | _ | _ | _ | _ | _ | i
  all_goals simp
  intro x e
  exact hv x e
/-- Both disks, behind a change of a block of another kind. -/
theorem Both.other {N bd a : Nat} {S S1 : Ds} {p : Option Addr} {W W' : World} {v : Value} (h : Both N bd S p W) (ha : W.heap[a]? = some (bx S1 v)) (hv : ∀ x, v ≠ .int .u8 x) (hk : ∀ k, k ≠ a → W'.heap[k]? = W.heap[k]?) (hs : W'.heap.size = W.heap.size) : Both N bd S p W' := by
  obtain ⟨G, hD, hG, hF⟩ := h
  have hne : ∀ b, G b → b ≠ a := fun b hb e => by
    subst e
    exact (hG b hb).2.2 ⟨_, 31, _, ha, by decide, by decide, by decide⟩
  refine ⟨G, hD.keep fun b _ hg => hk b (hne b hg), fun b hb => ?_, hF.change (by omega) (fun b hb hok hc => ⟨hk b ?_, fun hg => absurd (hok hg) (by omega)⟩) (fun b hb ht => hk b fun e => ?_)⟩
  · obtain ⟨h1, h2, h3⟩ := hG b hb
    refine ⟨h1, by omega, fun ⟨c, t, z, e, ho⟩ => h3 ⟨c, t, z, ?_, ho⟩⟩
    rw [← hk b (hne b hb)]
    exact e
  · obtain ⟨o, x, hc⟩ := hc
    intro e
    rw [e] at hc
    exact bx_cell ha hv _ _ hc
  · obtain ⟨c, z, ht⟩ := ht
    rw [e, ha] at ht
    cases ht
theorem Both.start {N bd : Nat} {W : World} (h : D (fun b => N ≤ b) bd S0 W) : Both N bd S0 none W :=
  ⟨_, h.exact, fun b hb => hb, fun i f hf => by simp [S0] at hf⟩
theorem Ok.start : Ok 0 S0 := ⟨List.Pairwise.nil, (fun f h => by cases h), (fun f h => by cases h), by simp [S0], rfl, by simp [S0, DK.used], ⟨Int.le_refl _, Int.le_refl _⟩, Int.le_refl _, Int.le_refl _⟩
theorem Lim.start : Lim S0 := ⟨by simp [S0], by simp [S0]⟩
theorem OpIn.mono {W W' : World} {b o : Nat} {x : Opn} (h : OpIn W b o x) (hb : b < W.heap.size) (hB : Below W.heap.size W W') : ∃ pb cb pk ck, W'.cell? ⟨b, o, none⟩ = some (.int .i64 x.kind) ∧ W'.cell? ⟨b, o + 1, none⟩ = some (.string (bs x.n)) ∧ W'.cell? ⟨b, o + 2, none⟩ = some (.string (bs x.t)) ∧ W'.cell? ⟨b, o + 3, none⟩ = some (.slice pb x.b.length cb) ∧ W'.cell? ⟨b, o + 4, none⟩ = some (.int .i64 x.N) ∧ W'.cell? ⟨b, o + 5, none⟩ = some (.int .i64 x.K) ∧ W'.cell? ⟨b, o + 6, none⟩ = some (.slice pk x.keep.length ck) ∧ RdN W.heap.size W' (.slice pb x.b.length cb) x.b ∧ RdIN W.heap.size W' (.slice pk x.keep.length ck) x.keep := by
  obtain ⟨pb, cb, pk, ck, h0, h1, h2, h3, h4, h5, h6, h7, h8⟩ := h
  refine ⟨pb, cb, pk, ck, (hB.cell (p := ⟨b, _, none⟩) hb).trans h0, (hB.cell (p := ⟨b, _, none⟩) hb).trans h1, (hB.cell (p := ⟨b, _, none⟩) hb).trans h2, (hB.cell (p := ⟨b, _, none⟩) hb).trans h3, (hB.cell (p := ⟨b, _, none⟩) hb).trans h4, (hB.cell (p := ⟨b, _, none⟩) hb).trans h5, (hB.cell (p := ⟨b, _, none⟩) hb).trans h6, ?_, ?_⟩
  · obtain ⟨p, c, e, hl, hr⟩ := h7
    refine ⟨p, c, e, hl, fun j x hx => ?_⟩
    obtain ⟨b', o', hp, hb', hc⟩ := hr j x hx
    exact ⟨b', o', hp, hb', (hB.cell (p := ⟨b', o' + j, none⟩) hb').trans hc⟩
  · obtain ⟨p, c, e, hr⟩ := h8
    refine ⟨p, c, e, fun j x hx => ?_⟩
    obtain ⟨b', o', hp, hb', hc⟩ := hr j x hx
    exact ⟨b', o', hp, hb', (hB.cell (p := ⟨b', o' + j, none⟩) hb').trans hc⟩
theorem RdN.mono {N : Nat} {W W' : World} {v : Value} {l : List UInt8} (h : RdN N W v l) (hB : Below N W W') : RdN N W' v l := by
  obtain ⟨p, c, e, hl, hr⟩ := h
  refine ⟨p, c, e, hl, fun j x hx => ?_⟩
  obtain ⟨b, o, hp, hb, hc⟩ := hr j x hx
  exact ⟨b, o, hp, hb, (hB.cell (p := ⟨b, o + j, none⟩) hb).trans hc⟩
theorem RdIN.mono {N : Nat} {W W' : World} {v : Value} {l : List Int} (h : RdIN N W v l) (hB : Below N W W') : RdIN N W' v l := by
  obtain ⟨p, c, e, hr⟩ := h
  refine ⟨p, c, e, fun j x hx => ?_⟩
  obtain ⟨b, o, hp, hb, hc⟩ := hr j x hx
  exact ⟨b, o, hp, hb, (hB.cell (p := ⟨b, o + j, none⟩) hb).trans hc⟩
/-- What the law is handed. -/
structure Given (W : World) (p : Option Addr) (c : Nat) (ops : List Opn) : Prop where
  cap : ops.length ≤ c
  max : c ≤ maxLen
  op : ∀ (i : Nat) (x : Opn), ops[i]? = some x → ∃ b o, p = some ⟨b, o, none⟩ ∧ OpIn W b (o + i * 7) x ∧ OpFit x
theorem OpIn.lt {W : World} {b o : Nat} {x : Opn} (h : OpIn W b o x) : b < W.heap.size := by
  obtain ⟨pb, cb, pk, ck, h0, _⟩ := h
  exact World.block_lt_of_cell? W _ h0
theorem Given.at {W W' : World} {p : Option Addr} {c : Nat} {ops : List Opn} (h : Given W p c ops) (hB : Below W.heap.size W W') : OpsAt W' p ops := fun i x hx => by
  obtain ⟨b, o, hp, ho, _⟩ := h.op i x hx
  obtain ⟨pb, cb, pk, ck, h0, h1, h2, h3, h4, h5, h6, _⟩ := ho.mono ho.lt hB
  exact ⟨b, o, hp, Nat.lt_of_lt_of_le ho.lt hB.size, pb, cb, pk, ck, h0, h1, h2, h3, h4, h5, h6⟩
theorem names_at {N : Nat} {W : World} {p : Option Addr} {c j : Nat} {fs : List Fl} {f : Fl} (h : W.ownsRow N 9 1 (.slice p fs.length c) fs.length (fs.map fun f => .string (bs f.n))) (hj : fs[j]? = some f) : ∃ g, p = some ⟨g, 0, none⟩ ∧ N ≤ g ∧ g < W.heap.size ∧ W.cell? ⟨g, j, none⟩ = some (.string (bs f.n)) := by
  have h' := h
  have hjl := (List.getElem?_eq_some_iff.1 hj).1
  rcases h.2 with ⟨_, e⟩ | ⟨g, cap, cur, hv, h1, h2, _⟩
  · omega
  · cases hv
    refine ⟨g, rfl, h1, (Array.getElem?_eq_some_iff.1 h2).1, ?_⟩
    have := World.ownsRow.cells h' (g := g) rfl j (.string (bs f.n)) (by rw [List.getElem?_map, hj]; rfl)
    rwa [Addr.add_lit, Nat.zero_add] at this
end Go.Proofs.DK
