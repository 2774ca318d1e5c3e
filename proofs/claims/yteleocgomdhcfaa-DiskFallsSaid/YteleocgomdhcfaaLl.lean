/- Proved: what 'cut' of a row of operations comes to. Each theorem says its own conditions. -/
import Derived.Test.YteleocgomdhcfaaLk
set_option linter.unusedVariables false
set_option linter.unusedSimpArgs false
set_option linter.unusedSectionVars false
namespace Go.Proofs.DK
open Go.RowKit
/-- An operation. -/
structure Opn where
  kind : Int
  n : List UInt8
  t : List UInt8
  b : List UInt8
  N : Int
  K : Int
  keep : List Int
/-- What is known of an operation's length. -/
def Opn.small (o : Opn) : Prop := o.b.length ≤ 8000 ∧ o.n.length + o.t.length ≤ 8000 ∧ o.keep.length ≤ 300
/-- An operation's seven cells: its slices stand for themselves. -/
def OpCells (W : World) (b o : Nat) (x : Opn) : Prop := ∃ pb cb pk ck, W.cell? ⟨b, o, none⟩ = some (.int .i64 x.kind) ∧ W.cell? ⟨b, o + 1, none⟩ = some (.string (bs x.n)) ∧ W.cell? ⟨b, o + 2, none⟩ = some (.string (bs x.t)) ∧ W.cell? ⟨b, o + 3, none⟩ = some (.slice pb x.b.length cb) ∧ W.cell? ⟨b, o + 4, none⟩ = some (.int .i64 x.N) ∧ W.cell? ⟨b, o + 5, none⟩ = some (.int .i64 x.K) ∧ W.cell? ⟨b, o + 6, none⟩ = some (.slice pk x.keep.length ck)
def OpsAt (W : World) (p : Option Addr) (ops : List Opn) : Prop := ∀ (i : Nat) (x : Opn), ops[i]? = some x → ∃ b o, p = some ⟨b, o, none⟩ ∧ b < W.heap.size ∧ OpCells W b (o + i * 7) x
def CutOut (p : Option Addr) (c : Nat) (ops : List Opn) (w : World) (e : Ending) (w' : World) : Prop := ∃ m, m ≤ ops.length ∧ m ≤ 151 ∧ e = .returned (.slice p m c) ∧ (∀ x ∈ ops.take m, x.small) ∧ Below w.heap.size w w'
set_option maxRecDepth 100000 in
set_option maxHeartbeats 1000000 in
theorem c7 (ops : List Opn) (p : Option Addr) (c : Nat) (w : World) (h : OpsAt w p ops) (hc : ops.length ≤ c) (hmax : c ≤ maxLen) (hsz : ∀ x ∈ ops, x.n.length ≤ 1000000000000000 ∧ x.t.length ≤ 1000000000000000 ∧ x.b.length ≤ maxLen ∧ x.keep.length ≤ maxLen) : Calls Try.prog 7 #[.slice p ops.length c] w (CutOut p c ops w) := by
  unfold maxLen at *
  have HO := Lib.hid h; have HS := Lib.hid hsz
  clear h hsz
  generalize hn : ops.length = n at *
  have HN := Lib.hid hn
  clear hn
  go_enter Try.func7, Try.ntmps7
  go_wp2
  go_loopw [3, 8] (fun a i wr => ∃ (k : Nat) (s : Int), i = .int .i64 k ∧ k ≤ n ∧ k ≤ 151 ∧ a = .int .i64 s ∧ 0 ≤ s ∧ s ≤ 8000 ∧ (∀ x ∈ ops.take k, x.small) ∧ Below w.heap.size w wr) (fun _ i _ => n - (intOf i).toNat)
  case atStart => exact ⟨0, 0, rfl, Nat.zero_le _, by omega, rfl, by omega, by omega, by simp, Below.refl _ _⟩
  case round =>
    obtain ⟨k, s, rfl, hk, hk1, rfl, hs0, hs1, hsm, hB⟩ := hrel
    by_cases hlt : k < n
    · obtain ⟨x, hx⟩ : ∃ x, ops[k]? = some x := ⟨_, List.getElem?_eq_getElem (by rw [HN.out]; exact hlt)⟩
      obtain ⟨b, o, rfl, hb, pb, cb, pk, ck, y0, y1, y2, y3, y4, y5, y6⟩ := HO.out k x hx
      obtain ⟨q1, q2, q3, q4⟩ := HS.out x (List.mem_of_getElem? hx)
      have y0 := (hB.cell (p := ⟨b, _, none⟩) hb).trans y0
      have y1 := (hB.cell (p := ⟨b, _, none⟩) hb).trans y1
      have y2 := (hB.cell (p := ⟨b, _, none⟩) hb).trans y2
      have y3 := (hB.cell (p := ⟨b, _, none⟩) hb).trans y3
      have y4 := (hB.cell (p := ⟨b, _, none⟩) hb).trans y4
      have y5 := (hB.cell (p := ⟨b, _, none⟩) hb).trans y5
      have y6 := (hB.cell (p := ⟨b, _, none⟩) hb).trans y6
      have z1 : (bs x.n).size = x.n.length := by simp [bs, ByteArray.size]
      have z2 : (bs x.t).size = x.t.length := by simp [bs, ByteArray.size]
      have HB := Lib.hid hB; have HX := Lib.hid hx; have HSM := Lib.hid hsm
      clear hB hx hsm
      go_wp2
      all_goals first
        | (go_ret
           exact ⟨k, by rw [HN.out]; exact hk, hk1, rfl, HSM.out, HB.out.alloc HB.out.size _⟩)
        | (go_roundw
           case rel =>
             refine ⟨k + 1, s + (min (x.b.length : Int) 9000 + min ((x.n.length : Int) + (x.t.length : Int)) 9000), by go_num, by omega, by omega, rfl, by omega, by omega, fun y hy => ?_, HB.out.alloc HB.out.size _⟩
             rw [take_succ HX.out] at hy
             rcases List.mem_append.1 hy with hy | hy
             · exact HSM.out y hy
             · rw [List.mem_singleton.1 hy]
               unfold Opn.small
               omega
           case measure => simp [intOf]; omega)
    · have hkn : k = n := by omega
      subst hkn
      rw [List.take_of_length_le (by rw [HN.out]; exact Nat.le_refl _)] at hsm
      have HB := Lib.hid hB; have HSM := Lib.hid hsm
      clear hB hsm
      go_wp2
      go_ret
      refine ⟨k, by rw [HN.out]; exact Nat.le_refl _, hk1, rfl, ?_, HB.out⟩
      rw [List.take_of_length_le (by rw [HN.out]; exact Nat.le_refl _)]
      exact HSM.out
end Go.Proofs.DK
