/- Proved: the document's files in memory, and what 'Find' comes to. Each theorem says its own conditions. -/
import Derived.Test.YteleocgomdhcfaaKe
set_option linter.unusedVariables false
set_option linter.unusedSimpArgs false
set_option linter.unusedSectionVars false
namespace Go.Proofs.DK
open Go.RowKit
def bs (n : List UInt8) : ByteArray := ⟨n.toArray⟩
theorem bs_inj {a b : List UInt8} (h : bs a = bs b) : a = b := by
  unfold bs at h
  have := congrArg (fun x : ByteArray => x.data.toList) h
  simpa using this
/-- Which blocks the document's bytes may lie in: all from a number on. -/
class Okb where
  ok : Nat → Prop
  n0 : Nat
  big : ∀ b, n0 ≤ b → ok b
variable [Okb]
/-- Bytes that can be read. -/
def Rd (W : World) (v : Value) (l : List UInt8) : Prop := ∃ p c, v = .slice p l.length c ∧ l.length ≤ c ∧ ∀ (j : Nat) (x : UInt8), l[j]? = some x → ∃ b o, p = some ⟨b, o, none⟩ ∧ b < W.heap.size ∧ W.cell? ⟨b, o + j, none⟩ = some (.int .u8 x.toNat) ∧ Okb.ok b
theorem Rd.mono {W W' : World} {v : Value} {l : List UInt8} (h : Rd W v l) (hB : Below W.heap.size W W') : Rd W' v l := by
  obtain ⟨p, c, rfl, hl, h⟩ := h
  refine ⟨p, c, rfl, hl, fun j x hx => ?_⟩
  obtain ⟨b, o, hp, hb, hc⟩ := h j x hx
  exact ⟨b, o, hp, Nat.lt_of_lt_of_le hb hB.size, (hB.cell (p := ⟨b, o + j, none⟩) hb).trans hc.1, hc.2⟩
/-- The document's rows are told by their blocks' type. -/
def Tg (W : World) (b : Nat) : Prop := ∃ cur fz, W.heap[b]? = some (.cells cur 43 fz)
theorem Tg.mono {W W' : World} {b : Nat} (h : Tg W b) (hb : b < W.heap.size) (hB : Below W.heap.size W W') : Tg W' b := let ⟨c, f, h⟩ := h; ⟨c, f, (hB.block b hb).trans h⟩
/-- A file's three cells. -/
def FAt (W : World) (b o : Nat) (f : Fl) : Prop := b < W.heap.size ∧ W.cell? ⟨b, o, none⟩ = some (.string (bs f.n)) ∧ (∃ v, W.cell? ⟨b, o + 1, none⟩ = some v ∧ Rd W v f.b) ∧ W.cell? ⟨b, o + 2, none⟩ = some (.int .i64 f.s) ∧ Tg W b
/-- The document's row of files. -/
def FsAt (W : World) (p : Option Addr) (fs : List Fl) : Prop := ∀ (i : Nat) (f : Fl), fs[i]? = some f → ∃ b, p = some ⟨b, 0, none⟩ ∧ FAt W b (i * 3) f
theorem FsAt.mono {W W' : World} {p : Option Addr} {fs : List Fl} (h : FsAt W p fs) (hB : Below W.heap.size W W') : FsAt W' p fs := fun i f hf => by
  obtain ⟨b, hp, hb, h0, ⟨v, h1, hr⟩, h2, ht⟩ := h i f hf
  exact ⟨b, hp, Nat.lt_of_lt_of_le hb hB.size, (hB.cell (p := ⟨b, _, none⟩) hb).trans h0, ⟨v, (hB.cell (p := ⟨b, _, none⟩) hb).trans h1, hr.mono hB⟩, (hB.cell (p := ⟨b, _, none⟩) hb).trans h2, ht.mono hb hB⟩
end Go.Proofs.DK
