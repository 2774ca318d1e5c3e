/- Proved: what the law's 'does' comes to, whatever the operation's kind. Each theorem says its own conditions. -/
import Derived.Test.YtopnmikijbajfaaNv
import Derived.Test.YtopnmikijbajfaaNw
set_option linter.unusedVariables false
set_option linter.unusedSimpArgs false
namespace Go.Proofs.NT
open Go.RowKit Go.Ai
theorem does (W0 : World) (bn : Nat) (v : Value) (L : List Ml) (w : World) (kd a b k : Int) (s : List UInt8) (p : Option Addr) (c : Nat) (h : Both W0.heap.size bn v L w) (hW : Below W0.heap.size W0 w) (hb : BIn W0 (.slice p s.length c) s) (hs6 : s.length ≤ 6000) :
    Calls Try.prog 15 #[nptr bn, v, .agg #[.int .i64 kd, .int .u32 a, .int .u32 b, .slice p s.length c, .int .i64 k]] w (DoesOut W0.heap.size bn w) := by
  by_cases h0 : kd = 0
  · subst h0; exact does_0 W0 bn v L w a b k s p c h hW hb hs6
  by_cases h1 : kd = 1
  · subst h1
    rcases Nat.eq_zero_or_pos L.length with hz | hpos
    · obtain rfl : L = [] := List.eq_nil_of_length_eq_zero hz
      exact does_1z _ bn v w a b k _ p c h
    · exact does_1 _ bn v L w a b k _ p c h hpos
  by_cases h2 : kd = 2
  · subst h2; exact does_2 _ bn v L w a b k _ p c h
  by_cases h3 : kd = 3
  · subst h3
    rcases Nat.eq_zero_or_pos L.length with hz | hpos
    · obtain rfl : L = [] := List.eq_nil_of_length_eq_zero hz
      exact does_3z _ bn v w a b k _ p c h
    · rcases Nat.lt_or_ge L.length 512 with hlt | hge
      · exact does_3 _ bn v L w a b k _ p c h hpos hlt
      · exact does_3f _ bn v L w a b k _ p c h (by have := h.len; omega)
  by_cases h4 : kd = 4
  · subst h4; exact does_4 _ bn v L w a b k _ p c h
  exact does_e _ bn v L w kd a b k _ p c h h0 h1 h2 h3 h4
end Go.Proofs.NT
