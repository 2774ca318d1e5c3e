/- Proved: what the program's 'Append' comes to, however the act begins. Each theorem says its own conditions. -/
import Derived.Test.YteleocgomdhcfaaLf
set_option linter.unusedVariables false
set_option linter.unusedSimpArgs false
namespace Go.Proofs.DK
open Go.RowKit
variable {G : Nat → Prop} {bd : Nat} {S : Ds} {w : World}
theorem c12 (n b : List UInt8) (pb : Option Addr) (cb : Nat) (w : World) (h : D G bd S w) (hF : Fine S) (hbb : ∀ W, (∀ k, k < w.heap.size → ¬ G k → W.heap[k]? = w.heap[k]?) → w.heap.size ≤ W.heap.size → Rd W (.slice pb b.length cb) b) (hR : 0 ≤ S.room ∧ S.room ≤ 2000000) (hU : used S.fs ≤ 1000000) (hbl : b.length ≤ 500000) (hnl : n.length ≤ 1000000) (hp : 0 ≤ S.part ∧ S.part ≤ 9223372036854775807) : Calls Try.prog 12 #[ptr bd, .string (bs n), .slice pb b.length cb] w (Did G bd (.int .i64 (S.appendE n b)) (S.append n b) w) := by
  rcases S.how_lt with h0 | h0 | h0
  · exact c12_0 n b pb cb w h hF hbb hR hU hbl hnl hp h0
  · exact c12_1 n b pb cb w h hF hbb hR hU hbl hnl hp h0
  · have hd : S.down = true := by
      rcases how_cases S with ⟨_, e⟩ | ⟨e, _⟩ | ⟨e, _⟩
      · exact e
      · omega
      · omega
    have K11 := Lib.hid (c11 w h)
    rw [hd] at K11
    have eb := begin_down h0
    have e1 : S.append n b = S := by rw [append_def, if_pos h0, eb]
    have e2 : S.appendE n b = 9 := by unfold Ds.appendE; rw [if_pos (by omega)]
    rw [e1, e2]
    have HD := Lib.hid h
    unfold ptr at K11 ⊢
    clear h hF hbb hR hU hbl hnl hp h0 hd eb e1 e2
    go_enter Try.func12, Try.ntmps12
    go_wp2_with (go_at_call 11; (refine K11.out.mono ?_); rintro e w1 ⟨rfl, rfl⟩)
    go_ret
    exact Did.same HD.out
end Go.Proofs.DK
