/- Proved: what the law 'DuePlays' comes to, called. Each theorem says its own conditions. -/
import Derived.Test.YtccmlmepcgcojaaDx
import Derived.Test.YtccmlmepcgcojaaFx
set_option linter.unusedVariables false
set_option linter.unusedSimpArgs false
namespace Go.Proofs.DU
open Go.RowKit
set_option maxRecDepth 100000 in
set_option maxHeartbeats 16000000 in
theorem c4 (v0 : Value) (W : World) (hcut : ∀ w, Calls Try.prog 13 #[v0] w (CutG W w)) :
    Calls Try.prog 4 #[v0] W fun e w' => e = .returned (.bool true) ∧ Below W.heap.size W w' := by
  have HCUT := Lib.hid hcut
  clear hcut
  go_enter Try.func4, Try.ntmps4
  go_wp2_with (first
    | (go_at_call 7; (with_reducible refine (c7 _).mono ?_); rintro e w1 ⟨bd, rfl, hd1, hB1⟩; have HD1 := Lib.hid hd1; have HB1 := Lib.hid hB1; clear hd1 hB1)
    | (go_at_call 8; (with_reducible refine (c8 _).mono ?_); rintro e w2 ⟨rfl, hB2⟩; have HBO := Lib.hid (both_new HD1.out hB2); have HB2 := Lib.hid (HB1.out.trans (hB2.mono HB1.out.size)); clear HD1 HB1 hB2)
    | (go_at_call 13; (with_reducible refine (HCUT.out _).mono ?_); rintro e w3 ⟨pp, nn, cc, rfl, hnn, hx, rfl⟩; have HX := Lib.hid hx; clear hx))
  go_loopw [4, 21] (fun o i wr => ∃ (k : Nat) (G : Nat → Prop) (L : List (Int × Int)), i = .int .i64 k ∧ k ≤ nn ∧ L.length ≤ k ∧ Both W.heap.size bd G o L wr ∧ Below W.heap.size W wr) (fun _ i _ => nn - (intOf i).toNat)
  case atStart => exact ⟨0, _, [], rfl, Nat.zero_le _, Nat.zero_le _, HBO.out, HB2.out⟩
  case round =>
    clear HBO HB2
    obtain ⟨k, G, L, rfl, hk, hLk, hbo, hB⟩ := hrel
    by_cases hlt : k < nn
    · obtain ⟨b, o', x, rfl, hb, y0, y1, y2⟩ := HX.out k hlt
      have y0 := (hB.cell (p := ⟨b, _, none⟩) hb).trans y0
      have y1 := (hB.cell (p := ⟨b, _, none⟩) hb).trans y1
      have y2 := (hB.cell (p := ⟨b, _, none⟩) hb).trans y2
      obtain ⟨xe, xk, xt⟩ := x
      simp only at y0 y1 y2
      obtain ⟨po, co, rfl⟩ := own_slice hbo.ref
      have hal : Below wr.heap.size wr (wr.alloc (.cells #[.int .i64 xe, .int .u64 xk, .int .u64 xt] 36)) := (Below.refl _ wr).alloc (Nat.le_refl _) _
      have K14 := Lib.hid (does xe xk xt _ (hbo.below hal) (Nat.le_trans hB.size hal.size) (by omega))
      have HB := Lib.hid (hB.trans (hal.mono hB.size))
      have hsz := hB.size
      clear hbo hB hal
      generalize hl : L.length = l at *
      go_wp2_with (first
        | (go_at_call 14; (with_reducible refine K14.out.mono ?_); rintro e w4 ⟨v4, G4, L4, rfl, hb4, ht4, hl4⟩; have HB4 := Lib.hid hb4; have HT4 := Lib.hid (ht4.into HB.out (Nat.le_trans hsz (by simp))); obtain ⟨pv4, cv4, rfl⟩ := own_slice hb4.ref; have K15 := Lib.hid (c15n w4 hb4.d); clear hb4 ht4)
        | (go_at_call 15; (with_reducible refine K15.out.mono ?_); rintro e w5 ⟨rfl, ea, ey, rfl, hnx⟩; have HNX := Lib.hid hnx; clear hnx))
      have hL4 : L4.length < 3000 := by omega
      go_at_call 16
      with_reducible refine (c16n _ L4 0 w4 HB4.out.ref hL4).mono ?_
      rintro e w5 ⟨hB5, hh5, i5, rfl, hi5⟩
      have HB5 := Lib.hid (HT4.out.trans (hB5.mono HT4.out.size))
      have HBB := Lib.hid (HB4.out.below hB5)
      have K12 := Lib.hid (c12 w5 HBB.out.d)
      rcases HNX.out with ⟨rfl, rfl, rfl⟩ | ⟨x, hx, rfl, rfl⟩
      · have h5 : i5 = -1 := by
          rcases hi5 with ⟨_, h⟩ | ⟨j, y, _, h, _⟩
          · exact h
          · cases h
        subst h5
        clear hi5 hB5 hh5
        go_wp2_with (first
          | (go_at_call 12; (with_reducible refine K12.out.mono ?_); rintro e w6 ⟨rfl, rfl⟩))
        all_goals go_roundw
        all_goals first
          | (simp [intOf]; omega)
          | exact ⟨k + 1, G4, [], by go_num, by omega, by simp, HBB.out, HB5.out⟩
      · obtain ⟨j, h5, hj, hjx⟩ : ∃ j : Nat, i5 = j ∧ L4[j]? = some x ∧ j < L4.length := by
          rcases hi5 with ⟨h, _⟩ | ⟨j, y, h, h2, h3⟩
          · subst h; exact absurd hx.1 (by simp)
          · have := hx.uniq h3
            subst this
            exact ⟨j, h, h2, (List.getElem?_eq_some_iff.1 h2).1⟩
        subst h5
        obtain ⟨g5, c5, hv5, _, hg5, z0, z1⟩ := HBB.out.ref.get hj
        cases hv5
        clear hi5 hB5 hh5
        generalize hl5 : L4.length = l5 at *
        go_wp2_with (first
          | (go_at_call 12; (with_reducible refine K12.out.mono ?_); rintro e w6 ⟨rfl, rfl⟩))
        all_goals go_roundw
        all_goals first
          | (simp [intOf]; omega)
          | exact ⟨k + 1, G4, L4, by go_num, by omega, by omega, hl5 ▸ HBB.out, HB5.out⟩
    · have hkn : k = nn := by omega
      subst hkn
      go_wp2
      go_ret
      exact ⟨rfl, hB⟩
end Go.Proofs.DU
