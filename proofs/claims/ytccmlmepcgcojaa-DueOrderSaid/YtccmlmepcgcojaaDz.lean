/- Proved: what the law 'DueTakes' comes to, called. Each theorem says its own conditions. -/
import Derived.Test.YtccmlmepcgcojaaDy
set_option linter.unusedVariables false
set_option linter.unusedSimpArgs false
namespace Go.Proofs.DU
open Go.RowKit
theorem Tk.last {now : Int} {L L1 : List (Int × Int)} {ks : List Int} (h : Tk now L ks L1) : ∀ x, First L1 x → now < x.2 := by
  induction h with
  | stop h => exact h
  | go _ _ _ ih => exact ih
theorem Tk.sub {now : Int} {L L1 : List (Int × Int)} {ks : List Int} (h : Tk now L ks L1) : ∀ y ∈ L1, y ∈ L := by
  induction h with
  | stop h => exact fun y hy => hy
  | go _ _ _ ih => exact fun y hy => (List.mem_filter.1 (ih y hy)).1
theorem Tk.gone {now : Int} {L L1 : List (Int × Int)} {ks : List Int} (h : Tk now L ks L1) : ∀ k ∈ ks, ∀ y ∈ L1, y.1 ≠ k := by
  induction h with
  | stop h => intro k hk; cases hk
  | go h1 h2 t ih =>
    intro k hk y hy
    rcases List.mem_cons.1 hk with rfl | hk
    · have := (List.mem_filter.1 (t.sub y hy)).2
      simpa using this
    · exact ih k hk y hy
theorem Tk.sum {now : Int} {L L1 : List (Int × Int)} {ks : List Int} (h : Tk now L ks L1) (hn : (L.map (·.1)).Nodup) : L1.length + ks.length = L.length := by
  induction h with
  | stop h => simp
  | go h1 h2 t ih =>
    have := ih (cut_nodup hn)
    have h3 := cut_len hn h1.1
    simp only [List.length_cons]
    omega
theorem Tk.again {now : Int} {L L1 L2 : List (Int × Int)} {ks k2 : List Int} (h : Tk now L ks L1) (k : Tk now L1 k2 L2) : k2 = [] ∧ L2 = L1 := by
  obtain ⟨e1, e2⟩ := (Tk.stop h.last).det k
  exact ⟨e1.symm, e2.symm⟩
theorem c17no {G : Nat → Prop} {bd : Nat} {L : List (Int × Int)} (k : Int) (w : World) (h : D G bd L w) (hno : ∀ x ∈ L, x.1 ≠ k) : Calls Try.prog 17 #[.pointer (some ⟨bd, 0, none⟩), .int .u64 k] w fun e w' => e = .returned (.tuple #[.int .u64 0, .bool false]) ∧ w = w' := by
  refine (c17 k w h).mono ?_
  rintro e w' ⟨rfl, ⟨t, h1, rfl⟩ | ⟨h1, rfl⟩⟩
  · exact absurd rfl (hno _ h1)
  · exact ⟨rfl, rfl⟩
set_option maxRecDepth 100000 in
set_option maxHeartbeats 16000000 in
theorem c5 (v0 : Value) (now : Int) (W : World) (hcut : ∀ w, Calls Try.prog 13 #[v0] w (CutG W w)) :
    Calls Try.prog 5 #[v0, .int .u64 now] W fun e w' => e = .returned (.bool true) ∧ Below W.heap.size W w' := by
  have HCUT := Lib.hid hcut
  clear hcut
  go_enter Try.func5, Try.ntmps5
  go_wp2_with (first
    | (go_at_call 7; (with_reducible refine (c7 _).mono ?_); rintro e w1 ⟨bd, rfl, hd1, hB1⟩; have HD1 := Lib.hid hd1; have HB1 := Lib.hid hB1; clear hd1 hB1)
    | (go_at_call 8; (with_reducible refine (c8 _).mono ?_); rintro e w2 ⟨rfl, hB2⟩; have HBO := Lib.hid (both_new HD1.out hB2); have HB2 := Lib.hid (HB1.out.trans (hB2.mono HB1.out.size)); clear HD1 HB1 hB2)
    | (go_at_call 13; (with_reducible refine (HCUT.out _).mono ?_); rintro e w3 ⟨pp, nn, cc, rfl, hnn, hx, rfl⟩; have HX := Lib.hid hx; clear hx))
  go_loopw [6, 26] (fun o i wr => ∃ (k : Nat) (G : Nat → Prop) (L : List (Int × Int)), i = .int .i64 k ∧ k ≤ nn ∧ L.length ≤ k ∧ Both W.heap.size bd G o L wr ∧ Below W.heap.size W wr) (fun _ i _ => nn - (intOf i).toNat)
  case atStart => exact ⟨0, _, [], rfl, Nat.zero_le _, Nat.zero_le _, HBO.out, HB2.out⟩
  case round =>
    clear HBO HB2
    obtain ⟨k, G, L, rfl, hk, hLk, hbo, hB⟩ := hrel
    by_cases hlt : k < nn
    · obtain ⟨b, o', x, rfl, hb, y0, y1, y2⟩ := HX.out k hlt
      have y0 := (hB.cell (p := ⟨b, _, none⟩) hb).trans y0
      have y1 := (hB.cell (p := ⟨b, _, none⟩) hb).trans y1
      have y2 := (hB.cell (p := ⟨b, _, none⟩) hb).trans y2
      obtain ⟨xe, xk, xt⟩ := x
      simp only at y0 y1 y2
      obtain ⟨po, co, rfl⟩ := own_slice hbo.ref
      have hal : Below wr.heap.size wr (wr.alloc (.cells #[.int .i64 xe, .int .u64 xk, .int .u64 xt] 36)) := (Below.refl _ wr).alloc (Nat.le_refl _) _
      have K14 := Lib.hid (does xe xk xt _ (hbo.below hal) (Nat.le_trans hB.size hal.size) (by omega))
      have HB := Lib.hid (hB.trans (hal.mono hB.size))
      have hsz := hB.size
      clear hbo hB hal
      generalize hl : L.length = l at *
      go_wp2_with (first
        | (go_at_call 14; (with_reducible refine K14.out.mono ?_); rintro e w4 ⟨v4, G4, L4, rfl, hb4, ht4, hl4⟩; have HB4 := Lib.hid hb4; have HT4 := Lib.hid (ht4.into HB.out (Nat.le_trans hsz (by simp))); clear hb4 ht4))
      all_goals go_roundw
      all_goals first
        | (simp [intOf]; omega)
        | exact ⟨k + 1, G4, L4, by go_num, by omega, by omega, HB4.out, HT4.out⟩
    · have hkn : k = nn := by omega
      subst hkn
      obtain ⟨po, co, rfl⟩ := own_slice hbo.ref
      have K11 := Lib.hid (c11 now wr hbo.d hbo.g1 (by omega))
      have HG0 := Lib.hid hbo.g0
      have HG1 := Lib.hid hbo.g1
      have HND := Lib.hid hbo.d.nodup
      have HB := Lib.hid hB
      have hL200 : L.length ≤ 200 := by omega
      clear hbo hB
      go_wp2_with (first
        | (go_at_call 11; (with_reducible refine K11.out.mono ?_); rintro e w5 ⟨v5, ks, L5, rfl, htk, hka, _, hd5, ht5⟩; obtain ⟨p5, c5', rfl⟩ := own_slice hka; have HTK := Lib.hid htk; have HKA := Lib.hid hka; have HD5 := Lib.hid hd5; have HB5 := Lib.hid (ht5.below HB.out HG0.out HB.out.size); have HS5 := Lib.hid ht5.size; have hkl := htk.len; clear htk hka hd5 ht5 HB K11))
      have HKG := Lib.hid (fun (i : Nat) (k : Int) (e : ks[i]? = some k) => HKA.out.get e)
      have hsum := HTK.out.sum HND.out
      have HBS := Lib.hid HB5.out.size
      clear HKA
      generalize hkn : ks.length = kn at *
      have HKN := Lib.hid hkn
      clear hkn
      go_loopw [43] (fun i wq => ∃ j : Nat, i = .int .i64 j ∧ j ≤ kn ∧ Below w5.heap.size w5 wq) (fun i _ => kn - (intOf i).toNat)
      case atStart => exact ⟨0, rfl, Nat.zero_le _, Below.refl _ _⟩
      case round =>
        obtain ⟨j, rfl, hj, hB6⟩ := hrel
        by_cases hjl : j < kn
        · obtain ⟨x, hx⟩ : ∃ x, ks[j]? = some x := ⟨_, List.getElem?_eq_getElem (by rw [HKN.out]; exact hjl)⟩
          obtain ⟨g1, d1, e1, l1, y1⟩ := HKG.out j x hx
          cases e1
          have y1 := ((bcell hB6).1 _ _ l1).trans y1
          have HB6 := Lib.hid hB6
          have HNO := Lib.hid (HTK.out.gone x (List.mem_of_getElem? hx))
          clear hB6 hx
          go_wp2_with (go_at_call 17; (with_reducible refine (c17no x _ (HD5.out.below HB6.out) HNO.out).mono ?_); rintro e w6 ⟨rfl, rfl⟩)
          all_goals go_roundw
          all_goals first
            | (simp [intOf]; omega)
            | exact ⟨j + 1, by go_num, by omega, by first | exact HB6.out | exact HB6.out.drew⟩
        · have hjn : j = kn := by omega
          subst hjn
          have HD6 := Lib.hid (HD5.out.below hB6)
          have HB6 := Lib.hid (HB5.out.trans (hB6.mono HBS.out))
          have hG6 : ∀ b, G b → b < wr.heap.size := fun b hb => Nat.lt_of_lt_of_le (HG1.out b hb) (Nat.le_trans HS5.out hB6.size)
          have K11 := Lib.hid (c11 now wr HD6.out hG6 (by omega))
          have K15 := Lib.hid (c15n wr HD6.out)
          clear hB6 hG6
          go_wp2_with (go_at_call 15; (with_reducible refine K15.out.mono ?_); rintro e w7 ⟨rfl, ea, ey, rfl, hnx⟩; have HNX := Lib.hid hnx; clear hnx K15)
          rcases HNX.out with ⟨he, rfl, rfl⟩ | ⟨x, hx, rfl, rfl⟩
          · go_wp2_with (first
              | (go_at_call 11; (with_reducible refine K11.out.mono ?_); rintro e w8 ⟨v8, k8, L8, rfl, tk8, ka8, _, hd8, ht8⟩; obtain ⟨rfl, rfl⟩ := HTK.out.again tk8; obtain ⟨p8, c8', rfl⟩ : ∃ p c, v8 = Value.slice p 0 c := own_slice ka8; have HD8 := Lib.hid hd8; have HB8 := Lib.hid (ht8.below HB6.out HG0.out HB6.out.size); have K12 := Lib.hid (c12 _ HD8.out); clear tk8 ka8 hd8 ht8 K11)
              | (go_at_call 12; (with_reducible refine K12.out.mono ?_); rintro e w9 ⟨rfl, rfl⟩))
            go_ret
            exact ⟨congrArg (fun b => Ending.returned (Value.bool b)) (beq_iff_eq.2 (by simp [he] at hsum; omega)), HB8.out⟩
          · have hlate := HTK.out.last x hx
            go_wp2_with (first
              | (go_at_call 11; (with_reducible refine K11.out.mono ?_); rintro e w8 ⟨v8, k8, L8, rfl, tk8, ka8, _, hd8, ht8⟩; obtain ⟨rfl, rfl⟩ := HTK.out.again tk8; obtain ⟨p8, c8', rfl⟩ : ∃ p c, v8 = Value.slice p 0 c := own_slice ka8; have HD8 := Lib.hid hd8; have HB8 := Lib.hid (ht8.below HB6.out HG0.out HB6.out.size); have K12 := Lib.hid (c12 _ HD8.out); clear tk8 ka8 hd8 ht8 K11)
              | (go_at_call 12; (with_reducible refine K12.out.mono ?_); rintro e w9 ⟨rfl, rfl⟩))
            go_ret
            exact ⟨congrArg (fun b => Ending.returned (Value.bool b)) (beq_iff_eq.2 (by omega)), HB8.out⟩
end Go.Proofs.DU
