/- Proved: what the document's 'Place', 'Without' and 'Clear' come to. Each theorem says its own conditions. -/
import Derived.Test.YtopnmikijbajfaaNp
set_option linter.unusedVariables false
set_option linter.unusedSimpArgs false
namespace Go.Proofs.NT
open Go.RowKit Go.Ai
theorem c22z (p : Option Addr) (c : Nat) (k : Int) (w : World) : Calls Try.prog 22 #[.slice p 0 c, .int .i64 k] w fun e w' => e = .returned (.int .i64 (-1)) ∧ w = w' := by
  go_enter Try.func22, Try.ntmps22
  go_wp2
  go_ret
  exact ⟨rfl, rfl⟩
theorem c22 (p : Option Addr) (l c : Nat) (k : Int) (w : World) (hl : 0 < l) (hl2 : l ≤ 512) : Calls Try.prog 22 #[.slice p l c, .int .i64 k] w fun e w' => e = .returned (.int .i64 ((k.toNat % l : Nat) : Int)) ∧ w = w' := by
  have e1 : ¬ ((l : Int) = 0) := by omega
  have e2 : ¬ (l = 0) := by omega
  rcases Int.lt_or_le k 0 with hk | hk
  · have e3 : k.toNat = 0 := by omega
    have e4 : decide (k < 0) = true := by simp; omega
    rw [e3]
    go_enter Try.func22, Try.ntmps22
    go_wp2
    go_ret
    exact ⟨by simp, rfl⟩
  · obtain ⟨n, rfl⟩ : ∃ n : Nat, k = n := ⟨k.toNat, by omega⟩
    have e4 : (n : Int).tmod (l : Int) = ((n % l : Nat) : Int) := by rw [Int.tmod_eq_emod_of_nonneg (by omega)]; simp
    have e5 : ¬ ((n : Int) < 0) := by omega
    go_enter Try.func22, Try.ntmps22
    go_wp2
    go_ret
    exact ⟨by simp, rfl⟩
/-- Mails but that at a place. -/
def wo (q : Int) : List Ml → Nat → List Ml
  | [], _ => []
  | m :: r, i => if (i : Int) = q then wo q r (i + 1) else m :: wo q r (i + 1)
theorem wo_snoc (q : Int) (m : Ml) : ∀ (A : List Ml) (i : Nat), wo q (A ++ [m]) i = wo q A i ++ if ((i + A.length : Nat) : Int) = q then [] else [m]
  | [], i => by simp only [List.nil_append, wo, List.length_nil, Nat.add_zero]
  | a :: r, i => by
    have := wo_snoc q m r (i + 1)
    have e : i + 1 + r.length = i + (a :: r).length := by simp; omega
    rw [e] at this
    simp only [List.cons_append, wo, this]
    split <;> simp
theorem wo_neg : ∀ (A : List Ml) (i : Nat), wo (-1) A i = A
  | [], i => rfl
  | a :: r, i => by
    have h : ¬ ((i : Int) = -1) := by omega
    simp only [wo, if_neg h, wo_neg r]
theorem wo_high (q : Nat) : ∀ (A : List Ml) (i : Nat), q < i → wo (q : Int) A i = A
  | [], i, h => rfl
  | a :: r, i, h => by
    have h2 : ¬ ((i : Int) = (q : Int)) := by omega
    simp only [wo, if_neg h2, wo_high q r (i + 1) (by omega)]
theorem wo_at : ∀ (A : List Ml) (i q : Nat), wo ((i + q : Nat) : Int) A i = A.take q ++ A.drop (q + 1)
  | [], i, q => by simp [wo]
  | a :: r, i, 0 => by
    simp only [wo, Nat.add_zero, if_true]
    rw [wo_high i r (i + 1) (by omega)]
    simp
  | a :: r, i, q + 1 => by
    have h : ¬ ((i : Int) = ((i + (q + 1) : Nat) : Int)) := by omega
    have := wo_at r (i + 1) q
    rw [show i + 1 + q = i + (q + 1) by omega] at this
    simp only [wo, if_neg h, this, List.take_succ_cons, List.drop_succ_cons, List.cons_append]
/-- One more, behind the document's mails. -/
theorem RefAt.snoc {w wr w4 : World} {o : Value} {A : List Ml} {m : Ml} {g cap : Nat} (hB : Below w.heap.size w wr) (h : RefAt w.heap.size wr o A) (hown : w4.ownsRow w.heap.size 51 3 (.slice (some ⟨g, 0, none⟩) (A.length + 1) cap) (A.length + 1) (rcells A ++ rcell m)) (hg : (wr.alloc (.cells (rcell m).toArray 51)).grownBy w4 o.ownBlock) :
    RefAt w.heap.size w4 (.slice (some ⟨g, 0, none⟩) (A.length + 1) cap) (A ++ [m]) ∧ Below w.heap.size w w4 := by
  refine ⟨?_, (hB.alloc hB.size _).grown hg (by have := hB.size; simp; omega) fun k e => (World.ownsRow.lt h k e).1⟩
  unfold RefAt
  rw [rcells_snoc, List.length_append]
  exact hown
def RListOut (L : List Ml) (w : World) (e : Ending) (w' : World) : Prop := ∃ v', e = .returned v' ∧ RefAt w.heap.size w' v' L ∧ Below w.heap.size w w'
set_option maxRecDepth 100000 in
set_option maxHeartbeats 4000000 in
theorem c23 (v : Value) (L : List Ml) (N : Nat) (q : Int) (w : World) (h : RefAt N w v L) (hL : L.length ≤ 512) : Calls Try.prog 23 #[v, .int .i64 q] w (RListOut (wo q L 0) w) := by
  obtain ⟨i0, hi0, hz0, hz1, hz2⟩ := info_parts info51
  have HG := Lib.hid (fun (i : Nat) (m : Ml) (e : L[i]? = some m) => h.get e)
  have hv := own_slice h
  obtain ⟨p, c, rfl⟩ := hv
  have hown0 := own_empty w w.heap.size (Nat.le_refl _)
  have hB0 : Below w.heap.size w (w.alloc (.cells #[] 51)) := (Below.refl _ w).alloc (Nat.le_refl _) _
  clear h
  generalize hN : L.length = n at *
  have HN := Lib.hid hN
  clear hN
  go_enter Try.func23, Try.ntmps23
  go_wp2
  go_loopw [5, 10] (fun o i wr => ∃ k : Nat, i = .int .i64 k ∧ k ≤ n ∧ RefAt w.heap.size wr o (wo q (L.take k) 0) ∧ Below w.heap.size w wr) (fun _ i _ => n - (intOf i).toNat)
  case atStart => exact ⟨0, rfl, Nat.zero_le _, hown0, hB0⟩
  case round =>
    obtain ⟨k, rfl, hk, hr, hB⟩ := hrel
    obtain ⟨po, co, rfl⟩ := own_slice hr
    by_cases hlt : k < n
    · obtain ⟨m, hm⟩ : ∃ m, L[k]? = some m := ⟨_, List.getElem?_eq_getElem (by rw [HN.out]; exact hlt)⟩
      have htk : L.take (k + 1) = L.take k ++ [m] := take_succ hm
      have hlk : (L.take k).length = k := by rw [List.length_take, HN.out]; omega
      have hws := wo_snoc q m (L.take k) 0
      rw [← htk, hlk] at hws
      have hwl : (wo q (L.take k) 0).length ≤ k := by
        have : ∀ (A : List Ml) (i : Nat), (wo q A i).length ≤ A.length := by
          intro A
          induction A with
          | nil => intro i; simp [wo]
          | cons a r ih => intro i; simp only [wo]; split <;> (have := ih (i + 1); simp; omega)
        have := this (L.take k) 0
        omega
      by_cases hkq : (k : Int) = q
      · have hd : decide ((k : Int) = q) = true := by simp [hkq]
        subst hkq
        go_wp2
        go_roundw
        case rel =>
          refine ⟨k + 1, by go_num, by omega, ?_, hB⟩
          rw [hws, if_pos (by simp), List.append_nil]
          exact hr
        case measure => simp [intOf]; omega
      · have hd : decide ((k : Int) = q) = false := by simp [hkq]
        obtain ⟨g, c', hv, hgN, hgl, y0, y1, y2⟩ := HG.out k m hm
        cases hv
        have y0 := ((bcell hB).1 _ _ hgl).trans y0
        have y1 := ((bcell hB).1 _ _ hgl).trans y1
        have y2 := ((bcell hB).1 _ _ hgl).trans y2
        have HR := Lib.hid hr; have HB := Lib.hid hB; have HW := Lib.hid hws
        obtain ⟨ma, mb, ms⟩ := m
        simp only at y0 y1 y2
        have hown := HR.out
        unfold RefAt at hown
        have hsz := HB.out.size
        clear hr hB hws hm htk
        generalize hA : wo q (L.take k) 0 = A at *
        generalize hAL : A.length = al at *
        go_wp2_with (at_builtin; refine wpList_append_lies _ (by rfl) _ _ 44 (by rfl) w.heap.size 51 i0 _ 3 24 Try.underlying44 hi0 hz0 hz1 hz2 rfl (by omega) _ al (rcells A) (by rfl) (World.ownsRow.alloc hown _) ⟨wr.heap.size, 0, none⟩ 1 1 [.int .u32 ma, .int .u32 mb, .string ⟨ms.toArray⟩] (by rfl) (by rfl) (World.news_of_block (cs := #[.int .u32 ma, .int .u32 mb, .string ⟨ms.toArray⟩]) (t := 51) (fr := (0, 0)) (heap_alloc_new wr _)) (by simp [Value.oneCell']) (by omega) (by unfold maxLen; omega) (by omega) (by simp; omega) (wr.heap.size + 1) (by simp) ?_; intro gg cap w4 hown4 hgrow hat hlt4; have HO4 := Lib.hid hown4; have HG4 := Lib.hid hgrow; clear hown4 hgrow)
        go_roundw
        case rel =>
          have hr := HR.out
          subst hAL
          obtain ⟨r1, r2⟩ := RefAt.snoc (m := ⟨ma, mb, ms⟩) HB.out hr HO4.out HG4.out
          refine ⟨k + 1, by go_num, by omega, ?_, r2⟩
          rw [HW.out, if_neg (by simpa using hkq)]
          exact r1
        case measure => simp [intOf]; omega
    · have hkn : k = n := by omega
      subst hkn
      have hall : L.take k = L := List.take_of_length_le (by rw [HN.out]; exact Nat.le_refl _)
      go_wp2
      go_ret
      refine ⟨.slice po (wo q (L.take k) 0).length co, rfl, ?_, hB⟩
      rw [hall] at hr ⊢
      exact hr
/-- Mails but an end's. -/
def keepM (z : Int) (m : Ml) : Bool := !decide (m.a = z) && !decide (m.b = z)
set_option maxRecDepth 100000 in
set_option maxHeartbeats 4000000 in
theorem c24 (v : Value) (L : List Ml) (N : Nat) (z : Int) (w : World) (h : RefAt N w v L) (hL : L.length ≤ 512) : Calls Try.prog 24 #[v, .int .u32 z] w (RListOut (L.filter (keepM z)) w) := by
  obtain ⟨i0, hi0, hz0, hz1, hz2⟩ := info_parts info51
  have HG := Lib.hid (fun (i : Nat) (m : Ml) (e : L[i]? = some m) => h.get e)
  have hv := own_slice h
  obtain ⟨p, c, rfl⟩ := hv
  have hown0 := own_empty w w.heap.size (Nat.le_refl _)
  have hB0 : Below w.heap.size w (w.alloc (.cells #[] 51)) := (Below.refl _ w).alloc (Nat.le_refl _) _
  clear h
  generalize hN : L.length = n at *
  have HN := Lib.hid hN
  clear hN
  go_enter Try.func24, Try.ntmps24
  go_wp2
  go_loopw [5, 10] (fun o i wr => ∃ k : Nat, i = .int .i64 k ∧ k ≤ n ∧ RefAt w.heap.size wr o ((L.take k).filter (keepM z)) ∧ Below w.heap.size w wr) (fun _ i _ => n - (intOf i).toNat)
  case atStart => exact ⟨0, rfl, Nat.zero_le _, hown0, hB0⟩
  case round =>
    obtain ⟨k, rfl, hk, hr, hB⟩ := hrel
    obtain ⟨po, co, rfl⟩ := own_slice hr
    by_cases hlt : k < n
    · obtain ⟨m, hm⟩ : ∃ m, L[k]? = some m := ⟨_, List.getElem?_eq_getElem (by rw [HN.out]; exact hlt)⟩
      have htk : L.take (k + 1) = L.take k ++ [m] := take_succ hm
      have hlk : (L.take k).length = k := by rw [List.length_take, HN.out]; omega
      have hws : (L.take (k + 1)).filter (keepM z) = (L.take k).filter (keepM z) ++ [m].filter (keepM z) := by rw [htk, List.filter_append]
      have hwl : ((L.take k).filter (keepM z)).length ≤ k := by
        have := List.length_filter_le (keepM z) (L.take k)
        omega
      obtain ⟨g, c', hv, hgN, hgl, y0, y1, y2⟩ := HG.out k m hm
      cases hv
      have y0 := ((bcell hB).1 _ _ hgl).trans y0
      have y1 := ((bcell hB).1 _ _ hgl).trans y1
      have y2 := ((bcell hB).1 _ _ hgl).trans y2
      have HR := Lib.hid hr; have HB := Lib.hid hB; have HW := Lib.hid hws
      obtain ⟨ma, mb, ms⟩ := m
      simp only at y0 y1 y2
      have hown := HR.out
      unfold RefAt at hown
      have hsz := HB.out.size
      clear hr hB hws hm htk
      generalize hA : (L.take k).filter (keepM z) = A at *
      generalize hAL : A.length = al at *
      by_cases ha : ma = z
      · have hd : decide (ma = z) = true := by simp [ha]
        go_wp2
        go_roundw
        case rel =>
          refine ⟨k + 1, by go_num, by omega, ?_, HB.out⟩
          rw [HW.out]
          have : [(⟨ma, mb, ms⟩ : Ml)].filter (keepM z) = [] := by simp [keepM, ha]
          rw [this, List.append_nil]
          exact HR.out
        case measure => simp [intOf]; omega
      · have hd : decide (ma = z) = false := by simp [ha]
        by_cases hb : mb = z
        · have hd2 : decide (mb = z) = true := by simp [hb]
          go_wp2
          go_roundw
          case rel =>
            refine ⟨k + 1, by go_num, by omega, ?_, HB.out⟩
            rw [HW.out]
            have : [(⟨ma, mb, ms⟩ : Ml)].filter (keepM z) = [] := by simp [keepM, hb]
            rw [this, List.append_nil]
            exact HR.out
          case measure => simp [intOf]; omega
        · have hd2 : decide (mb = z) = false := by simp [hb]
          have hd3 : (mb != z) = true := by simp [hb]
          have hd4 : (ma != z) = true := by simp [ha]
          go_wp2_with (at_builtin; refine wpList_append_lies _ (by rfl) _ _ 44 (by rfl) w.heap.size 51 i0 _ 3 24 Try.underlying44 hi0 hz0 hz1 hz2 rfl (by omega) _ al (rcells A) (by rfl) (World.ownsRow.alloc hown _) ⟨wr.heap.size, 0, none⟩ 1 1 [.int .u32 ma, .int .u32 mb, .string ⟨ms.toArray⟩] (by rfl) (by rfl) (World.news_of_block (cs := #[.int .u32 ma, .int .u32 mb, .string ⟨ms.toArray⟩]) (t := 51) (fr := (0, 0)) (heap_alloc_new wr _)) (by simp [Value.oneCell']) (by omega) (by unfold maxLen; omega) (by omega) (by simp; omega) (wr.heap.size + 1) (by simp) ?_; intro gg cap w4 hown4 hgrow hat hlt4; have HO4 := Lib.hid hown4; have HG4 := Lib.hid hgrow; clear hown4 hgrow)
          go_roundw
          case rel =>
            have hr := HR.out
            subst hAL
            obtain ⟨r1, r2⟩ := RefAt.snoc (m := ⟨ma, mb, ms⟩) HB.out hr HO4.out HG4.out
            refine ⟨k + 1, by go_num, by omega, ?_, r2⟩
            rw [HW.out]
            have : [(⟨ma, mb, ms⟩ : Ml)].filter (keepM z) = [⟨ma, mb, ms⟩] := by simp [keepM, ha, hb]
            rw [this]
            exact r1
          case measure => simp [intOf]; omega
    · have hkn : k = n := by omega
      subst hkn
      have hall : L.take k = L := List.take_of_length_le (by rw [HN.out]; exact Nat.le_refl _)
      go_wp2
      go_ret
      refine ⟨.slice po ((L.take k).filter (keepM z)).length co, rfl, ?_, hB⟩
      rw [hall] at hr ⊢
      exact hr
end Go.Proofs.NT
