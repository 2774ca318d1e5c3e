/- Proved: what 'do' comes to at the other kinds of operation. Each theorem says its own conditions. -/
import Derived.Test.YtccmlmepcgcojaaDu
set_option linter.unusedVariables false
set_option linter.unusedSimpArgs false
namespace Go.Proofs.DU
open Go.RowKit
variable {n0 bd : Nat} {G : Nat → Prop} {v : Value} {L : List (Int × Int)}
theorem Both.doOut {w w1 w' : World} (h : Both n0 bd G v L w) (hn : n0 ≤ w.heap.size) (hB1 : Below w.heap.size w w1) (hB : Below w1.heap.size w1 w') : DoOut n0 bd L.length w (.returned (.tuple #[.bool true, v])) w' := by
  have hB2 : Below w.heap.size w w' := hB1.trans (hB.mono hB1.size)
  exact ⟨v, G, L, rfl, h.below hB2, Turn.of hB2, by omega⟩
def AtIs (L : List (Int × Int)) (k : Int) (a y : Value) : Prop := (∃ t, (k, t) ∈ L ∧ a = .int .u64 t ∧ y = .bool true) ∨ ((∀ x ∈ L, x.1 ≠ k) ∧ a = .int .u64 0 ∧ y = .bool false)
theorem c17n (k : Int) (w : World) (h : D G bd L w) : Calls Try.prog 17 #[.pointer (some ⟨bd, 0, none⟩), .int .u64 k] w fun e w' => w = w' ∧ ∃ a y, e = .returned (.tuple #[a, y]) ∧ AtIs L k a y := by
  refine (c17 k w h).mono ?_
  rintro e w' ⟨rfl, ⟨t, h1, rfl⟩ | ⟨h1, rfl⟩⟩
  · exact ⟨rfl, _, _, rfl, .inl ⟨t, h1, rfl, rfl⟩⟩
  · exact ⟨rfl, _, _, rfl, .inr ⟨h1, rfl, rfl⟩⟩
theorem one_at {k a b : Int} (hn : (L.map (·.1)).Nodup) (h1 : (k, a) ∈ L) (h2 : (k, b) ∈ L) : a = b := by
  induction L with
  | nil => cases h1
  | cons x xs ih =>
    rw [List.map_cons, List.nodup_cons] at hn
    rcases List.mem_cons.1 h1 with e1 | e1
    · rcases List.mem_cons.1 h2 with e2 | e2
      · rw [← e2] at e1; exact congrArg Prod.snd e1
      · subst e1; exact absurd (List.mem_map.2 ⟨_, e2, rfl⟩) hn.1
    · rcases List.mem_cons.1 h2 with e2 | e2
      · subst e2; exact absurd (List.mem_map.2 ⟨_, e1, rfl⟩) hn.1
      · exact ih hn.2 e1 e2
set_option maxRecDepth 100000 in
set_option maxHeartbeats 4000000 in
theorem do_e (e k t : Int) (w : World) (h : Both n0 bd G v L w) (hn : n0 ≤ w.heap.size) (hL : L.length < 1900) (e0 : e ≠ 0) (e1 : e ≠ 1) (e2 : e ≠ 2) : Calls Try.prog 14 #[.pointer (some ⟨bd, 0, none⟩), v, .agg #[.int .i64 e, .int .u64 k, .int .u64 t]] w (DoOut n0 bd L.length w) := by
  have hB : Below w.heap.size w (w.alloc (.cells #[.int .i64 e, .int .u64 k, .int .u64 t] 36)) := (Below.refl _ w).alloc (Nat.le_refl _) _
  have h0 := h.below hB
  have hlt : w.heap.size < (w.alloc (.cells #[.int .i64 e, .int .u64 k, .int .u64 t] 36)).heap.size := by simp
  have x0 : (w.alloc (.cells #[.int .i64 e, .int .u64 k, .int .u64 t] 36)).cell? ⟨w.heap.size, 0, none⟩ = some (.int .i64 e) := cell_of_heap (heap_alloc_new w (.cells #[.int .i64 e, .int .u64 k, .int .u64 t] 36)) 0
  have x1 : (w.alloc (.cells #[.int .i64 e, .int .u64 k, .int .u64 t] 36)).cell? ⟨w.heap.size, 1, none⟩ = some (.int .u64 k) := cell_of_heap (heap_alloc_new w (.cells #[.int .i64 e, .int .u64 k, .int .u64 t] 36)) 1
  have K17 := Lib.hid (c17n k _ h0.d)
  have HND := Lib.hid h0.d.nodup
  have HO := Lib.hid (fun w' hB' => h.doOut (w' := w') hn hB hB')
  have HG := Lib.hid (fun (i : Nat) (m : Int × Int) (e : L[i]? = some m) => h0.ref.get e)
  have hs := own_slice h.ref
  obtain ⟨p, c, rfl⟩ := hs
  clear h h0
  generalize hN : L.length = n at *
  have HN := Lib.hid hN
  clear hN
  go_enter Try.func14, Try.ntmps14
  go_wp2_with (go_at_call 17; (with_reducible refine K17.out.mono ?_); rintro e w2 ⟨rfl, ea, ey, rfl, ho⟩)
  have HB := Lib.hid hB
  clear hB
  generalize hw1 : w.alloc (.cells #[.int .i64 e, .int .u64 k, .int .u64 t] 36) = w1 at *
  rcases ho with ⟨t', hm', rfl, rfl⟩ | ⟨hno, rfl, rfl⟩
  · have HM := Lib.hid hm'
    clear hm'
    go_loopw [73] (fun i wr => ∃ j : Nat, i = .int .i64 j ∧ j ≤ n ∧ Below w1.heap.size w1 wr ∧ (∀ (m : Nat) (x : Int × Int), m < j → L[m]? = some x → x.1 ≠ k)) (fun i _ => n - (intOf i).toNat)
    case atStart => exact ⟨0, rfl, Nat.zero_le _, Below.refl _ _, fun m x hm => by omega⟩
    case round =>
      obtain ⟨j, rfl, hj, hB', hall⟩ := hrel
      by_cases hlj : j < n
      · obtain ⟨m, hm⟩ : ∃ m, L[j]? = some m := ⟨_, List.getElem?_eq_getElem (by rw [HN.out]; exact hlj)⟩
        obtain ⟨g, c', hv, _, hgl, y0, y1⟩ := HG.out j m hm
        cases hv
        have y0 := ((bcell hB').1 _ _ hgl).trans y0
        have y1 := ((bcell hB').1 _ _ hgl).trans y1
        have x1 := ((bcell hB').1 _ _ hlt).trans x1
        have HB2 := Lib.hid hB'
        have HALL := Lib.hid hall
        have HE := Lib.hid hm
        have hsz := hB'.size
        obtain ⟨ma, mb⟩ := m
        simp only at y0 y1
        have hB3 : Below w1.heap.size w1 (wr.alloc (.cells #[.int .u64 ma, .int .u64 mb] 43)) := hB'.alloc hsz _
        have hlw : w.heap.size < wr.heap.size := by omega
        have z1 : (wr.alloc (.cells #[.int .u64 ma, .int .u64 mb] 43)).cell? ⟨w.heap.size, 1, none⟩ = some (.int .u64 k) := (World.cell?_of_block (a := ⟨w.heap.size, 1, none⟩) (Below.heap_alloc _ _ _ hlw)).trans x1
        have HB3 := Lib.hid hB3
        clear hB' hall hm hB3
        by_cases ha : ma = k
        · have et : mb = t' := by
            subst ha
            exact one_at HND.out (List.mem_of_getElem? HE.out) HM.out
          subst et
          have hd : (ma == k) = true := by simp [ha]
          go_wp2
          go_ret2
          exact HO.out _ (by have := HB3.out; rw [ha] at this; exact this)
        · have hd : (ma == k) = false := by simp [ha]
          go_wp2
          all_goals go_roundw
          all_goals first
            | (simp [intOf]; omega)
            | (refine ⟨j + 1, by go_num, by omega, HB3.out, fun m x hm hx => ?_⟩
               by_cases em : m = j
               · subst em
                 rw [HE.out] at hx
                 cases hx
                 exact ha
               · exact HALL.out m x (by omega) hx)
      · have hjn : j = n := by omega
        subst hjn
        obtain ⟨m, hm⟩ := List.getElem?_of_mem HM.out
        exact absurd rfl (hall m _ (by have := (List.getElem?_eq_some_iff.1 hm).1; have := HN.out; omega) hm)
  · have HM := Lib.hid hno
    clear hno
    go_loopw [73] (fun i wr => ∃ j : Nat, i = .int .i64 j ∧ j ≤ n ∧ Below w1.heap.size w1 wr ∧ (∀ (m : Nat) (x : Int × Int), m < j → L[m]? = some x → x.1 ≠ k)) (fun i _ => n - (intOf i).toNat)
    case atStart => exact ⟨0, rfl, Nat.zero_le _, Below.refl _ _, fun m x hm => by omega⟩
    case round =>
      obtain ⟨j, rfl, hj, hB', hall⟩ := hrel
      by_cases hlj : j < n
      · obtain ⟨m, hm⟩ : ∃ m, L[j]? = some m := ⟨_, List.getElem?_eq_getElem (by rw [HN.out]; exact hlj)⟩
        obtain ⟨g, c', hv, _, hgl, y0, y1⟩ := HG.out j m hm
        cases hv
        have y0 := ((bcell hB').1 _ _ hgl).trans y0
        have y1 := ((bcell hB').1 _ _ hgl).trans y1
        have x1 := ((bcell hB').1 _ _ hlt).trans x1
        have HB2 := Lib.hid hB'
        have HALL := Lib.hid hall
        have HE := Lib.hid hm
        have hsz := hB'.size
        obtain ⟨ma, mb⟩ := m
        simp only at y0 y1
        have hB3 : Below w1.heap.size w1 (wr.alloc (.cells #[.int .u64 ma, .int .u64 mb] 43)) := hB'.alloc hsz _
        have hlw : w.heap.size < wr.heap.size := by omega
        have z1 : (wr.alloc (.cells #[.int .u64 ma, .int .u64 mb] 43)).cell? ⟨w.heap.size, 1, none⟩ = some (.int .u64 k) := (World.cell?_of_block (a := ⟨w.heap.size, 1, none⟩) (Below.heap_alloc _ _ _ hlw)).trans x1
        have HB3 := Lib.hid hB3
        clear hB' hall hm hB3
        by_cases ha : ma = k
        · exact absurd ha (HM.out _ (List.mem_of_getElem? HE.out))
        · have hd : (ma == k) = false := by simp [ha]
          go_wp2
          all_goals go_roundw
          all_goals first
            | (simp [intOf]; omega)
            | (refine ⟨j + 1, by go_num, by omega, HB3.out, fun m x hm hx => ?_⟩
               by_cases em : m = j
               · subst em
                 rw [HE.out] at hx
                 cases hx
                 exact ha
               · exact HALL.out m x (by omega) hx)
      · have hjn : j = n := by omega
        subst hjn
        go_wp2
        go_ret2
        exact HO.out _ hB'
/-- 'do', at every kind: both lists hold the same after it. -/
theorem does (e k t : Int) (w : World) (h : Both n0 bd G v L w) (hn : n0 ≤ w.heap.size) (hL : L.length < 1900) : Calls Try.prog 14 #[.pointer (some ⟨bd, 0, none⟩), v, .agg #[.int .i64 e, .int .u64 k, .int .u64 t]] w (DoOut n0 bd L.length w) := by
  by_cases e0 : e = 0
  · subst e0; exact do_0 k t w h hn hL
  · by_cases e1 : e = 1
    · subst e1; exact do_1 k t w h hn hL
    · by_cases e2 : e = 2
      · subst e2; exact do_2 k t w h hn hL
      · exact do_e e k t w h hn hL e0 e1 e2
end Go.Proofs.DU
