/- Proved: two acts that read alike are the same, by the document's SameAct; each theorem says its own conditions. -/
import Derived.Test.YtojfppkibmmmdaaDoorSd
import Derived.Deep.QuietTactic
import Derived.BigQuiet
import Derived.Laws.StructEq
import Derived.Laws.IdiomStrings
import Derived.Lib.BufferRead
set_option linter.unusedVariables false
set_option linter.unusedSimpArgs false
namespace Go.Proofs.SA
open Go.RowKit
def St (l : List Nat) : ByteArray := ⟨(l.map UInt8.ofNat).toArray⟩
theorem conv_byt {ok : Nat → Prop} {w : World} {v : Value} {l : List Nat} (h : BytIs ok w v l) (hb : ∀ x ∈ l, x < 256) : (convert 22 9 v).run Tryd.prog w = .ok (.string (St l)) w := by
  rcases h with ⟨c, rfl, rfl⟩ | ⟨b, o, cap, rfl, h1, h2⟩
  · rw [Lib.run_convert_nil_bytes w 22 9 5 c Tryd.underlying22 Tryd.underlying5 Tryd.underlying9]
    rfl
  · have h := run_convert_bytes_back (P := Tryd.prog) w 22 9 5 ⟨b, o, none⟩ cap (l.map UInt8.ofNat) Tryd.underlying22 Tryd.underlying5 Tryd.underlying9 (fun j hj => by
      rw [List.length_map] at hj
      refine h2 j _ ?_
      have hx := hb l[j] (List.getElem_mem hj)
      simp [B, hj, UInt8.toNat_ofNat', Nat.mod_eq_of_lt hx])
    rw [List.length_map] at h
    exact h
noncomputable def neqV (y : Nat) : Bool := match Go.Ai.pureRun Tryd.prog (binOp .neq 61 (.agg (val y).toArray) (.agg (val y).toArray)) with
  | some (.bool false) => true
  | _ => false
theorem neq_all : ((List.range 128).all fun y => neqV y) = true := by kernel_rfl
theorem neq_val (y : Nat) (h : y < 128) (w : World) : (binOp .neq 61 (.agg (val y).toArray) (.agg (val y).toArray)).run Tryd.prog w = .ok (.bool false) w := by
  have hg : neqV y = true := List.all_eq_true.1 neq_all y (List.mem_range.2 h)
  unfold neqV at hg
  split at hg
  · rename_i e
    exact Go.Ai.pureRun_spec _ _ e w
  · cases hg
theorem keep_pair {ok ok' : Nat → Prop} {W : World} {v u : Value} {l : List Nat} (h : KeepIs ok W v l) (h' : KeepIs ok' W u l) : ∃ (n : Nat) (p q : Option Addr) (c d : Nat) (f : Nat → Int), v = .slice p n c ∧ u = .slice q n d ∧ n ≤ 3 ∧ ∀ i, i < n → ∃ b b', p = some ⟨b, 0, none⟩ ∧ q = some ⟨b', 0, none⟩ ∧ b < W.heap.size ∧ b' < W.heap.size ∧ W.cell? ⟨b, i, none⟩ = some (.int .i64 (f i)) ∧ W.cell? ⟨b', i, none⟩ = some (.int .i64 (f i)) := by
  rcases h with ⟨rfl, rfl⟩ | ⟨a, b, c, k, rfl, rfl, _, hk, h0, h1, h2⟩
  · rcases h' with ⟨_, rfl⟩ | ⟨_, _, _, _, e, _⟩
    · exact ⟨0, _, _, _, _, fun _ => 0, rfl, rfl, by omega, fun i hi => by omega⟩
    · cases e
  · rcases h' with ⟨e, _⟩ | ⟨a', b', c', k', e, rfl, _, hk', h0', h1', h2'⟩
    · cases e
    · cases e
      refine ⟨3, _, _, _, _, fun i => match i with | 0 => a | 1 => b | _ => c, rfl, rfl, by omega, fun i hi => ⟨_, _, rfl, rfl, hk, hk', ?_⟩⟩
      rcases (by omega : i = 0 ∨ i = 1 ∨ i = 2) with rfl | rfl | rfl
      · exact ⟨h0, h0'⟩
      · exact ⟨h1, h1'⟩
      · exact ⟨h2, h2'⟩
theorem fld_pair {ok ok' : Nat → Prop} {W : World} {v u : Value} {o : Option Nat} (h : FldIs ok W v o) (h' : FldIs ok' W u o) : ∃ (n : Nat) (p q : Option Addr), v = .slice p n n ∧ u = .slice q n n ∧ n ≤ 1 ∧ (0 < n → ∃ y b b' x0 x1 x2 x3, y < 128 ∧ (val y).toArray = #[x0, x1, x2, x3] ∧ p = some ⟨b, 0, none⟩ ∧ q = some ⟨b', 0, none⟩ ∧ b < W.heap.size ∧ b' < W.heap.size ∧
    W.cell? ⟨b, 0, none⟩ = some x0 ∧ W.cell? ⟨b, 1, none⟩ = some x1 ∧ W.cell? ⟨b, 2, none⟩ = some x2 ∧ W.cell? ⟨b, 3, none⟩ = some x3 ∧ W.cell? ⟨b', 0, none⟩ = some x0 ∧ W.cell? ⟨b', 1, none⟩ = some x1 ∧ W.cell? ⟨b', 2, none⟩ = some x2 ∧ W.cell? ⟨b', 3, none⟩ = some x3) := by
  cases o with
  | none =>
    have h : v = .slice none 0 0 := h
    have h' : u = .slice none 0 0 := h'
    exact ⟨0, none, none, h, h', by omega, fun h => by omega⟩
  | some y =>
    obtain ⟨hy, b, rfl, _, hb, hc⟩ := h
    obtain ⟨_, b', rfl, _, hb', hc'⟩ := h'
    refine ⟨1, _, _, rfl, rfl, by omega, fun _ => ?_⟩
    have hv : ∃ x0 x1 x2 x3, val y = [x0, x1, x2, x3] := by
      unfold val
      split <;> exact ⟨_, _, _, _, rfl⟩
    obtain ⟨x0, x1, x2, x3, e⟩ := hv
    rw [e] at hc hc'
    exact ⟨y, b, b', x0, x1, x2, x3, hy, by rw [e], rfl, rfl, hb, hb', hc 0 _ rfl, hc 1 _ rfl, hc 2 _ rfl, hc 3 _ rfl, hc' 0 _ rfl, hc' 1 _ rfl, hc' 2 _ rfl, hc' 3 _ rfl⟩
def Tru (w : World) (e : Ending) (w' : World) : Prop := e = .returned (.bool true) ∧ Below w.heap.size w w'
abbrev boxes (W : World) (a : PA) (v5 v6 v7 v8 v9 u5 u6 u7 u8 u9 : Value) : World := (W.alloc (.cells #[.int .u8 (a.kind : Int), .int .u32 (a.who : Int), .int .u32 (a.nn : Int), .int .u32 (a.kk : Int), .int .u8 (a.topic : Int), v5, v6, v7, v8, v9] 36)).alloc (.cells #[.int .u8 (a.kind : Int), .int .u32 (a.who : Int), .int .u32 (a.nn : Int), .int .u32 (a.kk : Int), .int .u8 (a.topic : Int), u5, u6, u7, u8, u9] 36)
set_option maxRecDepth 100000 in
set_option maxHeartbeats 4000000 in
theorem c10a (a : PA) (p5 q5 p6 q6 p8 q8 p9 q9 : Option Addr) (n5 l6 m6 l6' m6' l8 m8 l8' m8' n9 c9 d9 : Nat) (m7 m7' : Int) (s : ByteArray) (W : World)
    (hcv : ∀ W', Below W.heap.size W W' → (convert 22 9 (.slice p8 l8 m8)).run Tryd.prog W' = .ok (.string s) W') (hcv' : ∀ W', Below W.heap.size W W' → (convert 22 9 (.slice q8 l8' m8')).run Tryd.prog W' = .ok (.string s) W')
    (h9 : n9 ≤ 3) (f : Nat → Int) (hk : ∀ i, i < n9 → ∃ b b', p9 = some ⟨b, 0, none⟩ ∧ q9 = some ⟨b', 0, none⟩ ∧ b < W.heap.size ∧ b' < W.heap.size ∧ W.cell? ⟨b, i, none⟩ = some (.int .i64 (f i)) ∧ W.cell? ⟨b', i, none⟩ = some (.int .i64 (f i)))
    (h5 : n5 ≤ 1) (hf : 0 < n5 → ∃ y b b' x0 x1 x2 x3, y < 128 ∧ (val y).toArray = #[x0, x1, x2, x3] ∧ p5 = some ⟨b, 0, none⟩ ∧ q5 = some ⟨b', 0, none⟩ ∧ b < W.heap.size ∧ b' < W.heap.size ∧
      W.cell? ⟨b, 0, none⟩ = some x0 ∧ W.cell? ⟨b, 1, none⟩ = some x1 ∧ W.cell? ⟨b, 2, none⟩ = some x2 ∧ W.cell? ⟨b, 3, none⟩ = some x3 ∧ W.cell? ⟨b', 0, none⟩ = some x0 ∧ W.cell? ⟨b', 1, none⟩ = some x1 ∧ W.cell? ⟨b', 2, none⟩ = some x2 ∧ W.cell? ⟨b', 3, none⟩ = some x3)
    (C14 : ∀ W', Below W.heap.size W W' → Calls Tryd.prog 14 #[.agg #[.slice p6 l6 m6, .int .u64 m7], .agg #[.slice q6 l6' m6', .int .u64 m7']] W' (Tru W')) :
    Calls Tryd.prog 10 #[.agg #[.int .u8 (a.kind : Int), .int .u32 (a.who : Int), .int .u32 (a.nn : Int), .int .u32 (a.kk : Int), .int .u8 (a.topic : Int), .slice p5 n5 n5, .slice p6 l6 m6, .int .u64 m7, .slice p8 l8 m8, .slice p9 n9 c9], .agg #[.int .u8 (a.kind : Int), .int .u32 (a.who : Int), .int .u32 (a.nn : Int), .int .u32 (a.kk : Int), .int .u8 (a.topic : Int), .slice q5 n5 n5, .slice q6 l6' m6', .int .u64 m7', .slice q8 l8' m8', .slice q9 n9 d9]] W (Tru W) := by
  have hB0 : Below W.heap.size W (boxes W a (.slice p5 n5 n5) (.slice p6 l6 m6) (.int .u64 m7) (.slice p8 l8 m8) (.slice p9 n9 c9) (.slice q5 n5 n5) (.slice q6 l6' m6') (.int .u64 m7') (.slice q8 l8' m8') (.slice q9 n9 d9)) := b2 W _ _
  have cv := hcv _ hB0
  have cv' := hcv' _ hB0
  have HK := Lib.hid hk
  have HF := Lib.hid hf
  clear hcv hcv' hk hf
  go_enter Tryd.func10, Tryd.ntmps10
  go_wp2
  generalize hW0 : boxes W a (.slice p5 n5 n5) (.slice p6 l6 m6) (.int .u64 m7) (.slice p8 l8 m8) (.slice p9 n9 c9) (.slice q5 n5 n5) (.slice q6 l6' m6') (.int .u64 m7') (.slice q8 l8' m8') (.slice q9 n9 d9) = W0 at *
  have hl0 : W.heap.size + 1 < W0.heap.size := by rw [← hW0]; simp
  have e0 : W0.heap[W.heap.size]? = some (.cells #[.int .u8 (a.kind : Int), .int .u32 (a.who : Int), .int .u32 (a.nn : Int), .int .u32 (a.kk : Int), .int .u8 (a.topic : Int), .slice p5 n5 n5, .slice p6 l6 m6, .int .u64 m7, .slice p8 l8 m8, .slice p9 n9 c9] 36 (0, 0)) := by
    rw [← hW0]
    exact (((Below.refl _ (W.alloc _)).alloc (Nat.le_refl _) _).block _ (by simp)).trans (heap_alloc_new W _)
  have e1 : W0.heap[W.heap.size + 1]? = some (.cells #[.int .u8 (a.kind : Int), .int .u32 (a.who : Int), .int .u32 (a.nn : Int), .int .u32 (a.kk : Int), .int .u8 (a.topic : Int), .slice q5 n5 n5, .slice q6 l6' m6', .int .u64 m7', .slice q8 l8' m8', .slice q9 n9 d9] 36 (0, 0)) := by
    rw [← hW0]
    have h := heap_alloc_new (W.alloc (.cells #[.int .u8 (a.kind : Int), .int .u32 (a.who : Int), .int .u32 (a.nn : Int), .int .u32 (a.kk : Int), .int .u8 (a.topic : Int), .slice p5 n5 n5, .slice p6 l6 m6, .int .u64 m7, .slice p8 l8 m8, .slice p9 n9 c9] 36)) (.cells #[.int .u8 (a.kind : Int), .int .u32 (a.who : Int), .int .u32 (a.nn : Int), .int .u32 (a.kk : Int), .int .u8 (a.topic : Int), .slice q5 n5 n5, .slice q6 l6' m6', .int .u64 m7', .slice q8 l8' m8', .slice q9 n9 d9] 36)
    simpa using h
  have HE0 := Lib.hid (cell_of_heap e0)
  have HE1 := Lib.hid (cell_of_heap e1)
  have HB0 := Lib.hid hB0
  clear e0 e1 hB0 cv cv' hW0
  go_loopw [74] (fun i wr => ∃ k : Nat, i = .int .i64 k ∧ k ≤ n9 ∧ Below W0.heap.size W0 wr) (fun i _ => n9 - (intOf i).toNat)
  case atStart => exact ⟨0, rfl, Nat.zero_le _, Below.refl _ _⟩
  case round =>
    obtain ⟨k, rfl, hk, hB⟩ := hrel
    have x9 := ((bcell hB).1 _ 9 (by omega)).trans (HE0.out 9)
    have y9 := ((bcell hB).1 _ 9 hl0).trans (HE1.out 9)
    simp only [List.getElem?_toArray, List.getElem?_cons_succ, List.getElem?_cons_zero] at x9 y9
    have HB := Lib.hid hB
    clear hB
    by_cases hlt : k < n9
    · obtain ⟨b, b', rfl, rfl, hb, hb', r0, r1⟩ := HK.out k hlt
      have r0 := ((bcell HB.out).1 _ k (by have := HB0.out.size; omega)).trans (((bcell HB0.out).1 _ k hb).trans r0)
      have r1 := ((bcell HB.out).1 _ k (by have := HB0.out.size; omega)).trans (((bcell HB0.out).1 _ k hb').trans r1)
      go_wp2
      go_quiet (fail)
      go_wp2
      go_roundw
      case rel => exact ⟨k + 1, by go_num, hlt, below_drewN HB.out _⟩
      case measure => simp [intOf]; omega
    · have hB1 : Below W0.heap.size W0 wr := HB.out
      have x5 := ((bcell hB1).1 _ 5 (by omega)).trans (HE0.out 5)
      have y5 := ((bcell hB1).1 _ 5 hl0).trans (HE1.out 5)
      have x6 := ((bcell hB1).1 _ 6 (by omega)).trans (HE0.out 6)
      have y6 := ((bcell hB1).1 _ 6 hl0).trans (HE1.out 6)
      have x7 := ((bcell hB1).1 _ 7 (by omega)).trans (HE0.out 7)
      have y7 := ((bcell hB1).1 _ 7 hl0).trans (HE1.out 7)
      simp only [List.getElem?_toArray, List.getElem?_cons_succ, List.getElem?_cons_zero] at x5 y5 x6 y6 x7 y7
      have hl1 : W.heap.size + 1 < wr.heap.size := Nat.lt_of_lt_of_le hl0 hB1.size
      have hBW := Lib.hid (HB0.out.trans (hB1.mono HB0.out.size))
      clear hB1 x9 y9
      obtain ⟨wo, rfl⟩ : ∃ wo : World, wo = wr := ⟨_, rfl⟩
      go_wp2
      go_loopw [93] (fun i w2 => ∃ k : Nat, i = .int .i64 k ∧ k ≤ n5 ∧ Below wo.heap.size wo w2) (fun i _ => n5 - (intOf i).toNat)
      case atStart => exact ⟨0, rfl, Nat.zero_le _, Below.refl _ _⟩
      case round =>
        obtain ⟨j, rfl, hj, hB2⟩ := hrel
        have z5 := ((bcell hB2).1 _ 5 (by omega)).trans x5
        have t5 := ((bcell hB2).1 _ 5 hl1).trans y5
        have z6 := ((bcell hB2).1 _ 6 (by omega)).trans x6
        have t6 := ((bcell hB2).1 _ 6 hl1).trans y6
        have z7 := ((bcell hB2).1 _ 7 (by omega)).trans x7
        have t7 := ((bcell hB2).1 _ 7 hl1).trans y7
        have HB2 := Lib.hid hB2
        clear hB2 x5 y5 x6 y6 x7 y7
        by_cases hlt5 : j < n5
        · obtain ⟨y, b, b', x0, x1, x2, x3, hy, hv, rfl, rfl, hb, hb', r0, r1, r2, r3, s0, s1, s2, s3⟩ := HF.out (by omega)
          obtain rfl : j = 0 := by omega
          have hBx : Below W.heap.size W wr := hBW.out.trans (HB2.out.mono hBW.out.size)
          have r0 := ((bcell hBx).1 _ 0 hb).trans r0
          have r1 := ((bcell hBx).1 _ 1 hb).trans r1
          have r2 := ((bcell hBx).1 _ 2 hb).trans r2
          have r3 := ((bcell hBx).1 _ 3 hb).trans r3
          have s0 := ((bcell hBx).1 _ 0 hb').trans s0
          have s1 := ((bcell hBx).1 _ 1 hb').trans s1
          have s2 := ((bcell hBx).1 _ 2 hb').trans s2
          have s3 := ((bcell hBx).1 _ 3 hb').trans s3
          have hn := fun w => neq_val y hy w
          rw [hv] at hn
          clear hBx hv hy
          go_wp2
          go_quiet (fail)
          go_wp2
          go_roundw
          case rel => exact ⟨0 + 1, by go_num, by omega, below_drewN HB2.out _⟩
          case measure => simp [intOf]; omega
        · have hBx : Below W.heap.size W wr := hBW.out.trans (HB2.out.mono hBW.out.size)
          have K14 := C14 wr hBx
          have HX := Lib.hid hBx
          clear hBx
          go_wp2_with (go_at_call 14; refine K14.mono ?_; rintro e w3 ⟨rfl, hB3⟩)
          go_ret
          exact ⟨rfl, btrans HX.out hB3⟩
end Go.Proofs.SA
