/- Proved: what 'do' comes to, at each kind of operation. Each theorem says its own conditions. -/
import Derived.Test.YtccmlmepcgcojaaDt
set_option linter.unusedVariables false
set_option linter.unusedSimpArgs false
namespace Go.Proofs.DU
open Go.RowKit
variable {n0 bd : Nat} {G : Nat → Prop} {v : Value} {L : List (Int × Int)}
theorem Tk.det {now : Int} {L L1 L2 : List (Int × Int)} {k1 k2 : List Int} (h : Tk now L k1 L1) (k : Tk now L k2 L2) : k1 = k2 ∧ L1 = L2 := by
  induction h generalizing k2 L2 with
  | stop h =>
    cases k with
    | stop _ => exact ⟨rfl, rfl⟩
    | go h1 h2 _ => have := h _ h1; omega
  | go h1 h2 t ih =>
    cases k with
    | stop h => have := h _ h1; omega
    | go h3 h4 t2 =>
      have e := h1.uniq h3
      subst e
      obtain ⟨e1, e2⟩ := ih t2
      exact ⟨by rw [e1], e2⟩
theorem Tk.len {now : Int} {L L1 : List (Int × Int)} {ks : List Int} (h : Tk now L ks L1) : ks.length ≤ L.length ∧ L1.length ≤ L.length := by
  induction h with
  | stop h => exact ⟨Nat.zero_le _, Nat.le_refl _⟩
  | go h1 h2 t ih =>
    rename_i L L' x ks
    have h3 : (cutL L x.1).length < L.length := by
      unfold cutL
      exact List.length_filter_lt_length_iff_exists.2 ⟨x, h1.1, by simp⟩
    simp
    omega
theorem turn_cell {w w2 : World} {b o : Nat} (h : Turn G w w2) (hb : b < w.heap.size) (hn : ¬ G b) : w2.cell? ⟨b, o, none⟩ = w.cell? ⟨b, o, none⟩ := World.cell?_of_block (a := ⟨b, o, none⟩) (h.block b hb hn)
set_option maxRecDepth 100000 in
set_option maxHeartbeats 1000000 in
theorem do_0 (k t : Int) (w : World) (h : Both n0 bd G v L w) (hn : n0 ≤ w.heap.size) (hL : L.length < 1900) : Calls Try.prog 14 #[.pointer (some ⟨bd, 0, none⟩), v, .agg #[.int .i64 0, .int .u64 k, .int .u64 t]] w (DoOut n0 bd L.length w) := by
  have hB : Below w.heap.size w (w.alloc (.cells #[.int .i64 0, .int .u64 k, .int .u64 t] 36)) := (Below.refl _ w).alloc (Nat.le_refl _) _
  have h0 := h.below hB
  have hng : ¬ G w.heap.size := fun x => by have := h.g1 _ x; omega
  have hlt : w.heap.size < (w.alloc (.cells #[.int .i64 0, .int .u64 k, .int .u64 t] 36)).heap.size := by simp
  have hn1 : n0 ≤ (w.alloc (.cells #[.int .i64 0, .int .u64 k, .int .u64 t] 36)).heap.size := by simp; omega
  have HNG := Lib.hid hng
  have H0 := Lib.hid h0; have HB := Lib.hid hB
  have hs := own_slice h.ref
  have x0 : (w.alloc (.cells #[.int .i64 0, .int .u64 k, .int .u64 t] 36)).cell? ⟨w.heap.size, 0, none⟩ = some (.int .i64 0) := cell_of_heap (heap_alloc_new w (.cells #[.int .i64 0, .int .u64 k, .int .u64 t] 36)) 0
  have x1 : (w.alloc (.cells #[.int .i64 0, .int .u64 k, .int .u64 t] 36)).cell? ⟨w.heap.size, 1, none⟩ = some (.int .u64 k) := cell_of_heap (heap_alloc_new w (.cells #[.int .i64 0, .int .u64 k, .int .u64 t] 36)) 1
  have x2 : (w.alloc (.cells #[.int .i64 0, .int .u64 k, .int .u64 t] 36)).cell? ⟨w.heap.size, 2, none⟩ = some (.int .u64 t) := cell_of_heap (heap_alloc_new w (.cells #[.int .i64 0, .int .u64 k, .int .u64 t] 36)) 2
  have K9 := Lib.hid (c9 k t _ h0.d (by omega))
  have hset : (setL L k t).length ≤ L.length + 1 := by
    unfold setL
    have : (cutL L k).length ≤ L.length := List.length_filter_le _ _
    simp; omega
  obtain ⟨p, c, rfl⟩ := hs
  clear h h0 hB hng
  go_enter Try.func14, Try.ntmps14
  go_wp2_with (first
    | (go_at_call 9; (with_reducible refine K9.out.mono ?_); rintro e w2 ⟨rfl, G2, hG2, hd2, ht2⟩; have z1 := (turn_cell (o := 1) ht2 hlt HNG.out).trans x1; have z2 := (turn_cell (o := 2) ht2 hlt HNG.out).trans x2; have HR2 := Lib.hid (H0.out.ref_turn ht2); have HG2 := Lib.hid hG2; have HD2 := Lib.hid hd2; have HT2 := Lib.hid ht2; clear hG2 hd2 ht2)
    | (go_at_call 21; (with_reducible refine (c21 _ L 0 k t _ HR2.out (by omega)).mono ?_); rintro e w3 ⟨v3, rfl, hr3, hB3⟩; have HR3 := Lib.hid hr3; have HB3 := Lib.hid hB3; clear hr3 hB3))
  go_ret2
  obtain ⟨r1, r2⟩ := H0.out.set hn1 HG2.out HD2.out HT2.out HR3.out HB3.out
  exact ⟨_, _, setL L k t, rfl, r1, (Turn.of (F := (n0 ≤ ·)) HB.out).trans r2 fun _ _ h => h, hset⟩
set_option maxRecDepth 100000 in
set_option maxHeartbeats 1000000 in
theorem do_1 (k t : Int) (w : World) (h : Both n0 bd G v L w) (hn : n0 ≤ w.heap.size) (hL : L.length < 1900) : Calls Try.prog 14 #[.pointer (some ⟨bd, 0, none⟩), v, .agg #[.int .i64 1, .int .u64 k, .int .u64 t]] w (DoOut n0 bd L.length w) := by
  have hB : Below w.heap.size w (w.alloc (.cells #[.int .i64 1, .int .u64 k, .int .u64 t] 36)) := (Below.refl _ w).alloc (Nat.le_refl _) _
  have h0 := h.below hB
  have hng : ¬ G w.heap.size := fun x => by have := h.g1 _ x; omega
  have hlt : w.heap.size < (w.alloc (.cells #[.int .i64 1, .int .u64 k, .int .u64 t] 36)).heap.size := by simp
  have hn1 : n0 ≤ (w.alloc (.cells #[.int .i64 1, .int .u64 k, .int .u64 t] 36)).heap.size := by simp; omega
  have HNG := Lib.hid hng
  have H0 := Lib.hid h0; have HB := Lib.hid hB
  have hs := own_slice h.ref
  have x0 : (w.alloc (.cells #[.int .i64 1, .int .u64 k, .int .u64 t] 36)).cell? ⟨w.heap.size, 0, none⟩ = some (.int .i64 1) := cell_of_heap (heap_alloc_new w (.cells #[.int .i64 1, .int .u64 k, .int .u64 t] 36)) 0
  have x1 : (w.alloc (.cells #[.int .i64 1, .int .u64 k, .int .u64 t] 36)).cell? ⟨w.heap.size, 1, none⟩ = some (.int .u64 k) := cell_of_heap (heap_alloc_new w (.cells #[.int .i64 1, .int .u64 k, .int .u64 t] 36)) 1
  have x2 : (w.alloc (.cells #[.int .i64 1, .int .u64 k, .int .u64 t] 36)).cell? ⟨w.heap.size, 2, none⟩ = some (.int .u64 t) := cell_of_heap (heap_alloc_new w (.cells #[.int .i64 1, .int .u64 k, .int .u64 t] 36)) 2
  have K22 := Lib.hid (c22 _ L 0 k _ h0.ref (by omega))
  have hcl : (cutL L k).length ≤ L.length + 1 := by
    have : (cutL L k).length ≤ L.length := List.length_filter_le _ _
    omega
  obtain ⟨p, c, rfl⟩ := hs
  clear h h0 hB hng
  go_enter Try.func14, Try.ntmps14
  go_wp2_with (first
    | (go_at_call 22; (with_reducible refine K22.out.mono ?_); rintro e w2 ⟨v2, rfl, hr2, hB2⟩; have z1 := (hB2.cell (p := ⟨w.heap.size, 1, none⟩) hlt).trans x1; have HR2 := Lib.hid hr2; have HB2 := Lib.hid hB2; have K18 := c18 k w2 (H0.out.d.below hB2) (by omega); rw [any_cut] at K18; have HK18 := Lib.hid K18; clear hr2 hB2 K18; generalize hd : decide ((cutL L k).length < L.length) = d at HK18)
    | (go_at_call 18; (with_reducible refine HK18.out.mono ?_); rintro e w3 ⟨rfl, hd3, ht3⟩; have HD3 := Lib.hid hd3; have HT3 := Lib.hid ht3; clear hd3 ht3))
  refine bodyPost_ret (v := .tuple #[.bool true, v2]) (by simp [results, Try.results14, go_sem]) rfl ?_
  have hgl : ∀ g, v2.ownBlock = some g → (w.alloc (.cells #[.int .i64 1, .int .u64 k, .int .u64 t] 36)).heap.size ≤ g ∧ ¬ G g := fun g hg => by
    have h1 := (HR2.out.lt g hg).1
    exact ⟨h1, fun x => by have := H0.out.g1 g x; omega⟩
  refine ⟨v2, G, cutL L k, rfl, ⟨HD3.out, H0.out.g0, fun b hb => ?_, own_keep (own_base HR2.out (Nat.zero_le _)) fun g hg hl => HT3.out.block g hl (hgl g hg).2, fun g hg => ⟨Nat.le_trans hn1 (hgl g hg).1, (hgl g hg).2⟩⟩, ?_, hcl⟩
  · exact Nat.lt_of_lt_of_le (H0.out.g1 b hb) (Nat.le_trans HB2.out.size HT3.out.size)
  · exact ((Turn.of (F := (n0 ≤ ·)) HB.out).trans (Turn.of (F := (n0 ≤ ·)) HB2.out) fun _ _ h => h).trans (HT3.out.more H0.out.g0) fun _ _ h => h
set_option maxRecDepth 100000 in
set_option maxHeartbeats 1000000 in
theorem do_2 (k t : Int) (w : World) (h : Both n0 bd G v L w) (hn : n0 ≤ w.heap.size) (hL : L.length < 1900) : Calls Try.prog 14 #[.pointer (some ⟨bd, 0, none⟩), v, .agg #[.int .i64 2, .int .u64 k, .int .u64 t]] w (DoOut n0 bd L.length w) := by
  have hB : Below w.heap.size w (w.alloc (.cells #[.int .i64 2, .int .u64 k, .int .u64 t] 36)) := (Below.refl _ w).alloc (Nat.le_refl _) _
  have h0 := h.below hB
  have hng : ¬ G w.heap.size := fun x => by have := h.g1 _ x; omega
  have hlt : w.heap.size < (w.alloc (.cells #[.int .i64 2, .int .u64 k, .int .u64 t] 36)).heap.size := by simp
  have hn1 : n0 ≤ (w.alloc (.cells #[.int .i64 2, .int .u64 k, .int .u64 t] 36)).heap.size := by simp; omega
  have HNG := Lib.hid hng
  have H0 := Lib.hid h0; have HB := Lib.hid hB
  have hs := own_slice h.ref
  have x0 : (w.alloc (.cells #[.int .i64 2, .int .u64 k, .int .u64 t] 36)).cell? ⟨w.heap.size, 0, none⟩ = some (.int .i64 2) := cell_of_heap (heap_alloc_new w (.cells #[.int .i64 2, .int .u64 k, .int .u64 t] 36)) 0
  have x1 : (w.alloc (.cells #[.int .i64 2, .int .u64 k, .int .u64 t] 36)).cell? ⟨w.heap.size, 1, none⟩ = some (.int .u64 k) := cell_of_heap (heap_alloc_new w (.cells #[.int .i64 2, .int .u64 k, .int .u64 t] 36)) 1
  have x2 : (w.alloc (.cells #[.int .i64 2, .int .u64 k, .int .u64 t] 36)).cell? ⟨w.heap.size, 2, none⟩ = some (.int .u64 t) := cell_of_heap (heap_alloc_new w (.cells #[.int .i64 2, .int .u64 k, .int .u64 t] 36)) 2
  have K23 := Lib.hid (c23 _ L t _ h0.ref h0.d.nodup (by omega))
  obtain ⟨p, c, rfl⟩ := hs
  clear h h0 hB hng
  go_enter Try.func14, Try.ntmps14
  go_wp2_with (first
    | (go_at_call 23; (with_reducible refine K23.out.mono ?_); rintro e w2 ⟨kv, v2, ks, L2, rfl, htk, hkv, hko, hr2, hro, hB2⟩; have z2 := (hB2.cell (p := ⟨w.heap.size, 2, none⟩) hlt).trans x2; have K11 := Lib.hid (c11 t w2 (H0.out.d.below hB2) (fun b hb => Nat.lt_of_lt_of_le (H0.out.g1 b hb) hB2.size) (by omega)); have HTK := Lib.hid htk; have HKV := Lib.hid hkv; have HKO := Lib.hid hko; have HR2 := Lib.hid hr2; have HRO := Lib.hid hro; have HB2 := Lib.hid hB2; clear htk hkv hko hr2 hro hB2)
    | (go_at_call 11; (with_reducible refine K11.out.mono ?_); rintro e w3 ⟨kv3, ks3, L3, rfl, htk3, hkv3, hko3, hd3, ht3⟩; obtain ⟨rfl, rfl⟩ := HTK.out.det htk3; have hkl := htk3.len; have HD3 := Lib.hid hd3; have HT3 := Lib.hid ht3; have HKV3 := Lib.hid hkv3; have HKV4 := Lib.hid (show KAt w3 kv ks from own_keep HKV.out fun g hg hl => ht3.block g hl (fun x => by have h1 := HKO.out g hg; have h2 := H0.out.g1 g x; omega)); clear htk3 hkv3 hko3 hd3 ht3)
    | (go_at_call 10; (with_reducible refine (c10 _ _ ks _ HKV3.out HKV4.out (by omega)).mono ?_); rintro e w4 ⟨rfl, hB4⟩; have HB4 := Lib.hid hB4; clear hB4))
  go_ret2
  have hgl : ∀ g, v2.ownBlock = some g → n0 ≤ g ∧ ¬ G g := fun g hg => by
    rcases HRO.out g hg with h1 | h1
    · exact H0.out.v0 g h1
    · exact ⟨Nat.le_trans hn1 h1, fun x => by have := H0.out.g1 g x; omega⟩
  refine ⟨v2, G, L2, rfl, ⟨HD3.out.below HB4.out, H0.out.g0, fun b hb => ?_, own_below (own_keep HR2.out fun g hg hl => HT3.out.block g hl (hgl g hg).2) HB4.out, hgl⟩, ?_, by omega⟩
  · exact Nat.lt_of_lt_of_le (H0.out.g1 b hb) (Nat.le_trans HB2.out.size (Nat.le_trans HT3.out.size HB4.out.size))
  · exact (((Turn.of (F := (n0 ≤ ·)) HB.out).trans (Turn.of (F := (n0 ≤ ·)) HB2.out) fun _ _ h => h).trans (HT3.out.more H0.out.g0) fun _ _ h => h).trans (Turn.of (F := (n0 ≤ ·)) HB4.out) fun _ _ h => h
end Go.Proofs.DU
