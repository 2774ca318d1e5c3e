/- Proved: contracts of single functions of the program and lemmas that they need; each theorem says its own conditions. -/
import Derived.Test.YtblgkhghoppanaaGreatPj
set_option linter.unusedVariables false
set_option linter.unusedSimpArgs false
namespace Go.Proofs.PK
open Go.RowKit
set_option maxRecDepth 100000 in
set_option maxHeartbeats 1000000 in
theorem c15a (a b d : Nat) (v v' : Value) (s : ByteArray) (w : World) (CV : ∀ w', Below w.heap.size w w' → (convert 24 9 v).run Tryz.prog w' = .ok (.string s) w') (CV' : ∀ w', Below w.heap.size w w' → (convert 24 9 v').run Tryz.prog w' = .ok (.string s) w') :
    Calls Tryz.prog 15 #[argn a b d v, argn a b d v'] w fun e w' => e = .returned (.bool true) ∧ Below w.heap.size w w' := by
  have hB : Below w.heap.size w ((boxed a b d v w).alloc (.cells #[.int .u8 (a : Int), .int .u32 (b : Int), .int .u64 (d : Int), v'] 26)) := ((Below.refl _ w).alloc (Nat.le_refl _) _).alloc (by simp) _
  have cv := CV _ hB
  have cv' := CV' _ hB
  clear CV CV'
  have HB := Lib.hid hB
  clear hB
  go_enter Tryz.func15, Tryz.ntmps15
  go_wp2
  go_ret
  exact ⟨by simp, HB.out⟩
theorem c15 (a b d : Nat) (v v' : Value) (t : List Nat) (w : World) (h : RdN w v t) (h' : RdN w v' t) (hby : Byt t) : Calls Tryz.prog 15 #[argn a b d v, argn a b d v'] w fun e w' => e = .returned (.bool true) ∧ Below w.heap.size w w' :=
  c15a a b d v v' (S t) w (fun w' hB => conv_rd (h.mono hB) hby) (fun w' hB => conv_rd (h'.mono hB) hby)
def OwnOut (a b d : Nat) (t : List Nat) (w : World) (e : Ending) (w' : World) : Prop := ∃ sv, e = .returned (argn a b d sv) ∧ RdN w' sv t ∧ Below w.heap.size w w'
abbrev w12 (a b d : Nat) (v : Value) (w : World) : World := (boxed a b d v w).alloc (.cells #[.int .u8 0, .int .u32 0, .int .u64 0, .slice none 0 0] 26)
abbrev w12a (a b d : Nat) (v : Value) (w : World) : World := (w12 a b d v w).alloc (.cells #[] 5)
theorem rdn_sets5 {w : World} {base b b' : Nat} {v : Value} {l : List Nat} (h : w.ownsRow base 5 1 v l.length (B l)) (hb : b < base) (hb' : b' < base) (u u0 u1 u2 u3 : Value) : RdN (((((w.setCell ⟨b', 3, none⟩ u).setCell ⟨b, 0, none⟩ u0).setCell ⟨b, 1, none⟩ u1).setCell ⟨b, 2, none⟩ u2).setCell ⟨b, 3, none⟩ u3) v l := by
  rcases h.2 with ⟨h1, h2⟩ | ⟨g, cap, cur, rfl, h1, h2, _⟩
  · exact .inl ⟨0, h1, List.eq_nil_of_length_eq_zero (by omega)⟩
  · have hr : Rd w (.slice (some ⟨g, 0, none⟩) l.length cap) l := ⟨g, 0, cap, rfl, fun _ => (Array.getElem?_eq_some_iff.1 h2).1, fun j x hx => h.cells (g := g) rfl j x hx⟩
    have hne : b ≠ g := by omega
    have hne' : b' ≠ g := by omega
    exact .inr (((((hr.set _ hne').set _ hne).set _ hne).set _ hne).set _ hne)
theorem blk4 {w : World} {c0 c1 c2 c3 : Value} {t : TypeId} {n : Nat} (h : w.heap[n]? = some (.cells #[c0, c1, c2, c3] t)) : w.cell? ⟨n, 0, none⟩ = some c0 ∧ w.cell? ⟨n, 1, none⟩ = some c1 ∧ w.cell? ⟨n, 2, none⟩ = some c2 ∧ w.cell? ⟨n, 3, none⟩ = some c3 ∧
    w.frozen? ⟨n, 0, none⟩ = false ∧ w.frozen? ⟨n, 1, none⟩ = false ∧ w.frozen? ⟨n, 2, none⟩ = false ∧ w.frozen? ⟨n, 3, none⟩ = false := by
  unfold World.cell? World.frozen?
  simp only [h]
  exact ⟨rfl, rfl, rfl, rfl, rfl, rfl, rfl, rfl⟩
theorem w12_blocks {a b d : Nat} {v : Value} {w W : World} (hB : Below (w.heap.size + 1 + 1) (w12a a b d v w) W) : W.heap[w.heap.size]? = some (.cells #[.int .u8 (a : Int), .int .u32 (b : Int), .int .u64 (d : Int), v] 26) ∧ W.heap[w.heap.size + 1]? = some (.cells #[.int .u8 0, .int .u32 0, .int .u64 0, .slice none 0 0] 26) := by
  have h1 : (boxed a b d v w).heap[w.heap.size]? = some (.cells #[.int .u8 (a : Int), .int .u32 (b : Int), .int .u64 (d : Int), v] 26) := heap_alloc_new w _
  have h2 : (w12 a b d v w).heap[w.heap.size + 1]? = some (.cells #[.int .u8 0, .int .u32 0, .int .u64 0, .slice none 0 0] 26) := by
    have := heap_alloc_new (boxed a b d v w) (.cells #[.int .u8 0, .int .u32 0, .int .u64 0, .slice none 0 0] 26)
    rwa [show (boxed a b d v w).heap.size = w.heap.size + 1 by simp] at this
  have b1 : Below (boxed a b d v w).heap.size (boxed a b d v w) (w12a a b d v w) := ((Below.refl _ _).alloc (Nat.le_refl _) _).alloc (by simp) _
  have b2 : Below (w12 a b d v w).heap.size (w12 a b d v w) (w12a a b d v w) := (Below.refl _ _).alloc (Nat.le_refl _) _
  exact ⟨(hB.block _ (by omega)).trans ((b1.block _ (by simp)).trans h1), (hB.block _ (by omega)).trans ((b2.block _ (by simp)).trans h2)⟩
set_option maxRecDepth 100000 in
set_option maxHeartbeats 1000000 in
theorem c12n (a b d c : Nat) (w : World) : Calls Tryz.prog 12 #[argn a b d (.slice none 0 c)] w (OwnOut a b d [] w) := by
  go_enter Tryz.func12, Tryz.ntmps12
  go_wp2
  refine bodyPost_ret (v := argn a b d (.slice (some ⟨w.heap.size + 1 + 1, 0, none⟩) 0 0)) (by simp [results, Tryz.results12, go_sem]) rfl ⟨_, rfl, .inr ⟨w.heap.size + 1 + 1, 0, 0, rfl, fun h => by simp at h, fun j x hx => by simp [B] at hx⟩, ?_⟩
  exact (((Below.refl _ w).alloc (Nat.le_refl _) _).alloc (by simp) _).alloc (by simp; omega) _
set_option maxRecDepth 100000 in
set_option maxHeartbeats 1000000 in
theorem c12s (a b d : Nat) (v : Value) (t : List Nat) (w : World) (h : Rd w v t) (hl : t.length ≤ 100000) : Calls Tryz.prog 12 #[argn a b d v] w (OwnOut a b d t w) := by
  have hB0 : Below w.heap.size w (w12a a b d v w) := (((Below.refl _ w).alloc (Nat.le_refl _) _).alloc (by simp) _).alloc (by simp; omega) _
  obtain ⟨blk, o, cap, rfl, hb, hr⟩ := h
  obtain ⟨i0, hi0, hz0, hz1, hz2⟩ := info_parts info5
  have HR := Lib.hid (rd_up hB0 hb hr)
  have HB0 := Lib.hid hB0
  clear hr hb hB0
  have H0 : (w12a a b d (.slice (some ⟨blk, o, none⟩) t.length cap) w).ownsRow (w.heap.size + 1 + 1) 5 1 (.slice (some ⟨w.heap.size + 1 + 1, 0, none⟩) 0 0) 0 [] := by
    rw [show w.heap.size + 1 + 1 = (w12 a b d (.slice (some ⟨blk, o, none⟩) t.length cap) w).heap.size by simp]
    exact World.ownsRow_made _ #[] 0 (Nat.le_refl _) (by unfold maxLen; omega) (by simp)
  go_enter Tryz.func12, Tryz.ntmps12
  go_wp2_with (first
    | (at_builtin; refine wpList_append_own _ rfl _ _ 24 rfl (w.heap.size + 1 + 1) 5 i0 (.int .u8 0) 1 1 Tryz.underlying24 hi0 hz0 hz1 hz2 rfl (by decide) _ 0 [] rfl H0 ⟨blk, o, none⟩ t.length cap (B t) rfl (B_len t) HR.out (B_one t) (by unfold maxLen; omega) (by omega) (by simp) ?_; intro v2 w2 hown2 hgrow2 hnil2; clear hnil2; obtain ⟨vp, vl, vc, rfl⟩ := own_slice hown2; have hBn : Below (w.heap.size + 1 + 1) (w12a a b d (.slice (some ⟨blk, o, none⟩) t.length cap) w) w2 := (Below.refl _ _).grown hgrow2 (by simp) (fun j hj => by cases hj; exact Nat.le_refl _); obtain ⟨x0, x1, x2, x3, f0, f1, f2, f3⟩ := blk4 (w12_blocks hBn).1; obtain ⟨y0, y1, y2, y3, g0, g1, g2, g3⟩ := blk4 (w12_blocks hBn).2))
  rw [Nat.zero_add, List.nil_append] at hown2
  have hBW := HB0.out.trans (hBn.mono (by omega))
  refine bodyPost_ret (v := argn a b d (.slice vp vl vc)) (by simp [results, Tryz.results12, go_sem, x0, x1, x2, x3, y0, y1, y2, y3]) rfl ⟨_, rfl, rdn_sets5 hown2 (by omega) (by omega) _ _ _ _ _, ?_⟩
  exact ((((hBW.setCell (Nat.le_refl _) _).setCell (by simp) _).setCell (by simp) _).setCell (by simp) _).setCell (by simp) _
theorem c12 (a b d : Nat) (v : Value) (t : List Nat) (w : World) (h : RdN w v t) (hl : t.length ≤ 100000) : Calls Tryz.prog 12 #[argn a b d v] w (OwnOut a b d t w) := by
  rcases h with ⟨c, rfl, rfl⟩ | h
  · exact c12n a b d c w
  · exact c12s a b d v t w h hl
end Go.Proofs.PK
