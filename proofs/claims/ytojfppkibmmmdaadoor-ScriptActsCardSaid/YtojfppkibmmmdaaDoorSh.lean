/- Proved: what the document's 'Acts' comes to; each theorem says its own conditions. -/
import Derived.Test.YtojfppkibmmmdaaDoorSe
import Derived.Deep.RegionWith
import Derived.Deep.RegionLaw
set_option linter.unusedVariables false
set_option linter.unusedSimpArgs false
namespace Go.Proofs.SA
open Go.RowKit
theorem c21g (blk off l cap i x : Nat) (w : World) (hi : i < l) (hl : l ≤ 100000) (hx : x < 256) (h : w.cell? ⟨blk, off + i, none⟩ = some (.int .u8 x)) :
    Calls Tryd.prog 21 #[.slice (some ⟨blk, off, none⟩) l cap, .int .i64 i] w fun e w' => e = .returned (.int .i64 x) ∧ w = w' := by
  have h1 : (i : Int) < (l : Int) := by omega
  go_enter Tryd.func21, Tryd.ntmps21
  go_wp2
  go_ret
  exact ⟨rfl, rfl⟩
/-- The act that the document makes first: a world in which its cells lie. -/
def R9 (PP : Pats) (L : List Nat) (w0 w : World) (out vi : Value) (wr : World) : Prop := ∃ (i : Nat) (done : List PA), vi = .int .i64 i ∧ i ≤ L.length ∧ ActsOwn PP w.heap.size wr out done ∧ done ++ actsL (1024 - done.length) (L.drop i) = actsL 1024 L ∧ done.length ≤ 1024 ∧ Below w.heap.size w wr
theorem drop4 {L : List Nat} {i : Nat} (h : i + 4 ≤ L.length) : ∃ k w n x, L.drop i = k :: w :: n :: x :: L.drop (i + 4) ∧ L[i]? = some k ∧ L[i + 1]? = some w ∧ L[i + 2]? = some n ∧ L[i + 3]? = some x := by
  refine ⟨L[i], L[i + 1], L[i + 2], L[i + 3], ?_, List.getElem?_eq_getElem (by omega), List.getElem?_eq_getElem (by omega), List.getElem?_eq_getElem (by omega), List.getElem?_eq_getElem (by omega)⟩
  rw [List.drop_eq_getElem_cons (by omega), List.drop_eq_getElem_cons (i := i + 1) (by omega), List.drop_eq_getElem_cons (i := i + 2) (by omega), List.drop_eq_getElem_cons (i := i + 3) (by omega)]
/-- A round's end, whatever the kind but a raw one. -/
theorem end9 {PP : Pats} (HS : Still PP) {L : List Nat} {w0 w wr W3 w4 : World} {old : Value} {i k w1 n x g cap1 c : Nat} {o : Obj} {xs cs : List Value} {done : List PA} (hB : Below w.heap.size w wr) (hown : wr.ownsRow w.heap.size 36 10 old done.length xs) (hacts : ActsAt PP (okOut w.heap.size old) wr xs done)
    (hb3 : Below wr.heap.size wr W3) (hact : ActIs PP (wr.heap.size ≤ ·) W3 cs (actC c w1 n x)) (hown4 : w4.ownsRow w.heap.size 36 10 (.slice (some ⟨g, 0, none⟩) (done.length + 1) cap1) (done.length + 1) (xs ++ cs)) (hgrow4 : (W3.alloc o).grownBy w4 old.ownBlock) (hat : old.ownBlock = some g ∨ g = W3.heap.size + 1)
    (he : done ++ actsL (1024 - done.length) (L.drop i) = actsL 1024 L) (hd : L.drop i = k :: w1 :: n :: x :: L.drop (i + 4)) (h5 : done.length < 1024) (hi : i + 4 ≤ L.length) (hk : kindN k = c) (h11 : c ≠ 11) {vi : Int} (hvi : vi = ((i + 4 : Nat) : Int)) : R9 PP L w0 w (.slice (some ⟨g, 0, none⟩) (done.length + 1) cap1) (.int .i64 vi) w4 := by
  have hb4 := below_grown (PP := PP) hB hb3 ((Below.refl _ _).alloc (Nat.le_refl _) _) hown hgrow4
  have hrow := row_snoc HS hB.size hown hacts hb3 hact (fun b h => h) ((Below.refl _ W3).alloc (Nat.le_refl _) _) hown4 rfl hgrow4 (by simpa using hat)
  rw [hd] at he
  exact ⟨i + 4, done ++ [_], by rw [hvi], hi, hrow, acts_step h5 he (fun m => by rw [actsL_other (by rw [hk]; exact h11), hk]), by simp; omega, hb4⟩
theorem act_of {PP : Pats} {ok : Nat → Prop} {W : World} {a : PA} {u0 u1 u2 u3 u4 : Int} {v5 v6 v7 v8 v9 : Value} (h0 : u0 = (a.kind : Int)) (h1 : u1 = (a.who : Int)) (h2 : u2 = (a.nn : Int)) (h3 : u3 = (a.kk : Int)) (h4 : u4 = (a.topic : Int)) (h5 : FldIs ok W v5 a.fld) (h6 : PatIs PP ok W v6 v7 a.pat) (h8 : BytIs ok W v8 a.byt) (h9 : KeepIs ok W v9 a.keep) :
    ActIs PP ok W [.int .u8 u0, .int .u32 u1, .int .u32 u2, .int .u32 u3, .int .u8 u4, v5, v6, v7, v8, v9] a := by
  subst h0 h1 h2 h3 h4
  exact ⟨v5, v6, v7, v8, v9, rfl, h5, h6, h8, h9⟩
theorem kind_bounds (k : Nat) : 0 < kindN k ∧ kindN k < 14 := by
  have h1 := kinds_lt k
  have h2 : 0 < kinds k := by
    have h : k % 16 < 16 := Nat.mod_lt _ (by omega)
    unfold kinds
    generalize k % 16 = j at *
    rcases (by omega : j = 0 ∨ j = 1 ∨ j = 2 ∨ j = 3 ∨ j = 4 ∨ j = 5 ∨ j = 6 ∨ j = 7 ∨ j = 8 ∨ j = 9 ∨ j = 10 ∨ j = 11 ∨ j = 12 ∨ j = 13 ∨ j = 14 ∨ j = 15) with rfl | rfl | rfl | rfl | rfl | rfl | rfl | rfl | rfl | rfl | rfl | rfl | rfl | rfl | rfl | rfl <;> decide
  unfold kindN
  split
  · omega
  · split <;> omega

def Q9 (L : List Nat) (na i n : Nat) (wo : World) (w1 : Nat) (vi vj : Value) (W : World) : Prop := ∃ (j q : Nat) (v8 : Value), vj = .int .i64 j ∧ vi = .int .i64 q ∧ q = i + 4 + j ∧ j ≤ n % 16 ∧ q ≤ L.length ∧
  (W.cell? ⟨na, 0, none⟩ = some (.int .u8 11) ∧ W.cell? ⟨na, 1, none⟩ = some (.int .u32 (w1 : Int)) ∧ W.cell? ⟨na, 2, none⟩ = some (.int .u32 0) ∧ W.cell? ⟨na, 3, none⟩ = some (.int .u32 0) ∧ W.cell? ⟨na, 4, none⟩ = some (.int .u8 0) ∧ W.cell? ⟨na, 5, none⟩ = some (.slice none 0 0) ∧ W.cell? ⟨na, 6, none⟩ = some (.slice none 0 0) ∧ W.cell? ⟨na, 7, none⟩ = some (.int .u64 0) ∧ W.cell? ⟨na, 8, none⟩ = some v8 ∧ W.cell? ⟨na, 9, none⟩ = some (.slice none 0 0)) ∧
  W.frozen? ⟨na, 8, none⟩ = false ∧ W.ownsRow (na + 1) 5 1 v8 j (B ((L.drop (i + 4)).take j)) ∧ Below wo.heap.size wo W ∧ na < W.heap.size
theorem q9_start {L : List Nat} {i n w1 : Nat} {vi : Int} {wo : World} (hi : i + 4 ≤ L.length) (hq : vi = ((i + 4 : Nat) : Int)) : Q9 L wo.heap.size i n wo w1 (.int .i64 vi) (.int .i64 0) (wo.alloc (.cells #[.int .u8 11, .int .u32 (w1 : Int), .int .u32 0, .int .u32 0, .int .u8 0, .slice none 0 0, .slice none 0 0, .int .u64 0, .slice none 0 0, .slice none 0 0] 36)) := by
  have h := heap_alloc_new wo (.cells #[.int .u8 11, .int .u32 (w1 : Int), .int .u32 0, .int .u32 0, .int .u8 0, .slice none 0 0, .slice none 0 0, .int .u64 0, .slice none 0 0, .slice none 0 0] 36)
  have e := cell_of_heap h (fz := (0, 0))
  exact ⟨0, i + 4, _, rfl, by rw [hq], rfl, Nat.zero_le _, hi, ⟨e 0, e 1, e 2, e 3, e 4, e 5, e 6, e 7, e 8, e 9⟩, frozen_of_row _ _ 8 _ _ h, World.ownsRow_nil _ _ _ _, (Below.refl _ _).alloc (Nat.le_refl _) _, by simp⟩
theorem grown_at {w w' : World} {row : Option Nat} (hg : w.grownBy w' row) {b : Nat} (hb : b < w.heap.size) (hne : row ≠ some b) : (∀ o, w'.cell? ⟨b, o, none⟩ = w.cell? ⟨b, o, none⟩) ∧ (∀ o, w'.frozen? ⟨b, o, none⟩ = w.frozen? ⟨b, o, none⟩) := by
  have h := hg.block b hb (Ne.symm hne)
  exact ⟨fun o => World.cell?_of_block (a := ⟨b, o, none⟩) h, fun o => World.frozen?_of_block (a := ⟨b, o, none⟩) h⟩
theorem byt_own {ok : Nat → Prop} {W : World} {base : Nat} {v : Value} {l : List Nat} (h : W.ownsRow base 5 1 v l.length (B l)) (hok : ∀ b, base ≤ b → ok b) : BytIs ok W v l := by
  rcases h.2 with ⟨rfl, h0⟩ | ⟨g, cap, cur, rfl, h1, h2, h3⟩
  · exact .inl ⟨0, by rw [List.length_eq_zero_iff.1 h0]; exact ⟨rfl, rfl⟩⟩
  · exact .inr ⟨g, 0, cap, rfl, fun _ => ⟨hok g h1, (Array.getElem?_eq_some_iff.1 h2).1⟩, fun j x hx => h.cells (g := g) rfl j x hx⟩
theorem end9r {PP : Pats} (HS : Still PP) {L : List Nat} {w0 w wr W3 w4 : World} {old v8 : Value} {i k w1 n x g cap1 j q : Nat} {o : Obj} {xs : List Value} {done : List PA} (hB : Below w.heap.size w wr) (hown : wr.ownsRow w.heap.size 36 10 old done.length xs) (hacts : ActsAt PP (okOut w.heap.size old) wr xs done)
    (hb3 : Below wr.heap.size wr W3) (hv8 : W3.ownsRow (wr.heap.size + 1) 5 1 v8 j (B ((L.drop (i + 4)).take j))) (hown4 : w4.ownsRow w.heap.size 36 10 (.slice (some ⟨g, 0, none⟩) (done.length + 1) cap1) (done.length + 1) (xs ++ [.int .u8 11, .int .u32 (w1 : Int), .int .u32 0, .int .u32 0, .int .u8 0, .slice none 0 0, .slice none 0 0, .int .u64 0, v8, .slice none 0 0])) (hgrow4 : (W3.alloc o).grownBy w4 old.ownBlock) (hat : old.ownBlock = some g ∨ g = W3.heap.size + 1)
    (he : done ++ actsL (1024 - done.length) (L.drop i) = actsL 1024 L) (hd : L.drop i = k :: w1 :: n :: x :: L.drop (i + 4)) (h5 : done.length < 1024) (hq : q = i + 4 + j) (hql : q ≤ L.length) (hj : j = min (n % 16) (L.drop (i + 4)).length) (hk : kindN k = 11) : R9 PP L w0 w (.slice (some ⟨g, 0, none⟩) (done.length + 1) cap1) (.int .i64 (q : Int)) w4 := by
  have hlen : ((L.drop (i + 4)).take j).length = j := by rw [List.length_take]; omega
  have hbyt : BytIs (wr.heap.size ≤ ·) W3 v8 ((L.drop (i + 4)).take (n % 16)) := by
    rw [← take_min (L.drop (i + 4)) (n % 16) j hj]
    exact byt_own (by rw [hlen]; exact hv8) (fun b hb => by show wr.heap.size ≤ b; omega)
  have hact : ActIs PP (wr.heap.size ≤ ·) W3 [.int .u8 11, .int .u32 (w1 : Int), .int .u32 0, .int .u32 0, .int .u8 0, .slice none 0 0, .slice none 0 0, .int .u64 0, v8, .slice none 0 0] { actC 11 w1 n x with byt := (L.drop (i + 4)).take (n % 16) } :=
    act_of rfl rfl rfl rfl rfl rfl ⟨rfl, rfl⟩ hbyt (keep_none _ _)
  have hb4 := below_grown (PP := PP) hB hb3 ((Below.refl _ _).alloc (Nat.le_refl _) _) hown hgrow4
  have hrow := row_snoc HS hB.size hown hacts hb3 hact (fun b h => h) ((Below.refl _ W3).alloc (Nat.le_refl _) _) hown4 rfl hgrow4 (by simpa using hat)
  rw [hd] at he
  refine ⟨q, done ++ [_], rfl, hql, hrow, ?_, by simp; omega, hb4⟩
  have e : L.drop q = (L.drop (i + 4)).drop (n % 16) := by rw [← drop_min (L.drop (i + 4)) (n % 16) j hj, List.drop_drop, hq]
  rw [e]
  exact acts_step h5 he (fun m => actsL_raw hk)
theorem info5 : (Tryd.prog.info? 5).map (fun i => (i.zero, i.size, i.bytes)) = some (some (.int .u8 0), 1, 1) := by kernel_rfl
theorem q9_step {L : List Nat} {na i n w1 j q y g cap4 : Nat} {wo wr w4 : World} {v8 : Value} {o : Obj} (hlt : j < n % 16) (hq : q = i + 4 + j) (hql : q < L.length) (hy : L[q]? = some y) (hcs : wr.cell? ⟨na, 0, none⟩ = some (.int .u8 11) ∧ wr.cell? ⟨na, 1, none⟩ = some (.int .u32 (w1 : Int)) ∧ wr.cell? ⟨na, 2, none⟩ = some (.int .u32 0) ∧ wr.cell? ⟨na, 3, none⟩ = some (.int .u32 0) ∧ wr.cell? ⟨na, 4, none⟩ = some (.int .u8 0) ∧ wr.cell? ⟨na, 5, none⟩ = some (.slice none 0 0) ∧ wr.cell? ⟨na, 6, none⟩ = some (.slice none 0 0) ∧ wr.cell? ⟨na, 7, none⟩ = some (.int .u64 0) ∧ wr.cell? ⟨na, 8, none⟩ = some v8 ∧ wr.cell? ⟨na, 9, none⟩ = some (.slice none 0 0))
    (hf : wr.frozen? ⟨na, 8, none⟩ = false) (hown : wr.ownsRow (na + 1) 5 1 v8 j (B ((L.drop (i + 4)).take j))) (hB : Below wo.heap.size wo wr) (hna : na < wr.heap.size) (hon : wo.heap.size ≤ na)
    (hown4 : w4.ownsRow (na + 1) 5 1 (.slice (some ⟨g, 0, none⟩) (j + 1) cap4) (j + 1) (B ((L.drop (i + 4)).take j) ++ [.int .u8 (y : Int)])) (hg : ((wr.alloc o).drew).grownBy w4 v8.ownBlock) : Q9 L na i n wo w1 (.int .i64 ((q : Int) + 1)) (.int .i64 ((j : Int) + 1)) (w4.setCell ⟨na, 8, none⟩ (.slice (some ⟨g, 0, none⟩) (j + 1) cap4)) := by
  have hb0 : Below wr.heap.size wr (wr.alloc o).drew := ((Below.refl _ wr).alloc (Nat.le_refl _) _).drew
  have hne : v8.ownBlock ≠ some na := fun h => by have := (hown.lt _ h).1; omega
  obtain ⟨ga, gf⟩ := grown_at hg (b := na) (by simp; omega) hne
  have hg4 : na + 1 ≤ g := (hown4.lt g rfl).1
  have up : ∀ o u, wr.cell? ⟨na, o, none⟩ = some u → w4.cell? ⟨na, o, none⟩ = some u := fun o u h => (ga o).trans (((bcell hb0).1 _ _ hna).trans h)
  have ne : ∀ o u v, o ≠ 8 → w4.cell? ⟨na, o, none⟩ = some u → (w4.setCell ⟨na, 8, none⟩ v).cell? ⟨na, o, none⟩ = some u := fun o u v ho h => by
    exact (World.cell?_setCell_other w4 ⟨na, 8, none⟩ ⟨na, o, none⟩ v (fun e => ho (congrArg Addr.off e).symm)).trans h
  obtain ⟨c0, c1, c2, c3, c4, c5, c6, c7, c8, c9⟩ := hcs
  have hsz := hg.size
  have hBB : Below wo.heap.size wo w4 := ((hB.alloc hB.size _).drew).grown hg (by have := hB.size; simp; omega) (fun b hb => by have := (hown.lt b hb).1; omega)
  refine ⟨j + 1, q + 1, .slice (some ⟨g, 0, none⟩) (j + 1) cap4, by simp, by simp, by omega, by omega, by omega, ⟨ne 0 _ _ (by omega) (up 0 _ c0), ne 1 _ _ (by omega) (up 1 _ c1), ne 2 _ _ (by omega) (up 2 _ c2), ne 3 _ _ (by omega) (up 3 _ c3), ne 4 _ _ (by omega) (up 4 _ c4), ne 5 _ _ (by omega) (up 5 _ c5), ne 6 _ _ (by omega) (up 6 _ c6), ne 7 _ _ (by omega) (up 7 _ c7), ?_, ne 9 _ _ (by omega) (up 9 _ c9)⟩, ?_, ?_, hBB.setCell hon _, ?_⟩
  · exact World.cell?_setCell_same w4 ⟨na, 8, none⟩ _ (up 8 _ c8)
  · rw [World.frozen?_setCell]; exact (gf 8).trans (((bcell hb0).2 _ _ hna).trans hf)
  · have e : (L.drop (i + 4)).take (j + 1) = (L.drop (i + 4)).take j ++ [y] := by
      rw [List.take_add_one, List.getElem?_drop, ← hq, hy]; rfl
    rw [e]
    have hb : B ((L.drop (i + 4)).take j ++ [y]) = B ((L.drop (i + 4)).take j) ++ [.int .u8 (y : Int)] := by simp [B]
    rw [hb]
    exact own_set hown4 _ (fun h => by cases h; omega)
  · rw [World.size_setCell]; simp at hsz; omega
set_option maxRecDepth 100000 in
set_option maxHeartbeats 4000000 in
theorem c9 (PP : Pats) (HS : Still PP) (L : List Nat) (blk o cap : Nat) (w : World) (hby : ∀ x ∈ L, x < 256) (hL : L.length ≤ 100000) (h : Src w (.slice (some ⟨blk, o, none⟩) L.length cap) L)
    (C15 : ∀ n : Nat, n < 256 → ∀ W', Calls Tryd.prog 15 #[.int .i64 n] W' (PatGot PP (n % 32) W')) : Calls Tryd.prog 9 #[.slice (some ⟨blk, o, none⟩) L.length cap] w (ActsOut PP (actsL 1024 L) w) := by
  obtain ⟨i0, hi0, hz0, hz1, hz2⟩ := info_parts info36
  have H0 : (w.alloc (.cells #[] 36)).ownsRow w.heap.size 36 10 (.slice (some ⟨w.heap.size, 0, none⟩) 0 0) 0 [] := World.ownsRow_made w #[] 0 (Nat.le_refl _) (by unfold maxLen; omega) (by simp)
  go_enter Tryd.func9, Tryd.ntmps9
  go_wp2
  go_loopw [3, 4] (fun out i wr => R9 PP L w w out i wr) (fun _ i _ => L.length + 20 - (intOf i).toNat)
  case atStart => exact ⟨0, [], rfl, Nat.zero_le _, ⟨[], H0, ActsAt.nil _ _ _⟩, rfl, by simp, (Below.refl _ w).alloc (Nat.le_refl _) _⟩
  case round =>
    clear H0
    obtain ⟨i, done, rfl, hi, hown, he, hd, hB⟩ := hrel
    obtain ⟨b', o', cap', e, hcap, hblk, hcell⟩ := id h
    cases e
    obtain ⟨xs, hown, hacts⟩ := hown
    obtain ⟨a3, c3, rfl⟩ : ∃ a c, u3 = .slice a done.length c := by
      rcases hown.2 with ⟨rfl, h⟩ | ⟨_, _, _, rfl, _⟩
      · exact ⟨_, _, by rw [h]⟩
      · exact ⟨_, _, rfl⟩
    have HOWN := Lib.hid hown; have HACTS := Lib.hid hacts; have HE := Lib.hid he; have HB := Lib.hid hB
    clear hown hacts he hB
    by_cases hgo : i + 4 ≤ L.length ∧ done.length < 1024
    · obtain ⟨h4, h5⟩ := hgo
      obtain ⟨k, w1, n, x, hdr, e0, e1, e2, e3⟩ := drop4 h4
      have hk : k < 256 := hby k (List.mem_of_getElem? e0)
      have hw : w1 < 256 := hby w1 (List.mem_of_getElem? e1)
      have hn : n < 256 := hby n (List.mem_of_getElem? e2)
      have hx : x < 256 := hby x (List.mem_of_getElem? e3)
      have hlt : blk < w.heap.size := hblk (by omega)
      have K0 : ∀ W', Below w.heap.size w W' → Calls Tryd.prog 21 #[.slice (some ⟨blk, o, none⟩) L.length cap, .int .i64 (i : Int)] W' fun e w' => e = .returned (.int .i64 k) ∧ W' = w' := fun W' hB => c21g blk o L.length cap i k W' (by omega) hL hk (((bcell hB).1 _ _ hlt).trans (hcell i k e0))
      have K1 : ∀ W', Below w.heap.size w W' → Calls Tryd.prog 21 #[.slice (some ⟨blk, o, none⟩) L.length cap, .int .i64 ((i : Int) + 1)] W' fun e w' => e = .returned (.int .i64 w1) ∧ W' = w' := fun W' hB => c21g blk o L.length cap (i + 1) w1 W' (by omega) hL hw (((bcell hB).1 _ _ hlt).trans (hcell (i + 1) w1 e1))
      have K2 : ∀ W', Below w.heap.size w W' → Calls Tryd.prog 21 #[.slice (some ⟨blk, o, none⟩) L.length cap, .int .i64 ((i : Int) + 2)] W' fun e w' => e = .returned (.int .i64 n) ∧ W' = w' := fun W' hB => c21g blk o L.length cap (i + 2) n W' (by omega) hL hn (((bcell hB).1 _ _ hlt).trans (hcell (i + 2) n e2))
      have K3 : ∀ W', Below w.heap.size w W' → Calls Tryd.prog 21 #[.slice (some ⟨blk, o, none⟩) L.length cap, .int .i64 ((i : Int) + 3)] W' fun e w' => e = .returned (.int .i64 x) ∧ W' = w' := fun W' hB => c21g blk o L.length cap (i + 3) x W' (by omega) hL hx (((bcell hB).1 _ _ hlt).trans (hcell (i + 3) x e3))
      have K22 : ∀ W', Calls Tryd.prog 22 #[.int .i64 k] W' fun e w' => e = .returned (.int .u8 (kindN k : Nat)) ∧ W' = w' := fun W' => c22 k W' hk
      have K23 := fun W' => c23 n x W' hn hx
      have K15 := fun W' => C15 n hn W'
      have HDR := Lib.hid hdr
      have HC := Lib.hid hcell
      have hbc : 0 < kindN k ∧ kindN k < 14 := kind_bounds k
      have HK0 := Lib.hid K0; have HK1 := Lib.hid K1; have HK2 := Lib.hid K2; have HK3 := Lib.hid K3
      clear hdr hcell e0 e1 e2 e3 K0 K1 K2 K3 hblk hby
      generalize hkc : kindN k = c at K22 hbc
      have HKC := Lib.hid hkc
      clear hkc
      rcases (by omega : c = 1 ∨ c = 2 ∨ c = 3 ∨ c = 4 ∨ c = 5 ∨ c = 6 ∨ c = 7 ∨ c = 8 ∨ c = 9 ∨ c = 10 ∨ c = 11 ∨ c = 12 ∨ c = 13) with rfl | rfl | rfl | rfl | rfl | rfl | rfl | rfl | rfl | rfl | rfl | rfl | rfl
      · go_wp2_with (first | (go_at_call 21; ((with_reducible refine (HK2.out _ (by repeat (first | exact HB.out | refine Below.alloc ?_ (by simp; try omega) _ | refine Below.drew ?_))).mono ?_); rintro e w' ⟨rfl, rfl⟩)) | (go_at_call 21; ((with_reducible refine (HK3.out _ (by repeat (first | exact HB.out | refine Below.alloc ?_ (by simp; try omega) _ | refine Below.drew ?_))).mono ?_); rintro e w' ⟨rfl, rfl⟩)) | (go_at_call 21; ((with_reducible refine (HK0.out _ (by repeat (first | exact HB.out | refine Below.alloc ?_ (by simp; try omega) _ | refine Below.drew ?_))).mono ?_); rintro e w' ⟨rfl, rfl⟩)) | (go_at_call 21; ((with_reducible refine (HK1.out _ (by repeat (first | exact HB.out | refine Below.alloc ?_ (by simp; try omega) _ | refine Below.drew ?_))).mono ?_); rintro e w' ⟨rfl, rfl⟩)) | (go_at_call 22; refine (K22 _).mono ?_; rintro e w' ⟨rfl, rfl⟩) | (go_at_call 23; refine (K23 _).mono ?_; rintro e w2 ⟨v, rfl, hf, hB2⟩; obtain ⟨p5, l5, m5, rfl⟩ := hf.slice; obtain ⟨hc2, hz2'⟩ := bcell hB2; have hs2 : wr.heap.size < w2.heap.size := (by have := hB2.size; simp at this; omega); have hBw : Below wr.heap.size wr w2 := (((Below.refl _ wr).alloc (Nat.le_refl _) _).trans (hB2.mono (by simp)))) | (at_builtin; go_must (refine wpList_append_lies _ (by rfl) _ _ 24 (by rfl) w.heap.size 36 i0 _ 10 128 Tryd.underlying24 hi0 hz0 hz1 hz2 rfl (by omega) _ done.length xs (by rfl) ((own_set (own_set (own_below HOWN.out hBw) _ (own_far HOWN.out (Nat.le_refl _))) _ (own_far HOWN.out (Nat.le_refl _))).alloc _) ⟨w2.heap.size, 0, none⟩ 1 1 _ (by rfl) rfl (news10h (by simp)) (by simp [Value.oneCell']) (by omega) (by unfold maxLen; omega) (by omega) (by have := HB.out.size; simp; omega) (w2.heap.size + 1) (by simp) ?_); intro g cap1 w4 hown4 hgrow4 hat hlt4))
        refine ⟨end9 HS HB.out HOWN.out HACTS.out ((hBw.setCell (Nat.le_refl _) _).setCell (Nat.le_refl _) _) (act_of (a := actC 1 w1 n x) rfl rfl (by simp [actC]) (by simp [actC]) (by simp [actC]) (((FldIs.mono (FldIs.weaken hf (fun b hb ho => by simp at ho; show wr.heap.size < b; omega)) (keeps_set (keeps_set (Go.Ai.Keeps.refl _ w2) (by simp) _) (by simp) _)).weaken (fun b hb ho => by have : wr.heap.size < b := ho; show wr.heap.size ≤ b; omega))) (⟨rfl, rfl⟩) (byt_none _ _) (keep_none _ _)) hown4 hgrow4 (by simpa using hat) HE.out HDR.out h5 h4 HKC.out (by decide) (by simp), by simp [intOf]; omega⟩
      · go_wp2_with (first | (go_at_call 21; ((with_reducible refine (HK2.out _ (by repeat (first | exact HB.out | refine Below.alloc ?_ (by simp; try omega) _ | refine Below.drew ?_))).mono ?_); rintro e w' ⟨rfl, rfl⟩)) | (go_at_call 21; ((with_reducible refine (HK3.out _ (by repeat (first | exact HB.out | refine Below.alloc ?_ (by simp; try omega) _ | refine Below.drew ?_))).mono ?_); rintro e w' ⟨rfl, rfl⟩)) | (go_at_call 21; ((with_reducible refine (HK0.out _ (by repeat (first | exact HB.out | refine Below.alloc ?_ (by simp; try omega) _ | refine Below.drew ?_))).mono ?_); rintro e w' ⟨rfl, rfl⟩)) | (go_at_call 21; ((with_reducible refine (HK1.out _ (by repeat (first | exact HB.out | refine Below.alloc ?_ (by simp; try omega) _ | refine Below.drew ?_))).mono ?_); rintro e w' ⟨rfl, rfl⟩)) | (go_at_call 22; refine (K22 _).mono ?_; rintro e w' ⟨rfl, rfl⟩) | (go_at_call 15; refine (K15 _).mono ?_; rintro e w2 ⟨q6, l6, m6, m7, rfl, hp, hB2⟩; obtain ⟨hc2, hz2'⟩ := bcell hB2; have hs2 : wr.heap.size < w2.heap.size := (by have := hB2.size; simp at this; omega); have hBw : Below wr.heap.size wr w2 := (((Below.refl _ wr).alloc (Nat.le_refl _) _).trans (hB2.mono (by simp)))) | (at_builtin; go_must (refine wpList_append_lies _ (by rfl) _ _ 24 (by rfl) w.heap.size 36 i0 _ 10 128 Tryd.underlying24 hi0 hz0 hz1 hz2 rfl (by omega) _ done.length xs (by rfl) ((own_set (own_set (own_below HOWN.out hBw) _ (own_far HOWN.out (Nat.le_refl _))) _ (own_far HOWN.out (Nat.le_refl _))).alloc _) ⟨w2.heap.size, 0, none⟩ 1 1 _ (by rfl) rfl (news10h (by simp)) (by simp [Value.oneCell']) (by omega) (by unfold maxLen; omega) (by omega) (by have := HB.out.size; simp; omega) (w2.heap.size + 1) (by simp) ?_); intro g cap1 w4 hown4 hgrow4 hat hlt4))
        refine ⟨end9 HS HB.out HOWN.out HACTS.out ((hBw.setCell (Nat.le_refl _) _).setCell (Nat.le_refl _) _) (act_of (a := actC 2 w1 n x) rfl rfl (by simp [actC]) (by simp [actC]) (by simp [actC]) (rfl) (⟨⟨_, _, _, _, rfl, rfl⟩, HS.weaken _ _ _ _ _ _ (HS.mono _ _ _ _ _ _ (HS.weaken _ (wr.heap.size < ·) _ _ _ _ hp (fun b hb ho => by simp at ho; show wr.heap.size < b; omega)) (keeps_set (keeps_set (Go.Ai.Keeps.refl _ w2) (by simp) _) (by simp) _)) (fun b hb ho => by have : wr.heap.size < b := ho; show wr.heap.size ≤ b; omega)⟩) (byt_none _ _) (keep_none _ _)) hown4 hgrow4 (by simpa using hat) HE.out HDR.out h5 h4 HKC.out (by decide) (by simp), by simp [intOf]; omega⟩
      · go_wp2_with (first | (go_at_call 21; ((with_reducible refine (HK2.out _ (by repeat (first | exact HB.out | refine Below.alloc ?_ (by simp; try omega) _ | refine Below.drew ?_))).mono ?_); rintro e w' ⟨rfl, rfl⟩)) | (go_at_call 21; ((with_reducible refine (HK3.out _ (by repeat (first | exact HB.out | refine Below.alloc ?_ (by simp; try omega) _ | refine Below.drew ?_))).mono ?_); rintro e w' ⟨rfl, rfl⟩)) | (go_at_call 21; ((with_reducible refine (HK0.out _ (by repeat (first | exact HB.out | refine Below.alloc ?_ (by simp; try omega) _ | refine Below.drew ?_))).mono ?_); rintro e w' ⟨rfl, rfl⟩)) | (go_at_call 21; ((with_reducible refine (HK1.out _ (by repeat (first | exact HB.out | refine Below.alloc ?_ (by simp; try omega) _ | refine Below.drew ?_))).mono ?_); rintro e w' ⟨rfl, rfl⟩)) | (go_at_call 22; refine (K22 _).mono ?_; rintro e w' ⟨rfl, rfl⟩) | (at_builtin; go_must (refine wpList_append_lies _ (by rfl) _ _ 24 (by rfl) w.heap.size 36 i0 _ 10 128 Tryd.underlying24 hi0 hz0 hz1 hz2 rfl (by omega) _ done.length xs (by rfl) ((HOWN.out.alloc _).alloc _) ⟨wr.heap.size + 1, 0, none⟩ 1 1 _ (by rfl) rfl (news10h (by simp)) (by simp [Value.oneCell']) (by omega) (by unfold maxLen; omega) (by omega) (by have := HB.out.size; simp; omega) (wr.heap.size + 1 + 1) (by simp) ?_); intro g cap1 w4 hown4 hgrow4 hat hlt4))
        refine ⟨end9 HS HB.out HOWN.out HACTS.out ((Below.refl _ _).alloc (Nat.le_refl _) _) (act_of (a := actC 3 w1 n x) rfl rfl (by simp [actC]) (by simp [actC]) (by simp [actC]) (rfl) (⟨rfl, rfl⟩) (byt_none _ _) (keep_none _ _)) hown4 hgrow4 (by simpa using hat) HE.out HDR.out h5 h4 HKC.out (by decide) (by simp), by simp [intOf]; omega⟩
      · go_wp2_with (first | (go_at_call 21; ((with_reducible refine (HK2.out _ (by repeat (first | exact HB.out | refine Below.alloc ?_ (by simp; try omega) _ | refine Below.drew ?_))).mono ?_); rintro e w' ⟨rfl, rfl⟩)) | (go_at_call 21; ((with_reducible refine (HK3.out _ (by repeat (first | exact HB.out | refine Below.alloc ?_ (by simp; try omega) _ | refine Below.drew ?_))).mono ?_); rintro e w' ⟨rfl, rfl⟩)) | (go_at_call 21; ((with_reducible refine (HK0.out _ (by repeat (first | exact HB.out | refine Below.alloc ?_ (by simp; try omega) _ | refine Below.drew ?_))).mono ?_); rintro e w' ⟨rfl, rfl⟩)) | (go_at_call 21; ((with_reducible refine (HK1.out _ (by repeat (first | exact HB.out | refine Below.alloc ?_ (by simp; try omega) _ | refine Below.drew ?_))).mono ?_); rintro e w' ⟨rfl, rfl⟩)) | (go_at_call 22; refine (K22 _).mono ?_; rintro e w' ⟨rfl, rfl⟩) | (at_builtin; go_must (refine wpList_append_lies _ (by rfl) _ _ 24 (by rfl) w.heap.size 36 i0 _ 10 128 Tryd.underlying24 hi0 hz0 hz1 hz2 rfl (by omega) _ done.length xs (by rfl) ((HOWN.out.alloc _).alloc _) ⟨wr.heap.size + 1, 0, none⟩ 1 1 _ (by rfl) rfl (news10h (by simp)) (by simp [Value.oneCell']) (by omega) (by unfold maxLen; omega) (by omega) (by have := HB.out.size; simp; omega) (wr.heap.size + 1 + 1) (by simp) ?_); intro g cap1 w4 hown4 hgrow4 hat hlt4))
        refine ⟨end9 HS HB.out HOWN.out HACTS.out ((Below.refl _ _).alloc (Nat.le_refl _) _) (act_of (a := actC 4 w1 n x) rfl rfl (by simp [actC]) (by simp [actC]) (by simp [actC]) (rfl) (⟨rfl, rfl⟩) (byt_none _ _) (keep_none _ _)) hown4 hgrow4 (by simpa using hat) HE.out HDR.out h5 h4 HKC.out (by decide) (by simp), by simp [intOf]; omega⟩
      · go_wp2_with (first | (go_at_call 21; ((with_reducible refine (HK2.out _ (by repeat (first | exact HB.out | refine Below.alloc ?_ (by simp; try omega) _ | refine Below.drew ?_))).mono ?_); rintro e w' ⟨rfl, rfl⟩)) | (go_at_call 21; ((with_reducible refine (HK3.out _ (by repeat (first | exact HB.out | refine Below.alloc ?_ (by simp; try omega) _ | refine Below.drew ?_))).mono ?_); rintro e w' ⟨rfl, rfl⟩)) | (go_at_call 21; ((with_reducible refine (HK0.out _ (by repeat (first | exact HB.out | refine Below.alloc ?_ (by simp; try omega) _ | refine Below.drew ?_))).mono ?_); rintro e w' ⟨rfl, rfl⟩)) | (go_at_call 21; ((with_reducible refine (HK1.out _ (by repeat (first | exact HB.out | refine Below.alloc ?_ (by simp; try omega) _ | refine Below.drew ?_))).mono ?_); rintro e w' ⟨rfl, rfl⟩)) | (go_at_call 22; refine (K22 _).mono ?_; rintro e w' ⟨rfl, rfl⟩) | (at_builtin; go_must (refine wpList_append_lies _ (by rfl) _ _ 24 (by rfl) w.heap.size 36 i0 _ 10 128 Tryd.underlying24 hi0 hz0 hz1 hz2 rfl (by omega) _ done.length xs (by rfl) ((HOWN.out.alloc _).alloc _) ⟨wr.heap.size + 1, 0, none⟩ 1 1 _ (by rfl) rfl (news10h (by simp)) (by simp [Value.oneCell']) (by omega) (by unfold maxLen; omega) (by omega) (by have := HB.out.size; simp; omega) (wr.heap.size + 1 + 1) (by simp) ?_); intro g cap1 w4 hown4 hgrow4 hat hlt4))
        refine ⟨end9 HS HB.out HOWN.out HACTS.out ((Below.refl _ _).alloc (Nat.le_refl _) _) (act_of (a := actC 5 w1 n x) rfl rfl (by simp [actC]) (by simp [actC]) (by simp [actC]) (rfl) (⟨rfl, rfl⟩) (byt_none _ _) (keep_none _ _)) hown4 hgrow4 (by simpa using hat) HE.out HDR.out h5 h4 HKC.out (by decide) (by simp), by simp [intOf]; omega⟩
      · go_wp2_with (first | (go_at_call 21; ((with_reducible refine (HK2.out _ (by repeat (first | exact HB.out | refine Below.alloc ?_ (by simp; try omega) _ | refine Below.drew ?_))).mono ?_); rintro e w' ⟨rfl, rfl⟩)) | (go_at_call 21; ((with_reducible refine (HK3.out _ (by repeat (first | exact HB.out | refine Below.alloc ?_ (by simp; try omega) _ | refine Below.drew ?_))).mono ?_); rintro e w' ⟨rfl, rfl⟩)) | (go_at_call 21; ((with_reducible refine (HK0.out _ (by repeat (first | exact HB.out | refine Below.alloc ?_ (by simp; try omega) _ | refine Below.drew ?_))).mono ?_); rintro e w' ⟨rfl, rfl⟩)) | (go_at_call 21; ((with_reducible refine (HK1.out _ (by repeat (first | exact HB.out | refine Below.alloc ?_ (by simp; try omega) _ | refine Below.drew ?_))).mono ?_); rintro e w' ⟨rfl, rfl⟩)) | (go_at_call 22; refine (K22 _).mono ?_; rintro e w' ⟨rfl, rfl⟩) | (at_builtin; go_must (refine wpList_append_lies _ (by rfl) _ _ 24 (by rfl) w.heap.size 36 i0 _ 10 128 Tryd.underlying24 hi0 hz0 hz1 hz2 rfl (by omega) _ done.length xs (by rfl) ((HOWN.out.alloc _).alloc _) ⟨wr.heap.size + 1, 0, none⟩ 1 1 _ (by rfl) rfl (news10h (by simp)) (by simp [Value.oneCell']) (by omega) (by unfold maxLen; omega) (by omega) (by have := HB.out.size; simp; omega) (wr.heap.size + 1 + 1) (by simp) ?_); intro g cap1 w4 hown4 hgrow4 hat hlt4))
        refine ⟨end9 HS HB.out HOWN.out HACTS.out ((Below.refl _ _).alloc (Nat.le_refl _) _) (act_of (a := actC 6 w1 n x) rfl rfl (by simp [actC]) (by simp [actC]) (by simp [actC]) (rfl) (⟨rfl, rfl⟩) (byt_none _ _) (keep_none _ _)) hown4 hgrow4 (by simpa using hat) HE.out HDR.out h5 h4 HKC.out (by decide) (by simp), by simp [intOf]; omega⟩
      · go_wp2_with (first | (go_at_call 21; ((with_reducible refine (HK2.out _ (by repeat (first | exact HB.out | refine Below.alloc ?_ (by simp; try omega) _ | refine Below.drew ?_))).mono ?_); rintro e w' ⟨rfl, rfl⟩)) | (go_at_call 21; ((with_reducible refine (HK3.out _ (by repeat (first | exact HB.out | refine Below.alloc ?_ (by simp; try omega) _ | refine Below.drew ?_))).mono ?_); rintro e w' ⟨rfl, rfl⟩)) | (go_at_call 21; ((with_reducible refine (HK0.out _ (by repeat (first | exact HB.out | refine Below.alloc ?_ (by simp; try omega) _ | refine Below.drew ?_))).mono ?_); rintro e w' ⟨rfl, rfl⟩)) | (go_at_call 21; ((with_reducible refine (HK1.out _ (by repeat (first | exact HB.out | refine Below.alloc ?_ (by simp; try omega) _ | refine Below.drew ?_))).mono ?_); rintro e w' ⟨rfl, rfl⟩)) | (go_at_call 22; refine (K22 _).mono ?_; rintro e w' ⟨rfl, rfl⟩) | (at_builtin; go_must (refine wpList_append_lies _ (by rfl) _ _ 24 (by rfl) w.heap.size 36 i0 _ 10 128 Tryd.underlying24 hi0 hz0 hz1 hz2 rfl (by omega) _ done.length xs (by rfl) ((HOWN.out.alloc _).alloc _) ⟨wr.heap.size + 1, 0, none⟩ 1 1 _ (by rfl) rfl (news10h (by simp)) (by simp [Value.oneCell']) (by omega) (by unfold maxLen; omega) (by omega) (by have := HB.out.size; simp; omega) (wr.heap.size + 1 + 1) (by simp) ?_); intro g cap1 w4 hown4 hgrow4 hat hlt4))
        refine ⟨end9 HS HB.out HOWN.out HACTS.out ((Below.refl _ _).alloc (Nat.le_refl _) _) (act_of (a := actC 7 w1 n x) rfl rfl (by simp [actC]) (by simp [actC]) (by simp [actC]) (rfl) (⟨rfl, rfl⟩) (byt_none _ _) (keep_none _ _)) hown4 hgrow4 (by simpa using hat) HE.out HDR.out h5 h4 HKC.out (by decide) (by simp), by simp [intOf]; omega⟩
      · go_wp2_with (first | (go_at_call 21; ((with_reducible refine (HK2.out _ (by repeat (first | exact HB.out | refine Below.alloc ?_ (by simp; try omega) _ | refine Below.drew ?_))).mono ?_); rintro e w' ⟨rfl, rfl⟩)) | (go_at_call 21; ((with_reducible refine (HK3.out _ (by repeat (first | exact HB.out | refine Below.alloc ?_ (by simp; try omega) _ | refine Below.drew ?_))).mono ?_); rintro e w' ⟨rfl, rfl⟩)) | (go_at_call 21; ((with_reducible refine (HK0.out _ (by repeat (first | exact HB.out | refine Below.alloc ?_ (by simp; try omega) _ | refine Below.drew ?_))).mono ?_); rintro e w' ⟨rfl, rfl⟩)) | (go_at_call 21; ((with_reducible refine (HK1.out _ (by repeat (first | exact HB.out | refine Below.alloc ?_ (by simp; try omega) _ | refine Below.drew ?_))).mono ?_); rintro e w' ⟨rfl, rfl⟩)) | (go_at_call 22; refine (K22 _).mono ?_; rintro e w' ⟨rfl, rfl⟩) | (at_builtin; go_must (refine wpList_append_lies _ (by rfl) _ _ 24 (by rfl) w.heap.size 36 i0 _ 10 128 Tryd.underlying24 hi0 hz0 hz1 hz2 rfl (by omega) _ done.length xs (by rfl) ((HOWN.out.alloc _).alloc _) ⟨wr.heap.size + 1, 0, none⟩ 1 1 _ (by rfl) rfl (news10h (by simp)) (by simp [Value.oneCell']) (by omega) (by unfold maxLen; omega) (by omega) (by have := HB.out.size; simp; omega) (wr.heap.size + 1 + 1) (by simp) ?_); intro g cap1 w4 hown4 hgrow4 hat hlt4))
        refine ⟨end9 HS HB.out HOWN.out HACTS.out ((Below.refl _ _).alloc (Nat.le_refl _) _) (act_of (a := actC 8 w1 n x) rfl rfl (by simp [actC]) (by simp [actC]) (by simp [actC]) (rfl) (⟨rfl, rfl⟩) (byt_none _ _) (keep_none _ _)) hown4 hgrow4 (by simpa using hat) HE.out HDR.out h5 h4 HKC.out (by decide) (by simp), by simp [intOf]; omega⟩
      · go_wp2_with (first | (go_at_call 21; ((with_reducible refine (HK2.out _ (by repeat (first | exact HB.out | refine Below.alloc ?_ (by simp; try omega) _ | refine Below.drew ?_))).mono ?_); rintro e w' ⟨rfl, rfl⟩)) | (go_at_call 21; ((with_reducible refine (HK3.out _ (by repeat (first | exact HB.out | refine Below.alloc ?_ (by simp; try omega) _ | refine Below.drew ?_))).mono ?_); rintro e w' ⟨rfl, rfl⟩)) | (go_at_call 21; ((with_reducible refine (HK0.out _ (by repeat (first | exact HB.out | refine Below.alloc ?_ (by simp; try omega) _ | refine Below.drew ?_))).mono ?_); rintro e w' ⟨rfl, rfl⟩)) | (go_at_call 21; ((with_reducible refine (HK1.out _ (by repeat (first | exact HB.out | refine Below.alloc ?_ (by simp; try omega) _ | refine Below.drew ?_))).mono ?_); rintro e w' ⟨rfl, rfl⟩)) | (go_at_call 22; refine (K22 _).mono ?_; rintro e w' ⟨rfl, rfl⟩) | (at_builtin; go_must (refine wpList_append_lies _ (by rfl) _ _ 24 (by rfl) w.heap.size 36 i0 _ 10 128 Tryd.underlying24 hi0 hz0 hz1 hz2 rfl (by omega) _ done.length xs (by rfl) (((HOWN.out.alloc _).alloc _).alloc _) ⟨wr.heap.size + 1 + 1, 0, none⟩ 1 1 _ (by rfl) rfl (news10h (by simp)) (by simp [Value.oneCell']) (by omega) (by unfold maxLen; omega) (by omega) (by have := HB.out.size; simp; omega) (wr.heap.size + 1 + 1 + 1) (by simp) ?_); intro g cap1 w4 hown4 hgrow4 hat hlt4))
        refine ⟨end9 HS HB.out HOWN.out HACTS.out (b2 wr _ _) (act_of (a := actC 9 w1 n x) rfl rfl (by simp [actC]) (by simp [actC]) (by simp [actC]) (rfl) (⟨rfl, rfl⟩) (byt_none _ _) (keep_new n x (n + x) _ (by simp) (by simp) rfl (by simp))) hown4 hgrow4 (by simpa using hat) HE.out HDR.out h5 h4 HKC.out (by decide) (by simp), by simp [intOf]; omega⟩
      · go_wp2_with (first | (go_at_call 21; ((with_reducible refine (HK2.out _ (by repeat (first | exact HB.out | refine Below.alloc ?_ (by simp; try omega) _ | refine Below.drew ?_))).mono ?_); rintro e w' ⟨rfl, rfl⟩)) | (go_at_call 21; ((with_reducible refine (HK3.out _ (by repeat (first | exact HB.out | refine Below.alloc ?_ (by simp; try omega) _ | refine Below.drew ?_))).mono ?_); rintro e w' ⟨rfl, rfl⟩)) | (go_at_call 21; ((with_reducible refine (HK0.out _ (by repeat (first | exact HB.out | refine Below.alloc ?_ (by simp; try omega) _ | refine Below.drew ?_))).mono ?_); rintro e w' ⟨rfl, rfl⟩)) | (go_at_call 21; ((with_reducible refine (HK1.out _ (by repeat (first | exact HB.out | refine Below.alloc ?_ (by simp; try omega) _ | refine Below.drew ?_))).mono ?_); rintro e w' ⟨rfl, rfl⟩)) | (go_at_call 22; refine (K22 _).mono ?_; rintro e w' ⟨rfl, rfl⟩) | (at_builtin; go_must (refine wpList_append_lies _ (by rfl) _ _ 24 (by rfl) w.heap.size 36 i0 _ 10 128 Tryd.underlying24 hi0 hz0 hz1 hz2 rfl (by omega) _ done.length xs (by rfl) ((HOWN.out.alloc _).alloc _) ⟨wr.heap.size + 1, 0, none⟩ 1 1 _ (by rfl) rfl (news10h (by simp)) (by simp [Value.oneCell']) (by omega) (by unfold maxLen; omega) (by omega) (by have := HB.out.size; simp; omega) (wr.heap.size + 1 + 1) (by simp) ?_); intro g cap1 w4 hown4 hgrow4 hat hlt4))
        refine ⟨end9 HS HB.out HOWN.out HACTS.out ((Below.refl _ _).alloc (Nat.le_refl _) _) (act_of (a := actC 10 w1 n x) rfl rfl (by simp [actC]) (by simp [actC]) (by simp [actC]) (rfl) (⟨rfl, rfl⟩) (byt_none _ _) (keep_none _ _)) hown4 hgrow4 (by simpa using hat) HE.out HDR.out h5 h4 HKC.out (by decide) (by simp), by simp [intOf]; omega⟩
      · obtain ⟨wo, rfl⟩ : ∃ wo : World, wo = wr := ⟨_, rfl⟩
        obtain ⟨j0, hj0, hjz0, hjz1, hjz2⟩ := info_parts info5
        go_wp2_with (first | (go_at_call 21; ((with_reducible refine (HK2.out _ (by repeat (first | exact HB.out | refine Below.alloc ?_ (by simp; try omega) _ | refine Below.drew ?_))).mono ?_); rintro e w' ⟨rfl, rfl⟩)) | (go_at_call 21; ((with_reducible refine (HK3.out _ (by repeat (first | exact HB.out | refine Below.alloc ?_ (by simp; try omega) _ | refine Below.drew ?_))).mono ?_); rintro e w' ⟨rfl, rfl⟩)) | (go_at_call 21; ((with_reducible refine (HK0.out _ (by repeat (first | exact HB.out | refine Below.alloc ?_ (by simp; try omega) _ | refine Below.drew ?_))).mono ?_); rintro e w' ⟨rfl, rfl⟩)) | (go_at_call 21; ((with_reducible refine (HK1.out _ (by repeat (first | exact HB.out | refine Below.alloc ?_ (by simp; try omega) _ | refine Below.drew ?_))).mono ?_); rintro e w' ⟨rfl, rfl⟩)) | (go_at_call 22; refine (K22 _).mono ?_; rintro e w' ⟨rfl, rfl⟩))
        go_loopw [4, 8] (fun vi vj W => Q9 L wo.heap.size i n wo w1 vi vj W) (fun _ vj _ => n % 16 - (intOf vj).toNat)
        case atStart => exact q9_start h4 (by simp)
        case round =>
          obtain ⟨j, q, v8, rfl, rfl, hq, hj, hql, hcs, hf8, hv8, hBo, hna⟩ := hrel
          obtain ⟨p8, l8, m8, rfl⟩ : ∃ p l c, v8 = .slice p l c := by
            rcases hv8.2 with ⟨h, _⟩ | ⟨_, _, _, h, _⟩ <;> exact ⟨_, _, _, h⟩
          obtain ⟨y0, y1, y2, y3, y4, y5, y6, y7, y8, y9⟩ := id hcs
          have hqj : (q : Int) = (i : Int) + 4 + (j : Int) := by omega
          have HQ := Lib.hid hq; have HV := Lib.hid hv8; have HBO := Lib.hid hBo; have HCS := Lib.hid hcs
          have hne : (Value.slice p8 l8 m8).ownBlock ≠ some wo.heap.size := fun h => by have := (hv8.lt _ h).1; omega
          have hBw2 := Lib.hid (HB.out.trans (hBo.mono HB.out.size))
          have hbv : (Value.slice p8 l8 m8).ownBlock ≠ some blk := fun h => by have := (hv8.lt _ h).1; have := HB.out.size; omega
          clear hq hqj hv8 hBo hcs
          by_cases hjl : j < n % 16
          · by_cases hq2 : q < L.length
            · obtain ⟨y, ey⟩ : ∃ y, L[q]? = some y := ⟨_, List.getElem?_eq_getElem hq2⟩
              have qy := ((bcell hBw2.out).1 _ _ hlt).trans (HC.out q y ey)
              have HEY := Lib.hid ey
              have hltw : blk < wr.heap.size := Nat.lt_of_lt_of_le hlt hBw2.out.size
              have n1 := World.new_ne wr _ qy
              have n2 := World.new_ne wr _ y8
              have ij : (j : Int) < (n : Int) % 16 := by omega
              have iq : (q : Int) < (L.length : Int) := by omega
              clear ey
              go_wp2
              go_region_law ((refine step_append_lies _ (by rfl) _ _ _ (by rfl) (wo.heap.size + 1) 5 j0 _ 1 1 Tryd.underlying22 hj0 hjz0 hjz1 hjz2 rfl (by omega) (.slice p8 l8 m8) j _ (by rfl) ((HV.out.alloc _).drew) ⟨wr.heap.size, 0, none⟩ 1 1 [.int .u8 (y : Int)] (by rfl) (by rfl) (World.news_of_block (cs := #[.int .u8 (y : Int)]) (t := 5) (fr := (0, 0)) (heap_alloc_new wr _)) (by simp [Value.oneCell']) (by omega) (by unfold maxLen; omega) (by omega) (by have := HBO.out.size; simp; omega) (wr.heap.size + 1) (by simp) ?_; intro g cap4 w4 hown4 hgrow hat hlt4; have ga := grown_at hgrow (b := wo.heap.size) (by simp; omega) hne; have gb := grown_at hgrow (b := blk) (by simp; omega) hbv; have ga8 := (ga.1 8).trans (((bcell (((Below.refl _ wr).alloc (Nat.le_refl _) _).drew)).1 _ 8 hna).trans y8); have gf8 := (ga.2 8).trans (((bcell (((Below.refl _ wr).alloc (Nat.le_refl _) _).drew)).2 _ 8 hna).trans hf8); have gq := (gb.1 (o + q)).trans (((bcell (((Below.refl _ wr).alloc (Nat.le_refl _) _).drew)).1 _ (o + q) hltw).trans qy); have HO4 := Lib.hid hown4; have HG4 := Lib.hid hgrow; clear ga gb hown4 hgrow hat))
              all_goals go_wp2
              all_goals go_roundw
              all_goals first
                | (simp [intOf]; omega)
                | exact q9_step hjl HQ.out hq2 HEY.out HCS.out hf8 HV.out HBO.out hna (Nat.le_refl _) HO4.out HG4.out
            · have ij : (j : Int) < (n : Int) % 16 := by omega
              have iq : ¬ (q : Int) < (L.length : Int) := by omega
              have HOW := Lib.hid (own_below HOWN.out HBO.out)
              go_wp2_with (at_builtin; go_must (refine wpList_append_lies _ (by rfl) _ _ 24 (by rfl) w.heap.size 36 i0 _ 10 128 Tryd.underlying24 hi0 hz0 hz1 hz2 rfl (by omega) _ done.length xs (by rfl) (HOW.out.alloc _) ⟨wr.heap.size, 0, none⟩ 1 1 _ (by rfl) rfl (news10h (by simp)) (by simp [Value.oneCell']) (by omega) (by unfold maxLen; omega) (by omega) (by have := hBw2.out.size; simp; omega) (wr.heap.size + 1) (by simp) ?_); intro g cap1 w4 hown4 hgrow4 hat hlt4)
              refine ⟨end9r HS HB.out HOWN.out HACTS.out HBO.out HV.out hown4 hgrow4 (by simpa using hat) HE.out HDR.out h5 HQ.out hql (by have := HQ.out; rw [List.length_drop]; omega) HKC.out, by have := HQ.out; simp [intOf]; omega⟩
          · have ij : ¬ (j : Int) < (n : Int) % 16 := by omega
            have HOW := Lib.hid (own_below HOWN.out HBO.out)
            go_wp2_with (at_builtin; go_must (refine wpList_append_lies _ (by rfl) _ _ 24 (by rfl) w.heap.size 36 i0 _ 10 128 Tryd.underlying24 hi0 hz0 hz1 hz2 rfl (by omega) _ done.length xs (by rfl) (HOW.out.alloc _) ⟨wr.heap.size, 0, none⟩ 1 1 _ (by rfl) rfl (news10h (by simp)) (by simp [Value.oneCell']) (by omega) (by unfold maxLen; omega) (by omega) (by have := hBw2.out.size; simp; omega) (wr.heap.size + 1) (by simp) ?_); intro g cap1 w4 hown4 hgrow4 hat hlt4)
            refine ⟨end9r HS HB.out HOWN.out HACTS.out HBO.out HV.out hown4 hgrow4 (by simpa using hat) HE.out HDR.out h5 HQ.out hql (by have := HQ.out; rw [List.length_drop]; omega) HKC.out, by have := HQ.out; simp [intOf]; omega⟩
      · go_wp2_with (first | (go_at_call 21; ((with_reducible refine (HK2.out _ (by repeat (first | exact HB.out | refine Below.alloc ?_ (by simp; try omega) _ | refine Below.drew ?_))).mono ?_); rintro e w' ⟨rfl, rfl⟩)) | (go_at_call 21; ((with_reducible refine (HK3.out _ (by repeat (first | exact HB.out | refine Below.alloc ?_ (by simp; try omega) _ | refine Below.drew ?_))).mono ?_); rintro e w' ⟨rfl, rfl⟩)) | (go_at_call 21; ((with_reducible refine (HK0.out _ (by repeat (first | exact HB.out | refine Below.alloc ?_ (by simp; try omega) _ | refine Below.drew ?_))).mono ?_); rintro e w' ⟨rfl, rfl⟩)) | (go_at_call 21; ((with_reducible refine (HK1.out _ (by repeat (first | exact HB.out | refine Below.alloc ?_ (by simp; try omega) _ | refine Below.drew ?_))).mono ?_); rintro e w' ⟨rfl, rfl⟩)) | (go_at_call 22; refine (K22 _).mono ?_; rintro e w' ⟨rfl, rfl⟩) | (at_builtin; go_must (refine wpList_append_lies _ (by rfl) _ _ 24 (by rfl) w.heap.size 36 i0 _ 10 128 Tryd.underlying24 hi0 hz0 hz1 hz2 rfl (by omega) _ done.length xs (by rfl) ((HOWN.out.alloc _).alloc _) ⟨wr.heap.size + 1, 0, none⟩ 1 1 _ (by rfl) rfl (news10h (by simp)) (by simp [Value.oneCell']) (by omega) (by unfold maxLen; omega) (by omega) (by have := HB.out.size; simp; omega) (wr.heap.size + 1 + 1) (by simp) ?_); intro g cap1 w4 hown4 hgrow4 hat hlt4))
        refine ⟨end9 HS HB.out HOWN.out HACTS.out ((Below.refl _ _).alloc (Nat.le_refl _) _) (act_of (a := actC 12 w1 n x) rfl rfl (by simp [actC]) (by simp [actC]) (by simp [actC]) (rfl) (⟨rfl, rfl⟩) (byt_none _ _) (keep_none _ _)) hown4 hgrow4 (by simpa using hat) HE.out HDR.out h5 h4 HKC.out (by decide) (by simp), by simp [intOf]; omega⟩
      · go_wp2_with (first | (go_at_call 21; ((with_reducible refine (HK2.out _ (by repeat (first | exact HB.out | refine Below.alloc ?_ (by simp; try omega) _ | refine Below.drew ?_))).mono ?_); rintro e w' ⟨rfl, rfl⟩)) | (go_at_call 21; ((with_reducible refine (HK3.out _ (by repeat (first | exact HB.out | refine Below.alloc ?_ (by simp; try omega) _ | refine Below.drew ?_))).mono ?_); rintro e w' ⟨rfl, rfl⟩)) | (go_at_call 21; ((with_reducible refine (HK0.out _ (by repeat (first | exact HB.out | refine Below.alloc ?_ (by simp; try omega) _ | refine Below.drew ?_))).mono ?_); rintro e w' ⟨rfl, rfl⟩)) | (go_at_call 21; ((with_reducible refine (HK1.out _ (by repeat (first | exact HB.out | refine Below.alloc ?_ (by simp; try omega) _ | refine Below.drew ?_))).mono ?_); rintro e w' ⟨rfl, rfl⟩)) | (go_at_call 22; refine (K22 _).mono ?_; rintro e w' ⟨rfl, rfl⟩) | (at_builtin; go_must (refine wpList_append_lies _ (by rfl) _ _ 24 (by rfl) w.heap.size 36 i0 _ 10 128 Tryd.underlying24 hi0 hz0 hz1 hz2 rfl (by omega) _ done.length xs (by rfl) ((HOWN.out.alloc _).alloc _) ⟨wr.heap.size + 1, 0, none⟩ 1 1 _ (by rfl) rfl (news10h (by simp)) (by simp [Value.oneCell']) (by omega) (by unfold maxLen; omega) (by omega) (by have := HB.out.size; simp; omega) (wr.heap.size + 1 + 1) (by simp) ?_); intro g cap1 w4 hown4 hgrow4 hat hlt4))
        refine ⟨end9 HS HB.out HOWN.out HACTS.out ((Below.refl _ _).alloc (Nat.le_refl _) _) (act_of (a := actC 13 w1 n x) rfl rfl (by simp [actC]) (by simp [actC]) (by simp [actC]) (rfl) (⟨rfl, rfl⟩) (byt_none _ _) (keep_none _ _)) hown4 hgrow4 (by simpa using hat) HE.out HDR.out h5 h4 HKC.out (by decide) (by simp), by simp [intOf]; omega⟩
    · have hfin : done = actsL 1024 L := by
        have he := HE.out
        by_cases h4 : (L.drop i).length < 4
        · rw [actsL_short h4, List.append_nil] at he; exact he
        · rw [List.length_drop] at h4
          rw [show 1024 - done.length = 0 by omega] at he
          rw [← he, actsL, List.append_nil]
      have hown' : ActsOwn PP w.heap.size wr (.slice a3 done.length c3) done := ⟨xs, HOWN.out, HACTS.out⟩
      have HF := Lib.hid hfin
      have HO := Lib.hid hown'
      clear hfin hown' hcell hblk
      by_cases h4 : i + 4 ≤ L.length
      · have h5 : ¬ done.length < 1024 := fun h => hgo ⟨h4, h⟩
        clear hgo
        go_wp2
        go_ret
        exact ⟨_, rfl, by rw [← HF.out]; exact HO.out, HB.out⟩
      · clear hgo
        go_wp2
        go_ret
        exact ⟨_, rfl, by rw [← HF.out]; exact HO.out, HB.out⟩
end Go.Proofs.SA
