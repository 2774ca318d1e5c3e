/- Proved: contracts of single functions of the program and lemmas that they need; each theorem says its own conditions. -/
import Derived.Test.YtblgkhghoppanaaGreatPd
import Derived.Deep.RegionHeld3
import Derived.Deep.RegionWith
import Derived.StillTailTactics
import Derived.WalkSpells
import Derived.Laws.BytesString
import Derived.Laws.IdiomStrings
import Derived.Lib.BufferRead
set_option linter.unusedVariables false
set_option linter.unusedSimpArgs false
namespace Go.Proofs.PK
open Go.RowKit
abbrev argn (a b d : Nat) (v : Value) : Value := .agg #[.int .u8 (a : Int), .int .u32 (b : Int), .int .u64 (d : Int), v]
/-- A row of bytes, or none. -/
def RdN (w : World) (v : Value) (l : List Nat) : Prop := (∃ c, v = .slice none 0 c ∧ l = []) ∨ Rd w v l
theorem RdN.mono {w w' : World} {v : Value} {l : List Nat} (h : RdN w v l) (hB : Below w.heap.size w w') : RdN w' v l := h.imp id fun h => h.mono hB
theorem conv_rd {w : World} {v : Value} {l : List Nat} (h : RdN w v l) (hb : Byt l) : (convert 24 9 v).run Tryz.prog w = .ok (.string (S l)) w := by
  rcases h with ⟨c, rfl, rfl⟩ | ⟨b, o, cap, rfl, h1, h2⟩
  · rw [Lib.run_convert_nil_bytes w 24 9 5 c Tryz.underlying24 Tryz.underlying5 Tryz.underlying9]
    rfl
  · have h := run_convert_bytes_back (P := Tryz.prog) w 24 9 5 ⟨b, o, none⟩ cap (l.map UInt8.ofNat) Tryz.underlying24 Tryz.underlying5 Tryz.underlying9 (fun j hj => by
      rw [List.length_map] at hj
      refine h2 j _ ?_
      have hx := hb l[j] (List.getElem_mem hj)
      simp [B, hj, UInt8.toNat_ofNat', Nat.mod_eq_of_lt hx])
    rw [List.length_map] at h
    exact h
theorem rd_new (W : World) (a : Nat) : Rd (W.alloc (.cells #[.int .u8 (a : Int)] 5)) (.slice (some ⟨W.heap.size, 0, none⟩) 1 1) [a] :=
  ⟨W.heap.size, 0, 1, rfl, fun _ => by simp, one_new W (.int .u8 (a : Int)) 5⟩
theorem btrans {w w1 w2 : World} (h1 : Below w.heap.size w w1) (h2 : Below w1.heap.size w1 w2) : Below w.heap.size w w2 := h1.trans (h2.mono h1.size)
theorem own_base {w : World} {base base' : Nat} {e : TypeId} {size : Nat} {v : Value} {n : Nat} {xs : List Value} (h : w.ownsRow base e size v n xs) (hle : base' ≤ base) : w.ownsRow base' e size v n xs :=
  ⟨h.1, h.2.imp id fun ⟨g, cap, cur, e, hb, r⟩ => ⟨g, cap, cur, e, Nat.le_trans hle hb, r⟩⟩
def putL (a b d : Nat) (t : List Nat) : List Nat := ((([a] ++ enc b) ++ enc d) ++ enc t.length) ++ t
abbrev boxed (a b d : Nat) (v : Value) (w : World) : World := w.alloc (.cells #[.int .u8 (a : Int), .int .u32 (b : Int), .int .u64 (d : Int), v] 26)
set_option maxRecDepth 100000 in
set_option maxHeartbeats 1000000 in
theorem c14a (a b d : Nat) (v : Value) (s : ByteArray) (q1 q2 q3 : List Nat) (w : World) (CV : ∀ w', Below w.heap.size w w' → (convert 24 9 v).run Tryz.prog w' = .ok (.string s) w')
    (hwb : IntKind.u64.wrap (b : Int) = b) (P1 : 0 < q1.length) (P2 : 0 < q2.length)
    (C1 : Calls Tryz.prog 36 #[.slice (some ⟨w.heap.size + 1, 0, none⟩) 1 1, .int .u64 b] ((boxed a b d v w).alloc (.cells #[.int .u8 (a : Int)] 5)) (PutOut q1 ((boxed a b d v w).alloc (.cells #[.int .u8 (a : Int)] 5))))
    (C2 : ∀ v1 W, Rd W v1 q1 → Calls Tryz.prog 36 #[v1, .int .u64 d] W (PutOut q2 W))
    (C3 : ∀ v1 W, Rd W v1 q2 → Calls Tryz.prog 37 #[v1, .string s] W (PutOut q3 W)) : Calls Tryz.prog 14 #[argn a b d v] w (PutOut q3 w) := by
  have hB0 : Below w.heap.size w ((boxed a b d v w).alloc (.cells #[.int .u8 (a : Int)] 5)) := ((Below.refl _ w).alloc (Nat.le_refl _) _).alloc (by simp) _
  have lt0 : w.heap.size < ((boxed a b d v w).alloc (.cells #[.int .u8 (a : Int)] 5)).heap.size := by simp only [World.size_alloc]; omega
  go_enter Tryz.func14, Tryz.ntmps14
  go_wp2_with (first
    | (go_at_call 36; refine (C2 v1 w1 hr1).mono ?_; rintro e w2 ⟨v2, rfl, hown2, hB2⟩; have hr2 := rd_of_own hown2 P2; obtain ⟨hc2, hf2⟩ := bcell hB2; have hs2 := hB2.size; have ls2 : w.heap.size < w2.heap.size := Nat.lt_of_lt_of_le ls1 hs2; have hBw2 := btrans hBw1 hB2; have cv2 := CV w2 hBw2)
    | (go_at_call 36; refine C1.mono ?_; rintro e w1 ⟨v1, rfl, hown1, hB1⟩; have hr1 := rd_of_own hown1 P1; obtain ⟨hc1, hf1⟩ := bcell hB1; have hs1 := hB1.size; have ls1 : w.heap.size < w1.heap.size := Nat.lt_of_lt_of_le lt0 hB1.size; have hBw1 := btrans hB0 hB1)
    | (go_at_call 37; refine (C3 v2 w2 hr2).mono ?_; rintro e w3 ⟨v3, rfl, hown3, hB3⟩; have hBw3 := btrans hBw2 hB3))
  go_ret
  exact ⟨v3, rfl, own_base hown3 (Nat.le_of_lt ls2), hBw3⟩
/-- What is told lies there. -/
def Box4 (a b d : Nat) (v : Value) (n : Nat) (W : World) : Prop := W.cell? ⟨n, 0, none⟩ = some (.int .u8 a) ∧ W.cell? ⟨n, 1, none⟩ = some (.int .u32 b) ∧ W.cell? ⟨n, 2, none⟩ = some (.int .u64 d) ∧ W.cell? ⟨n, 3, none⟩ = some v
theorem Box4.mono {a b d : Nat} {v : Value} {n : Nat} {W W' : World} (h : Box4 a b d v n W) (hB : Below W.heap.size W W') (hn : n < W.heap.size) : Box4 a b d v n W' := by
  obtain ⟨hc, _⟩ := bcell hB
  exact ⟨(hc _ _ hn).trans h.1, (hc _ _ hn).trans h.2.1, (hc _ _ hn).trans h.2.2.1, (hc _ _ hn).trans h.2.2.2⟩
theorem box4_new (a b d : Nat) (v : Value) (w : World) (o : Obj) : Box4 a b d v w.heap.size ((boxed a b d v w).alloc o) := by
  have h : Box4 a b d v w.heap.size (boxed a b d v w) := by
    have h : (boxed a b d v w).heap[w.heap.size]? = some (.cells #[.int .u8 (a : Int), .int .u32 (b : Int), .int .u64 (d : Int), v] 26) := heap_alloc_new w _
    unfold Box4 World.cell?
    rw [h]
    exact ⟨rfl, rfl, rfl, rfl⟩
  exact h.mono ((Below.refl _ _).alloc (Nat.le_refl _) _) (by simp)
theorem Box4.drew {a b d : Nat} {v : Value} {n : Nat} {W : World} (h : Box4 a b d v n W) : Box4 a b d v n W.drew := h
theorem Rd.drew {W : World} {v : Value} {l : List Nat} (h : Rd W v l) : Rd W.drew v l := h
theorem rd_new2 (W : World) (n : Nat) (hn : n = W.heap.size) (a : Nat) : Rd (W.alloc (.cells #[.int .u8 (a : Int)] 5)) (.slice (some ⟨n, 0, none⟩) 1 1) [a] := by
  subst hn
  exact rd_new W a
set_option maxRecDepth 100000 in
set_option maxHeartbeats 1000000 in
theorem c11a (a b d : Nat) (v : Value) (s : ByteArray) (q1 q2 q3 : List Nat) (w : World) (CV : ∀ w', Below w.heap.size w w' → (convert 24 9 v).run Tryz.prog w' = .ok (.string s) w')
    (hwb : IntKind.u64.wrap (b : Int) = b) (P1 : 0 < q1.length) (P2 : 0 < q2.length)
    (C1 : ∀ v1 W, Rd W v1 [a] → Calls Tryz.prog 32 #[v1, .int .u64 b] W (PutOut q1 W))
    (C2 : ∀ v1 W, Rd W v1 q1 → Calls Tryz.prog 32 #[v1, .int .u64 d] W (PutOut q2 W))
    (C3 : ∀ v1 W, Rd W v1 q2 → Calls Tryz.prog 33 #[v1, .string s] W (PutOut q3 W)) : Calls Tryz.prog 11 #[argn a b d v] w (PutOut q3 w) := by
  have hB0 : Below w.heap.size w ((boxed a b d v w).alloc (.cells #[.int .u8 (a : Int)] 5)) := ((Below.refl _ w).alloc (Nat.le_refl _) _).alloc (by simp) _
  have lt0 : w.heap.size < ((boxed a b d v w).alloc (.cells #[.int .u8 (a : Int)] 5)).drew.heap.size := by simp only [World.size_drew, World.size_alloc]; omega
  go_enter Tryz.func11, Tryz.ntmps11
  go_wp2
  go_region_held3 (fun w' => w'.cell? ⟨w.heap.size, 0, none⟩ = some (.int .u8 a) ∧ w'.cell? ⟨w.heap.size, 1, none⟩ = some (.int .u32 b) ∧ w'.cell? ⟨w.heap.size, 2, none⟩ = some (.int .u64 d) ∧ w'.cell? ⟨w.heap.size, 3, none⟩ = some v) (go_keep)
    (first
      | (go_at_call 32; refine (C2 v1 w1 hr1).mono ?_; rintro e w2 ⟨v2, rfl, hown2, hB2⟩; have hr2 := rd_of_own hown2 P2; obtain ⟨hc2, hf2⟩ := bcell hB2; have hs2 := hB2.size; have ls2 : w.heap.size < w2.heap.size := Nat.lt_of_lt_of_le ls1 hs2; have hBw2 := btrans hBw1 hB2; have hx2 := hx1.mono hB2 ls1; have hy2 := hx2; obtain ⟨y0, y1, y2, y3⟩ := hy2)
      | (go_at_call 32; refine (C1 _ _ (Rd.drew (rd_new2 _ _ (by simp) a))).mono ?_; rintro e w1 ⟨v1, rfl, hown1, hB1⟩; have hr1 := rd_of_own hown1 P1; obtain ⟨hc1, hf1⟩ := bcell hB1; have hs1 := hB1.size; have ls1 : w.heap.size < w1.heap.size := Nat.lt_of_lt_of_le lt0 hs1; have hBw1 := btrans hB0.drew hB1; have hx1 := (box4_new a b d v w _).drew.mono hB1 lt0; have hy1 := hx1; obtain ⟨x0, x1, x2, x3⟩ := hy1))
  rename_i hS
  clear hS hc1 hf1 hc2 hf2
  have cv2 := CV w2 hBw2
  go_wp2_with (first
    | (go_at_call 33; refine (C3 v2 w2 hr2).mono ?_; rintro e w3 ⟨v3, rfl, hown3, hB3⟩; have hBw3 := btrans hBw2 hB3))
  go_ret
  exact ⟨v3, rfl, own_base hown3 (Nat.le_of_lt ls2), hBw3⟩
theorem put_lens (a b d : Nat) (hb : b < 4294967296) (hd : d < 18446744073709551616) : ([a] ++ enc b).length ≤ 11 ∧ (([a] ++ enc b) ++ enc d).length ≤ 21 ∧ 0 < ([a] ++ enc b).length ∧ 0 < (([a] ++ enc b) ++ enc d).length := by
  have e1 := enc_ten (n := b) (by omega)
  have e2 := enc_ten hd
  simp only [List.length_append, List.length_cons, List.length_nil]
  omega
theorem wrap_u32 (b : Nat) (hb : b < 4294967296) : IntKind.u64.wrap (b : Int) = b := by
  have : IntKind.u64.wrap (b : Int) = (b : Int) % 18446744073709551616 := by simp [IntKind.wrap, IntKind.bits, IntKind.signed]
  rw [this]
  omega
theorem c11 (a b d : Nat) (v : Value) (t : List Nat) (w : World) (hb : b < 4294967296) (hd : d < 18446744073709551616) (h : RdN w v t) (ht : t.length ≤ 70000) (hby : Byt t) : Calls Tryz.prog 11 #[argn a b d v] w (PutOut (putL a b d t) w) := by
  obtain ⟨l1, l2, p1, p2⟩ := put_lens a b d hb hd
  exact c11a a b d v (S t) _ _ _ w (fun w' hB => conv_rd (h.mono hB) hby) (wrap_u32 b hb) p1 p2 (fun v1 W hr => c32 v1 _ b W hr (by simp) (by omega)) (fun v1 W hr => c32 v1 _ d W hr (by omega) hd)
    (fun v1 W hr => d33 v1 _ t (S t) W hr (by omega) (by omega) (strCells_S hby) (S_size t))
theorem c14 (a b d : Nat) (v : Value) (t : List Nat) (w : World) (hb : b < 4294967296) (hd : d < 18446744073709551616) (h : RdN w v t) (ht : t.length ≤ 70000) (hby : Byt t) : Calls Tryz.prog 14 #[argn a b d v] w (PutOut (putL a b d t) w) := by
  obtain ⟨l1, l2, p1, p2⟩ := put_lens a b d hb hd
  exact c14a a b d v (S t) _ _ _ w (fun w' hB => conv_rd (h.mono hB) hby) (wrap_u32 b hb) p1 p2 (c36 _ _ b _ (rd_new2 (boxed a b d v w) (w.heap.size + 1) (by simp) a) (by simp) (by omega)) (fun v1 W hr => c36 v1 _ d W hr (by omega) hd)
    (fun v1 W hr => d37 v1 _ t (S t) W hr (by omega) (by omega) (strCells_S hby) (S_size t))
end Go.Proofs.PK
