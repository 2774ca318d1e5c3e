/- Proved: contracts of single functions of the program and lemmas that they need; each theorem says its own conditions. -/
import Derived.Test.YtblgkhghoppanaaGreatPn
import Derived.Test.YtblgkhghoppanaaGreatAd
import Derived.Test.YtblgkhghoppanaaGreatRows
import Derived.Lib.SmallJoins
import Derived.ChangeSlices
set_option linter.unusedVariables false
set_option linter.unusedSimpArgs false
namespace Go.Proofs.PK
open Go.ChangeShapes Go.WideShapes Go.ChangeAt Go.RowKit
theorem wf_u8 {n : Int} (h : (Lit.int IntKind.u8 n).wf = true) : 0 ≤ n ∧ n < 256 := by
  have h : IntKind.u8.min ≤ n ∧ n ≤ IntKind.u8.max := by simpa [Lit.wf] using h
  have e1 : IntKind.u8.min = 0 := by decide
  have e2 : IntKind.u8.max = 255 := by decide
  rw [e1, e2] at h
  omega
theorem has_u8 {n : Int} (h : IntKind.u8.has n) : 0 ≤ n ∧ n < 256 := by
  have e1 : IntKind.u8.min = 0 := by decide
  have e2 : IntKind.u8.max = 255 := by decide
  unfold IntKind.has at h
  rw [e1, e2] at h
  omega
theorem has_u32 {n : Int} (h : IntKind.u32.has n) : 0 ≤ n ∧ n < 4294967296 := by
  have e1 : IntKind.u32.min = 0 := by decide
  have e2 : IntKind.u32.max = 4294967295 := by decide
  unfold IntKind.has at h
  rw [e1, e2] at h
  omega
theorem has_u64 {n : Int} (h : IntKind.u64.has n) : 0 ≤ n ∧ n < 18446744073709551616 := by
  have e1 : IntKind.u64.min = 0 := by decide
  have e2 : IntKind.u64.max = 18446744073709551615 := by decide
  unfold IntKind.has at h
  rw [e1, e2] at h
  omega
/-- An argument's row of bytes. -/
theorem rdc_of_ints {W : World} {blk off l cap : Nat} {zs : List Int} (hlc : l ≤ cap) (hzl : zs.length = cap) (hcell : ∀ i, i < zs.length → W.cell? ((⟨blk, off, none⟩ : Addr).add i) = some (.int .u8 (zs.getD i 0))) (hwf : ∀ n ∈ zs, (Lit.int IntKind.u8 n).wf = true) :
    ∃ q : List Nat, q.length = l ∧ Byt q ∧ RdC W (.slice (some ⟨blk, off, none⟩) l cap) q := by
  have hql : ((zs.take l).map Int.toNat).length = l := by simp; omega
  refine ⟨(zs.take l).map Int.toNat, hql, ?_, blk, off, cap, by rw [hql], by omega, ?_, ?_⟩
  · intro x hx
    obtain ⟨n, hn, rfl⟩ := List.mem_map.1 hx
    have := wf_u8 (hwf n (List.mem_of_mem_take hn))
    omega
  · intro hp
    have := hcell 0 (by omega)
    rw [Addr.add_lit] at this
    exact World.block_lt_of_cell? W _ this
  · intro j x hx
    rw [List.getElem?_map] at hx
    obtain ⟨n, hn, rfl⟩ := Option.map_eq_some_iff.1 hx
    have hj : j < l := by have := (List.getElem?_eq_some_iff.1 hn).1; simp at this; omega
    rw [List.getElem?_take, if_pos hj] at hn
    have h0 := wf_u8 (hwf n (List.mem_of_getElem? hn))
    have := hcell j (by omega)
    rw [Addr.add_lit] at this
    rw [this]
    simp [List.getD, hn]
    omega
theorem ctlB_err {L : List Nat} {c er : Nat} (h : ctlB L c = .error er) : ¬ er = 0 := by
  unfold ctlB at h
  split at h
  · rename_i e hd; cases h; exact dec_err _ _ _ hd
  · split at h
    · cases h; omega
    · split at h
      · rename_i e hd; cases h; exact dec_err _ _ _ hd
      · split at h
        · rename_i e ht; cases h; exact txt_err ht
        · split at h
          · cases h; omega
          · cases h
theorem ctlOf_err {l : List Nat} {er : Nat} (h : ctlOf l = .error er) : ¬ er = 0 := by
  match l, h with
  | [], h => cases h; omega
  | c :: r, h => exact ctlB_err (c := c) h
theorem progOk' : Go.Ai.progOk Tryz.prog = true := by kernel_rfl
theorem c10 (w : World) : Calls Tryz.prog 10 #[] w (Tr w) :=
  Go.Ai.ai_test progOk' (Checked.mixed Tryz.checked) 1000 200 10 [] rfl [] (fun ts => Go.Ai.fast_true (by kernel_rfl)) w (Go.Ai.tabled_nil _)
theorem c13n (c : Nat) (w : World) : Calls Tryz.prog 13 #[.slice none 0 c] w (GotE 0 0 0 3 [] w) := by
  have hB0 : Below w.heap.size w (w13 w) := (Below.refl _ w).alloc (Nat.le_refl _) _
  go_enter Tryz.func13, Tryz.ntmps13
  go_wp2
  exact bodyPost_ret (v := .tuple #[argn 0 0 0 (.slice none 0 0), .int .i64 3]) (by simp [results, Tryz.results13, go_sem]) rfl ⟨_, rfl, .inl ⟨0, rfl, rfl⟩, by repeat (first | exact hB0 | refine Below.setCell ?_ (Nat.le_refl _) _)⟩
theorem c16n (c : Nat) (w : World) : Calls Tryz.prog 16 #[.slice none 0 c] w (GotE 0 0 0 3 [] w) := by
  have hB0 : Below w.heap.size w (w16 w) := ((Below.refl _ w).alloc (Nat.le_refl _) _).alloc (by simp) _
  go_enter Tryz.func16, Tryz.ntmps16
  go_wp2
  exact bodyPost_ret (v := .tuple #[argn 0 0 0 (.slice none 0 0), .int .i64 3]) (by simp [results, Tryz.results16, go_sem]) rfl ⟨_, rfl, .inl ⟨0, rfl, rfl⟩, by repeat (first | exact hB0 | refine Below.setCell ?_ (by simp) _)⟩
/-- CtlReads, at any row of bytes. -/
theorem reads (v : Value) (l : List Nat) (w : World) (h : (∃ c, v = .slice none 0 c ∧ l = []) ∨ RdC w v l) (hby : Byt l) : Calls Tryz.prog 4 #[v] w (Tr w) := by
  have hfix : ∀ w', Below w.heap.size w w' → Calls Tryz.prog 10 #[] w' (Tr w') := fun w' _ => c10 w'
  have hrd : RdN w v l := h.imp id RdC.rd
  have hconv := fun w' hB => conv_rd (hrd.mono (w' := w') hB) hby
  obtain ⟨p, n, cap, rfl⟩ := rdn_slice hrd
  have hn : n = l.length := by
    rcases hrd with ⟨c, h1, rfl⟩ | ⟨b, o, cp, h1, _⟩
    · cases h1; rfl
    · cases h1; rfl
  subst hn
  by_cases h5 : 3000 < l.length
  · exact law4g p _ cap w h5 hfix
  have hl : l.length ≤ 1000000 := by omega
  rcases hr : ctlOf l with er | ⟨a, b, d, t⟩
  · have he : ¬ er = 0 := ctlOf_err hr
    have g13 : ∀ w', Below w.heap.size w w' → Calls Tryz.prog 13 #[.slice p l.length cap] w' (GotE 0 0 0 er [] w') := fun w' hB => by
      rcases h with ⟨c, h1, rfl⟩ | h
      · cases h1; cases hr; exact c13n _ w'
      · refine (c13 _ l w' (h.mono hB) hby hl).mono ?_
        rw [hr]
        rintro e w2 ⟨rfl, hB2⟩
        exact ⟨_, rfl, .inl ⟨0, rfl, rfl⟩, hB2⟩
    have g16 : ∀ w', Below w.heap.size w w' → Calls Tryz.prog 16 #[.slice p l.length cap] w' (GotE 0 0 0 er [] w') := fun w' hB => by
      rcases h with ⟨c, h1, rfl⟩ | h
      · cases h1; cases hr; exact c16n _ w'
      · refine (c16 _ l w' (h.mono hB) hby hl).mono ?_
        rw [hr]
        rintro e w2 ⟨rfl, hB2⟩
        exact ⟨_, rfl, .inl ⟨0, rfl, rfl⟩, hB2⟩
    exact law4e 0 0 0 er p _ cap [] w h5 he hfix g13 g16 (fun s1 s2 w' h1 h2 => c15 0 0 0 s1 s2 [] w' h1 h2 (fun x hx => by cases hx))
  · obtain ⟨hput, hb, hd, ht, hbt⟩ := put_ctl l a b d t hby hr
    have hC : RdC w (.slice p l.length cap) l := by
      rcases h with ⟨c, h1, rfl⟩ | h
      · cases hr
      · exact h
    have g13 : ∀ w', Below w.heap.size w w' → Calls Tryz.prog 13 #[.slice p l.length cap] w' (GotE a b d 0 t w') := fun w' hB => by
      refine (c13 _ l w' (hC.mono hB) hby hl).mono ?_
      rw [hr]
      rintro e w2 ⟨sv, rfl, hr2, hB2⟩
      exact ⟨sv, rfl, hr2, hB2⟩
    have g16 : ∀ w', Below w.heap.size w w' → Calls Tryz.prog 16 #[.slice p l.length cap] w' (GotE a b d 0 t w') := fun w' hB => by
      refine (c16 _ l w' (hC.mono hB) hby hl).mono ?_
      rw [hr]
      rintro e w2 ⟨sv, rfl, hr2, hB2⟩
      exact ⟨sv, rfl, hr2, hB2⟩
    exact law4o a b d 0 p _ cap t l w h5 rfl hfix g13 g16 (fun s1 s2 w' h1 h2 => c15 a b d s1 s2 t w' h1 h2 hbt) (fun sv w' h1 => by rw [← hput]; exact c11 a b d sv t w' hb hd h1 (by omega) hbt) (S l) hconv (fun sv w' h1 => conv_rd h1 hby)
/-- CtlWrites, at anything told. -/
theorem writes (a b d : Nat) (v : Value) (t : List Nat) (w : World) (ha : a < 256) (hb : b < 4294967296) (hd : d < 18446744073709551616) (h : RdN w v t) (hby : Byt t) : Calls Tryz.prog 3 #[argn a b d v] w (Tr w) := by
  have hfix : ∀ w', Below w.heap.size w w' → Calls Tryz.prog 10 #[] w' (Tr w') := fun w' _ => c10 w'
  obtain ⟨p, n, cap, rfl⟩ := rdn_slice h
  have hn : n = t.length := by
    rcases h with ⟨c, h1, rfl⟩ | ⟨b, o, cp, h1, _⟩
    · cases h1; rfl
    · cases h1; rfl
  subst hn
  by_cases h5 : 5000 < t.length
  · exact law3g a b d p _ cap w h5 hfix
  have hpl : 0 < (putL a b d t).length := by simp [putL]
  have hpb : Byt (putL a b d t) := by
    unfold putL
    have h1 : Byt [a] := fun x hx => by simp at hx; omega
    exact (((h1.app (enc_byt b)).app (enc_byt d)).app (enc_byt _)).app hby
  have hpm : (putL a b d t).length ≤ 1000000 := by
    have e1 := enc_ten (n := b) (by omega)
    have e2 := enc_ten hd
    have e3 := enc_ten (n := t.length) (by omega)
    simp only [putL, List.length_append, List.length_cons, List.length_nil]
    omega
  refine law3 a b d p _ cap t (putL a b d t) w hpl h5 hfix (fun w' hB => c12 a b d _ t w' (h.mono hB) (by omega)) (fun sv w' h1 => c11 a b d sv t w' hb hd h1 (by omega) hby) (fun w' hB => c14 a b d _ t w' hb hd (h.mono hB) (by omega) hby) (fun sv w' h1 => ?_) (fun sv w' hB h1 => c15 a b d _ sv t w' (h.mono hB) h1 hby) (S (putL a b d t)) (fun sv w' h1 => conv_rd h1 hpb)
  have := c13 sv _ w' h1 hpb hpm
  rwa [ctlOf_put a b d t hb hd (by omega)] at this
end Go.Proofs.PK
