/- Proved: what 'Len', 'Push' and 'Pop' of a row of entries come to. Each theorem says its own conditions. -/
import Derived.Test.YtccmlmepcgcojaaDg
set_option linter.unusedVariables false
set_option linter.unusedSimpArgs false
namespace Go.Proofs.DU
open Go.RowKit
theorem c43 (p : Option Addr) (n c : Nat) (w : World) : Calls Try.prog 43 #[.slice p n c] w fun e w' => e = .returned (.int .i64 n) ∧ w = w' := by
  go_enter Try.func43, Try.ntmps43
  go_wp2
  go_ret
  exact ⟨rfl, rfl⟩
theorem St.more {F F' : Nat → Prop} {bd bm : Nat} {rv : Value} {R : List En} {W : World} (h : St F bd bm rv R W) (hF : ∀ b, F b → F' b) : St F' bd bm rv R W :=
  ⟨h.hd, h.row, h.ent, hF _ h.fd, fun g hg => hF _ (h.fr g hg), fun e he => hF _ (h.fe e he)⟩
theorem info54 : (Try.prog.info? 54).map (fun i => (i.zero, i.size, i.bytes)) = some (some (.pointer none), 1, 8) := by kernel_rfl
theorem info_parts {t : TypeId} {z : Value} {n b : Nat} (h : (Try.prog.info? t).map (fun i => (i.zero, i.size, i.bytes)) = some (some z, n, b)) : ∃ i, Try.prog.info? t = some i ∧ i.zero = some z ∧ i.size = n ∧ i.bytes = b := by
  cases e : Try.prog.info? t with
  | none => rw [e] at h; cases h
  | some i =>
    rw [e] at h
    simp only [Option.map_some, Option.some.injEq, Prod.mk.injEq] at h
    exact ⟨i, rfl, h.1, h.2.1, h.2.2⟩
theorem St.slice {F : Nat → Prop} {bd bm : Nat} {rv : Value} {R : List En} {W : World} (h : St F bd bm rv R W) : ∃ p c, rv = .slice p R.length c := by
  rcases h.row.2 with ⟨h, e⟩ | ⟨g, c, _, h, _⟩
  · exact ⟨_, _, by rw [h, e]⟩
  · exact ⟨_, _, h⟩
/-- The last one is taken off. -/
theorem St.pop {F : Nat → Prop} {bd bm g n cap : Nat} {R : List En} {W : World} (h : St F bd bm (.slice (some ⟨g, 0, none⟩) (n + 1) cap) R W) : St F bd bm (.slice (some ⟨g, 0, none⟩) n cap) R.dropLast (W.setCell ⟨bd, 0, none⟩ (.slice (some ⟨g, 0, none⟩) n cap)) := by
  obtain ⟨hR, hFg, cur, hh, h1, h2, h3, hct, hgd, hge⟩ := h.at
  have hl : R.dropLast.length = n := by rw [List.length_dropLast]; omega
  refine ⟨setCell_at _ h.hd, ⟨by simp, .inr ⟨g, cap, cur, by rw [hl], Nat.zero_le _, by rw [setCell_ne _ hgd]; exact hh, by rw [hl]; omega, h2, by simpa using h3, ?_⟩⟩, fun i e he => ?_, h.fd, fun g' hg' => h.fr g' hg', fun e he => h.fe e ((List.dropLast_sublist R).subset he)⟩
  · rw [hl, Nat.mul_one]
    have := congrArg (List.take n) hct
    rw [List.take_take, hR, Nat.min_eq_left (by omega)] at this
    rw [this, ← List.map_take]
    congr 1
    rw [List.dropLast_eq_take, hR]; rfl
  · have he' : R[i]? = some e := by
      rw [List.getElem?_dropLast] at he
      split at he
      · exact he
      · cases he
    rw [setCell_ne _ (h.ne he')]
    exact h.ent i e he'
set_option maxRecDepth 100000 in
theorem c49 {F : Nat → Prop} {bd bm g n cap : Nat} {R : List En} {x : En} {w : World} (h : St F bd bm (.slice (some ⟨g, 0, none⟩) (n + 1) cap) R w) (hx : R[n]? = some x) (hn : n < 4000) :
    Calls Try.prog 49 #[.pointer (some ⟨bd, 0, none⟩)] w fun e w' => (∃ v, e = .returned v) ∧ St F bd bm (.slice (some ⟨g, 0, none⟩) n cap) R.dropLast w' ∧ Turn F w w' := by
  obtain ⟨hR, hFg, cur, hh, h1, h2, h3, hct, hgd, hge⟩ := h.at
  obtain ⟨y0, y1, yf⟩ := h.head
  have cx := St.cellR hh hct hx
  have f0 := yf 0
  have hnc : n ≤ cap := by omega
  have H := Lib.hid h
  clear hh h1 h2 h3 hct hge h hR
  go_enter Try.func49, Try.ntmps49
  go_wp2
  go_ret
  exact ⟨⟨_, rfl⟩, H.out.pop, Turn.set _ _ _ H.out.fd⟩
theorem setCell_own {w : World} {base e size n b o : Nat} {v : Value} {xs : List Value} (h : w.ownsRow base e size v n xs) (u : Value) (hb : v.ownBlock ≠ some b) : (w.setCell ⟨b, o, none⟩ u).ownsRow base e size v n xs := by
  refine ⟨h.1, ?_⟩
  rcases h.2 with h' | ⟨g, cap, cur, hv, h1, h2, h3⟩
  · exact .inl h'
  · refine .inr ⟨g, cap, cur, hv, h1, ?_, h3⟩
    rw [setCell_ne _ (fun e => hb (by rw [hv, ← e]; rfl))]
    exact h2
/-- The row's block is none of those of other kinds. -/
theorem own_ne {w : World} {base e size n b t : Nat} {v : Value} {xs : List Value} {c : Array Value} {f : Nat × Nat} (h : w.ownsRow base e size v n xs) (hb : w.heap[b]? = some (.cells c t f)) (hne : t ≠ e) : v.ownBlock ≠ some b := by
  rcases h.2 with ⟨rfl, _⟩ | ⟨g, cap, cur, rfl, h1, h2, h3⟩
  · intro e; cases e
  · intro e
    cases e
    rw [hb] at h2
    cases h2
    exact hne rfl
/-- One is put behind. -/
theorem St.push {F : Nat → Prop} {bd bm q gg cap : Nat} {rv : Value} {R : List En} {W W1 W2 : World} {x : En} (h : St F bd bm rv R W) (hx : W.heap[x.b]? = some (entC x q)) (hFx : F x.b) (hnx : ∀ e ∈ R, e.b ≠ x.b)
    (hW1 : W1 = (W.setCell ⟨x.b, 2, none⟩ (.int .i64 R.length)).alloc (.cells #[ptr x.b] 54)) (hown : W2.ownsRow 0 54 1 (.slice (some ⟨gg, 0, none⟩) (R.length + 1) cap) (R.length + 1) ((R.map fun e => ptr e.b) ++ [ptr x.b])) (hg : W1.grownBy W2 rv.ownBlock) (hat : rv.ownBlock = some gg ∨ gg = W1.heap.size) (hgl : gg < W2.heap.size) :
    St (fun b => F b ∨ W.heap.size ≤ b) bd bm (.slice (some ⟨gg, 0, none⟩) (R.length + 1) cap) (R ++ [x]) (W2.setCell ⟨bd, 0, none⟩ (.slice (some ⟨gg, 0, none⟩) (R.length + 1) cap)) ∧ Turn F W (W2.setCell ⟨bd, 0, none⟩ (.slice (some ⟨gg, 0, none⟩) (R.length + 1) cap)) := by
  have hbd : rv.ownBlock ≠ some bd := own_ne h.row h.hd (by decide)
  have hbx : rv.ownBlock ≠ some x.b := own_ne h.row hx (by decide)
  have hxd : x.b ≠ bd := fun e => by rw [e, h.hd] at hx; simp [entC] at hx
  have lx := (Array.getElem?_eq_some_iff.1 hx).1
  have ld := (Array.getElem?_eq_some_iff.1 h.hd).1
  have hs1 : W1.heap.size = W.heap.size + 1 := by rw [hW1, World.size_alloc, World.size_setCell]
  have b1 : ∀ k, k < W.heap.size → k ≠ x.b → W1.heap[k]? = W.heap[k]? := fun k hk hne => by
    rw [hW1, Below.heap_alloc _ _ _ (by rw [World.size_setCell]; exact hk), setCell_ne _ hne]
  have b2 : ∀ k, k < W.heap.size → k ≠ x.b → rv.ownBlock ≠ some k → W2.heap[k]? = W.heap[k]? := fun k hk hne ho => (hg.block k (by omega) (fun e => ho e.symm)).trans (b1 k hk hne)
  have x1 : W1.heap[x.b]? = some (entC x R.length) := by
    rw [hW1, Below.heap_alloc _ _ _ (by rw [World.size_setCell]; exact lx)]
    exact setCell_at _ hx
  have x2 : W2.heap[x.b]? = some (entC x R.length) := (hg.block x.b (by omega) (fun e => hbx e.symm)).trans x1
  have d2 : W2.heap[bd]? = some (.cells #[rv, .map (some bm)] 53 (0, 0)) := (b2 bd ld (fun e => hxd e.symm) hbd).trans h.hd
  have hgd : gg ≠ bd := fun e => by
    rcases hown.2 with ⟨h0, _⟩ | ⟨g', _, _, hv, _, hh, _⟩
    · cases h0
    · cases hv; rw [e, d2] at hh; cases hh
  refine ⟨⟨setCell_at _ d2, ?_, fun i e he => ?_, .inl h.fd, fun g' hg' => ?_, fun e he => ?_⟩, ?_⟩
  · rw [List.length_append, List.map_append]
    exact setCell_own hown _ (fun e => hgd (Option.some.inj e))
  · by_cases hi : i < R.length
    · rw [List.getElem?_append_left hi] at he
      have hne := h.ne he
      rw [setCell_ne _ hne]
      have he1 := h.ent i e he
      rw [b2 e.b (Array.getElem?_eq_some_iff.1 he1).1 (hnx e (List.mem_of_getElem? he)) (own_ne h.row he1 (by decide))]
      exact he1
    · rw [List.getElem?_append_right (by omega)] at he
      have hi0 : i - R.length = 0 := by have := (List.getElem?_eq_some_iff.1 he).1; simp at this; omega
      rw [hi0] at he
      cases he
      rw [setCell_ne _ hxd, x2]
      have : i = R.length := by omega
      rw [this]
  · cases hg'
    rcases hat with hat | hat
    · exact .inl (h.fr gg hat)
    · exact .inr (show W.heap.size ≤ gg by omega)
  · rcases List.mem_append.1 he with he | he
    · exact .inl (h.fe e he)
    · have : e = x := by simpa using he
      rw [this]; exact .inl hFx
  · have t1 : Turn F W W1 := by
      rw [hW1]
      exact (Turn.set W ⟨x.b, 2, none⟩ _ hFx).trans (Turn.of ((Below.refl _ _).alloc (Nat.le_refl _) _)) fun _ _ h => h
    exact (t1.trans (Turn.grown hg (fun g' e => h.fr g' e)) fun _ _ h => h).trans (Turn.set W2 ⟨bd, 0, none⟩ _ h.fd) fun _ _ h => h
theorem grown_at {w w' : World} {row : Option Nat} (hg : w.grownBy w' row) {b : Nat} (hb : b < w.heap.size) (hne : row ≠ some b) : (∀ o, w'.cell? ⟨b, o, none⟩ = w.cell? ⟨b, o, none⟩) ∧ (∀ o, w'.frozen? ⟨b, o, none⟩ = w.frozen? ⟨b, o, none⟩) :=
  have h := hg.block b hb (Ne.symm hne)
  ⟨fun o => World.cell?_of_block (a := ⟨b, o, none⟩) h, fun o => World.frozen?_of_block (a := ⟨b, o, none⟩) h⟩
theorem assert54 (b : Nat) (w : World) : (Instr.typeAssert (.iface 54 (.pointer (some ⟨b, 0, none⟩))) 20 54 false).run Try.prog w = .ok (.pointer (some ⟨b, 0, none⟩)) w := by kernel_rfl
set_option maxRecDepth 100000 in
set_option maxHeartbeats 1000000 in
theorem c50 {F : Nat → Prop} {bd bm q : Nat} {rv : Value} {R : List En} {x : En} {w : World} (h : St F bd bm rv R w) (hx : w.heap[x.b]? = some (entC x q)) (hFx : F x.b) (hnx : ∀ e ∈ R, e.b ≠ x.b) (hn : R.length < 4000) :
    Calls Try.prog 50 #[.pointer (some ⟨bd, 0, none⟩), .iface 54 (.pointer (some ⟨x.b, 0, none⟩))] w fun e w' => e = .returned (.tuple #[]) ∧ ∃ rv', St (fun b => F b ∨ w.heap.size ≤ b) bd bm rv' (R ++ [x]) w' ∧ Turn F w w' := by
  obtain ⟨y0, y1, yf⟩ := h.head
  obtain ⟨p, c, rfl⟩ := h.slice
  obtain ⟨i0, hi0, hz0, hz1, hz2⟩ := info_parts info54
  have x2 : w.cell? ⟨x.b, 2, none⟩ = some (.int .i64 q) := by rw [cell_of_heap (show w.heap[x.b]? = some (.cells #[.int .u64 x.k, .int .u64 x.t, .int .i64 (q : Int)] 57 (0, 0)) from hx)]; first | done | rfl
  have fx : ∀ o, w.frozen? ⟨x.b, o, none⟩ = false := fun o => frozen_of_heap (show w.heap[x.b]? = some (.cells #[.int .u64 x.k, .int .u64 x.t, .int .i64 (q : Int)] 57 (0, 0)) from hx) o
  have fx2 := fx 2
  have hxd : ¬ x.b = bd := fun e => by rw [e, h.hd] at hx; cases hx
  have hxd' : ¬ bd = x.b := fun e => hxd e.symm
  have hbd := own_ne h.row h.hd (by decide)
  have hbx := own_ne h.row hx (by decide)
  have hrow := setCell_own (o := 2) h.row (.int .i64 R.length) hbx
  have ld := (Array.getElem?_eq_some_iff.1 h.hd).1
  have y02 : (w.setCell ⟨x.b, 2, none⟩ (.int .i64 R.length)).cell? ⟨bd, 0, none⟩ = some (.slice p R.length c) := by
    rw [World.cell?_setCell_other (h := fun e => by cases e)]; exact y0
  have H := Lib.hid h; have HX := Lib.hid hx; have HNX := Lib.hid hnx; have HRW := Lib.hid hrow
  clear h hx hnx hrow
  have hlen : (R.map fun e => ptr e.b).length = R.length := by simp
  have f0 := yf 0
  generalize hL : R.length = n at *
  generalize hM : (R.map fun e => ptr e.b) = xs at *
  have hta := assert54 x.b
  go_enter Try.func50, Try.ntmps50
  go_wp2_with (at_builtin; refine wpList_append_lies _ (by rfl) _ _ 51 (by rfl) 0 54 i0 _ 1 8 Try.underlying51 hi0 hz0 hz1 hz2 rfl (by omega) _ n xs (by rfl) (World.ownsRow.alloc HRW.out _) ⟨w.heap.size, 0, none⟩ 1 1 [.pointer (some ⟨x.b, 0, none⟩)] (by rfl) (by rfl) (World.news_of_block (cs := #[.pointer (some ⟨x.b, 0, none⟩)]) (t := 54) (fr := (0, 0)) (by simpa using heap_alloc_new (w.setCell ⟨x.b, 2, none⟩ (.int .i64 n)) (.cells #[.pointer (some ⟨x.b, 0, none⟩)] 54))) (by simp [Value.oneCell']) (by omega) (by unfold maxLen; omega) (by omega) (by simp) (w.heap.size + 1) (by simp) ?_; intro gg cap w4 hown4 hgrow hat hlt4; have gz := grown_at hgrow (b := bd) (by simpa using Nat.lt_succ_of_lt ld) hbd; have z0 := (gz.1 0).trans ((((Below.refl _ _).alloc (Nat.le_refl _) _).cell (p := ⟨bd, 0, none⟩) (by simpa using ld)).trans y02); have zf := (gz.2 0).trans ((((Below.refl _ _).alloc (Nat.le_refl _) _).frozen (p := ⟨bd, 0, none⟩) (by simpa using ld)).trans ((World.frozen?_setCell _ _ _ _).trans f0)); clear gz; have HO4 := Lib.hid hown4; have HG4 := Lib.hid hgrow; have HA4 := Lib.hid hat; clear hown4 hgrow hat)
  go_end0
  subst hL hM
  exact ⟨rfl, _, St.push H.out HX.out hFx HNX.out rfl HO4.out HG4.out (by simpa using HA4.out) hlt4⟩
end Go.Proofs.DU
