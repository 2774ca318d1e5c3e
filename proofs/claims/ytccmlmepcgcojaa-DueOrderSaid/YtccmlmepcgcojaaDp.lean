/- Proved: what 'Take' of a list of dues comes to. Each theorem says its own conditions. -/
import Derived.Test.YtccmlmepcgcojaaDo
set_option linter.unusedVariables false
set_option linter.unusedSimpArgs false
namespace Go.Proofs.DU
open Go.RowKit
variable {G : Nat → Prop} {bd : Nat} {L L1 : List (Int × Int)} {w W W' : World}
theorem D.keep (h : D G bd L W) (hk : ∀ b, b < W.heap.size → G b → W'.heap[b]? = W.heap[b]?) : D G bd L W' := by
  obtain ⟨bm, rv, es, ck, R, h⟩ := h
  refine ⟨bm, rv, es, ck, R, h.gm, ⟨(hk bd (Array.getElem?_eq_some_iff.1 h.st.hd).1 h.st.fd.1).trans h.st.hd, ⟨h.st.row.1, ?_⟩, fun i e he => ?_, h.st.fd, h.st.fr, h.st.fe⟩, (hk bm (Array.getElem?_eq_some_iff.1 h.map).1 h.gm).trans h.map, h.mp, h.keys, h.heap, h.perm⟩
  · rcases h.st.row.2 with h' | ⟨g, cap, cur, hv, h1, h2, h3⟩
    · exact .inl h'
    · exact .inr ⟨g, cap, cur, hv, h1, (hk g (Array.getElem?_eq_some_iff.1 h2).1 (h.st.fr g (by rw [hv]; rfl)).1).trans h2, h3⟩
  · have := h.st.ent i e he
    exact (hk e.b (Array.getElem?_eq_some_iff.1 this).1 (h.st.fe e (List.mem_of_getElem? he)).1).trans this
/-- A row of keys. -/
def KAt (W : World) (v : Value) (ks : List Int) : Prop := W.ownsRow 0 23 1 v ks.length (ks.map fun k => Value.int .u64 k)
theorem own_slice {w : World} {base e size n : Nat} {v : Value} {xs : List Value} (ho : w.ownsRow base e size v n xs) : ∃ p c, v = .slice p n c := by
  rcases ho.2 with ⟨h, e⟩ | ⟨g, c, _, h, _⟩
  · exact ⟨_, _, by rw [h, e]⟩
  · exact ⟨_, _, h⟩
theorem own_keep {w w' : World} {base e size n : Nat} {v : Value} {xs : List Value} (h : w.ownsRow base e size v n xs) (hk : ∀ g, v.ownBlock = some g → g < w.heap.size → w'.heap[g]? = w.heap[g]?) : w'.ownsRow base e size v n xs := by
  refine ⟨h.1, ?_⟩
  rcases h.2 with h' | ⟨g, cap, cur, hv, h1, h2, h3⟩
  · exact .inl h'
  · exact .inr ⟨g, cap, cur, hv, h1, (hk g (by rw [hv]; rfl) (Array.getElem?_eq_some_iff.1 h2).1).trans h2, h3⟩
/-- What is taken up to a time. -/
inductive Tk (now : Int) : List (Int × Int) → List Int → List (Int × Int) → Prop
  | stop {L : List (Int × Int)} (h : ∀ x, First L x → now < x.2) : Tk now L [] L
  | go {L L' : List (Int × Int)} {x : Int × Int} {ks : List Int} (h : First L x) (hx : x.2 ≤ now) (t : Tk now (cutL L x.1) ks L') : Tk now L (x.1 :: ks) L'
theorem First.uniq {x y : Int × Int} (hx : First L x) (hy : First L y) : x = y := by
  have h1 := hx.2 y hy.1
  have h2 := hy.2 x hx.1
  obtain ⟨a, b⟩ := x
  obtain ⟨c, d⟩ := y
  simp only at h1 h2
  have : a = c ∧ b = d := by omega
  rw [this.1, this.2]
theorem cut_len {x : Int × Int} (hn : (L.map (·.1)).Nodup) (hx : x ∈ L) : (cutL L x.1).length + 1 = L.length := by
  obtain ⟨A, B, rfl⟩ := List.append_of_mem hx
  have h1 : ((A ++ B) ++ [(x.1, x.2)]).Perm (A ++ x :: B) := by
    have : (x.1, x.2) = x := rfl
    rw [this, List.append_assoc]
    exact (List.perm_append_comm (l₁ := B) (l₂ := [x])).append_left A
  have := (cut_perm h1 hn).length_eq
  simp at this ⊢
  omega
def NextIs (L : List (Int × Int)) (a y : Value) : Prop := (L = [] ∧ a = .int .u64 0 ∧ y = .bool false) ∨ ∃ x, First L x ∧ a = .int .u64 x.2 ∧ y = .bool true
theorem c15n (w : World) (h : D G bd L w) : Calls Try.prog 15 #[.pointer (some ⟨bd, 0, none⟩)] w fun e w' => w = w' ∧ ∃ a y, e = .returned (.tuple #[a, y]) ∧ NextIs L a y := by
  refine (c15 w h).mono ?_
  rintro e w' ⟨rfl, ⟨h1, rfl⟩ | ⟨x, h1, rfl⟩⟩
  · exact ⟨rfl, _, _, rfl, .inl ⟨h1, rfl, rfl⟩⟩
  · exact ⟨rfl, _, _, rfl, .inr ⟨x, h1, rfl, rfl⟩⟩
/-- The first one's place in memory. -/
theorem D.top {x : Int × Int} (h : D G bd L W) (hx : First L x) : ∃ g n cap b, W.cell? ⟨bd, 0, none⟩ = some (.slice (some ⟨g, 0, none⟩) (n + 1) cap) ∧ W.cell? ⟨g, 0, none⟩ = some (.pointer (some ⟨b, 0, none⟩)) ∧ W.cell? ⟨b, 0, none⟩ = some (.int .u64 x.1) ∧ W.cell? ⟨b, 1, none⟩ = some (.int .u64 x.2) := by
  obtain ⟨bm, rv, es, ck, R, h⟩ := h
  have hl : R.length = L.length := by have := h.perm.length_eq; simpa using this
  have hpos : 0 < R.length := by rw [hl]; exact List.length_pos_of_mem hx.1
  obtain ⟨e, he⟩ : ∃ e, R[0]? = some e := ⟨_, List.getElem?_eq_getElem hpos⟩
  have hf := (h.first he).uniq hx
  obtain ⟨g, cap, cur, rfl, _, hh, _, _, _, hct, _⟩ := h.st.rows he
  obtain ⟨n, hn⟩ : ∃ n, R.length = n + 1 := ⟨R.length - 1, by omega⟩
  have c := h.st.cells he
  rw [← hf]
  exact ⟨g, n, cap, e.b, by rw [h.st.head.1, hn], St.cellR hh hct he, c.1, c.2.1⟩
theorem info23 : (Try.prog.info? 23).map (fun i => (i.zero, i.size, i.bytes)) = some (some (.int .u64 0), 1, 8) := by kernel_rfl
def sliceLen : Value → Nat
  | .slice _ n _ => n
  | _ => 0
structure TkR (now : Int) (G : Nat → Prop) (bd : Nat) (L : List (Int × Int)) (w : World) (v a y : Value) (ks : List Int) (L1 : List (Int × Int)) (wr : World) : Prop where
  tk : ∀ ks2 L2, Tk now L1 ks2 L2 → Tk now L (ks ++ ks2) L2
  row : KAt wr v ks
  own : ∀ g, v.ownBlock = some g → w.heap.size ≤ g
  d : D G bd L1 wr
  turn : Turn G w wr
  next : NextIs L1 a y
  len : ks.length + L1.length = L.length
def TakeOut (now : Int) (G : Nat → Prop) (bd : Nat) (L : List (Int × Int)) (w : World) (e : Ending) (w' : World) : Prop := ∃ v ks L', e = .returned v ∧ Tk now L ks L' ∧ KAt w' v ks ∧ (∀ g, v.ownBlock = some g → w.heap.size ≤ g) ∧ D G bd L' w' ∧ Turn G w w'
set_option maxRecDepth 100000 in
set_option maxHeartbeats 2000000 in
theorem c11 (now : Int) (w : World) (h : D G bd L w) (hG : ∀ b, G b → b < w.heap.size) (hn : L.length < 2000) : Calls Try.prog 11 #[.pointer (some ⟨bd, 0, none⟩), .int .u64 now] w (TakeOut now G bd L w) := by
  obtain ⟨i0, hi0, hz0, hz1, hz2⟩ := info_parts info23
  have H := Lib.hid h
  have HG := Lib.hid hG
  clear h hG
  go_enter Try.func11, Try.ntmps11
  go_wp2_with (go_at_call 15; ((with_reducible refine (c15n _ H.out).mono ?_); rintro e w' ⟨rfl, a0, y0, rfl, hnx0⟩; have HN0 := Lib.hid hnx0; clear hnx0))
  go_loopw [5, 6, 7] (fun v a y wr => ∃ ks L1, TkR now G bd L w v a y ks L1 wr) (fun v _ _ _ => L.length - sliceLen v)
  case atStart => exact ⟨[], L, fun _ _ h => h, World.ownsRow_nil _ _ _ _, (fun g hg => by cases hg), H.out, Turn.refl _ _, HN0.out, by simp⟩
  case round =>
    obtain ⟨ks, L1, hr⟩ := hrel
    obtain ⟨p, c, rfl⟩ := own_slice hr.row
    have HR := Lib.hid hr
    rcases hr.next with ⟨h1, rfl, rfl⟩ | ⟨x, hx, rfl, rfl⟩
    · clear hr
      go_wp2
      go_ret
      exact ⟨_, ks, L1, rfl, by have := HR.out.tk [] L1 (.stop fun x hx => by rw [h1] at hx; exact absurd hx.1 (by simp)); simpa using this, HR.out.row, HR.out.own, HR.out.d, HR.out.turn⟩
    · have HX := Lib.hid hx
      clear hr hx
      by_cases hle : x.2 ≤ now
      · obtain ⟨g, n, cap, b, t0, t1, t2, t3⟩ := HR.out.d.top HX.out
        have hlen := HR.out.len
        have hkl : ks.length < 2000 := by omega
        obtain ⟨xk, xt⟩ := x
        simp only at hle t2 t3
        have HRW := Lib.hid HR.out.row
        unfold KAt at HRW
        have hlm : (ks.map fun k => Value.int .u64 k).length = ks.length := by simp
        have l1 : L1.length < 3000 := by omega
        clear hlen
        generalize hxs : (ks.map fun k => Value.int .u64 k) = xs at HRW hlm
        have HXS := Lib.hid hxs
        clear hxs
        have own4 : ∀ w4 : World, (wr.alloc (.cells #[.int .u64 xk] 23)).grownBy w4 (Value.slice p ks.length c).ownBlock → D G bd L1 w4 ∧ Turn (fun b => w.heap.size ≤ b) wr w4 := fun w4 hg => by
          have ho := HR.out.own
          have e1 : ∀ b, b < wr.heap.size → b < w.heap.size → w4.heap[b]? = wr.heap[b]? := fun b hb hGb => by
            rw [hg.block b (by simp; omega) (fun e => by have := ho b e.symm; omega)]
            exact Below.heap_alloc _ _ _ hb
          have hsz := hg.size
          simp at hsz
          exact ⟨HR.out.d.keep fun b hb hGb => e1 b hb (HG.out b hGb), ⟨hg.os, hg.tape, hg.output, by omega, fun b hb hn => e1 b hb (by omega)⟩⟩
        have OWN := Lib.hid own4
        have ht : decide (xt ≤ now) = true := by simp [hle]
        clear own4
        go_wp2_with (first
          | (at_builtin; refine wpList_append_lies _ (by rfl) _ _ 22 (by rfl) 0 23 i0 _ 1 8 Try.underlying22 hi0 hz0 hz1 hz2 rfl (by omega) (.slice p ks.length c) ks.length xs (by rfl) (World.ownsRow.alloc HRW.out _) ⟨wr.heap.size, 0, none⟩ 1 1 [.int .u64 xk] (by rfl) (by rfl) (World.news_of_block (cs := #[.int .u64 xk]) (t := 23) (fr := (0, 0)) (heap_alloc_new wr _)) (by simp [Value.oneCell']) (by omega) (by unfold maxLen; omega) (by omega) (by simp) (wr.heap.size + 1) (by simp) ?_; intro gg cp w4 hown4 hgrow hat hlt4; have HO4 := Lib.hid hown4; have HG4 := Lib.hid hgrow; have HA4 := Lib.hid hat; clear hown4 hgrow hat)
          | (go_at_call 18; ((with_reducible refine (c18 xk _ (OWN.out _ HG4.out).1 l1).mono ?_); rintro e w5 ⟨rfl, hd5, ht5⟩; have HD5 := Lib.hid hd5; have HT5 := Lib.hid ht5; clear hd5 ht5))
          | (go_at_call 15; ((with_reducible refine (c15n _ HD5.out).mono ?_); rintro e w' ⟨rfl, a2, y2, rfl, hnx2⟩; have HN2 := Lib.hid hnx2; clear hnx2)))
        go_roundw
        case rel =>
          have hgg : w.heap.size ≤ gg := by
            rcases HA4.out with h | h
            · exact HR.out.own gg h
            · have := HR.out.turn.size; omega
          refine ⟨ks ++ [xk], cutL L1 xk, ⟨fun ks2 L2 h => ?_, ?_, fun g' e => by cases e; exact hgg, HD5.out, ?_, HN2.out, ?_⟩⟩
          · have := HR.out.tk (xk :: ks2) L2 (.go HX.out hle h)
            simpa using this
          · unfold KAt
            rw [List.length_append, List.map_append, HXS.out]
            exact own_keep HO4.out fun g' e hl => HT5.out.block g' hl (fun hGg => by cases e; have := HG.out _ hGg; simp at this; omega)
          · exact (HR.out.turn.trans (OWN.out _ HG4.out).2 fun b hb h => by omega).trans HT5.out fun _ _ h => h
          · have h1 := cut_len HR.out.d.nodup HX.out.1
            have h2 := HR.out.len
            simp at h1 ⊢
            omega
        case measure =>
          have h1 := List.length_pos_of_mem HX.out.1
          have h2 := HR.out.len
          simp [sliceLen]
          omega
      · have hle' : now < x.2 := by omega
        go_wp2
        go_ret
        exact ⟨_, ks, L1, rfl, by have := HR.out.tk [] L1 (.stop fun y hy => by rw [hy.uniq HX.out]; exact hle'); simpa using this, HR.out.row, HR.out.own, HR.out.d, HR.out.turn⟩
end Go.Proofs.DU
