/- Proved: what the network's 'Clear' comes to, and the law's 'does' at some kinds. Each theorem says its own conditions. -/
import Derived.Test.YtopnmikijbajfaaNr
set_option linter.unusedVariables false
set_option linter.unusedSimpArgs false
namespace Go.Proofs.NT
open Go.RowKit Go.Ai
theorem c25e (p : Option Addr) (c eb : Nat) (z : Int) (w : World) (heb : eb < w.heap.size) (h : w.cell? ⟨eb, 0, none⟩ = some (.int .u32 z)) :
    Calls Try.prog 25 #[.slice p 0 c, hitF eb] w fun e w' => e = .returned (.slice p 0 c) ∧ Below w.heap.size w w' := by
  have K := c28 p c eb z [] w (by simp) (fun i m e => by simp at e) heb h
  simp only [List.length_nil] at K
  go_enter Try.func25, Try.ntmps25
  go_wp2_with (go_at_call 28; refine K.mono ?_; rintro e w2 ⟨hB2, hcase⟩; rcases hcase with ⟨rfl, hall⟩ | ⟨k, m0, hm0, _⟩)
  · go_ret
    exact ⟨rfl, hB2⟩
theorem NetAt.store {F : Nat → Prop} {bn : Nat} {L' : List Ml} {w2 : World} {old lv' : Value} {xs' : List Value} (hb : w2.heap[bn]? = some (.cells #[old] 56 (0, 0))) (h2 : w2.ownsRow 0 39 3 lv' L'.length xs') (h3 : ∀ g, lv'.ownBlock = some g → F g ∧ g ≠ bn) (h4 : F bn) (h5 : Rows mlE (fun b => F b ∧ b ≠ bn ∧ lv'.ownBlock ≠ some b) w2 xs' L') : NetAt F bn L' (w2.setCell ⟨bn, 0, none⟩ lv') := by
  have hset : Keeps (fun b => b ≠ bn) w2 (w2.setCell ⟨bn, 0, none⟩ lv') := ⟨by rw [World.size_setCell]; exact Nat.le_refl _, fun b _ ho => Below.heap_setCell _ _ _ _ ho⟩
  refine ⟨lv', xs', ?_, own_keeps h2 hset fun g hg => (h3 g hg).2, h3, h4, h5.mono (hset.less fun b _ ho => ho.2.1)⟩
  rw [heap_setCell hb]; rfl
def ClearOut (F : Nat → Prop) (bn : Nat) (L : List Ml) (w : World) (e : Ending) (w' : World) : Prop := e = .returned (.tuple #[]) ∧ NetAt F bn L w' ∧ Turn F w w'
set_option maxRecDepth 100000 in
set_option maxHeartbeats 4000000 in
theorem c17 {F : Nat → Prop} {bn : Nat} {L : List Ml} {w : World} (z : Int) (hL : L.length ≤ 512) (hF : ∀ b, F b → b < w.heap.size) (h : NetAt F bn L w) : Calls Try.prog 17 #[nptr bn, .int .u32 z] w (ClearOut F bn (L.filter (keepM z)) w) := by
  have hN := h
  obtain ⟨lv, xs, h1, h2, h3, h4, h5⟩ := h
  obtain ⟨p, c, rfl⟩ := own_slice h2
  have hbn : bn < w.heap.size := (Array.getElem?_eq_some_iff.1 h1).1
  have hB1 : Below w.heap.size w (w.alloc (.cells #[.int .u32 z] 26)) := (Below.refl _ w).alloc (Nat.le_refl _) _
  have hc : w.cell? ⟨bn, 0, none⟩ = some (.slice p L.length c) := cell_of_heap h1 0
  have b0 := (hB1.cell (p := ⟨bn, 0, none⟩) hbn).trans hc
  have he : (w.alloc (.cells #[.int .u32 z] 26)).cell? ⟨w.heap.size, 0, none⟩ = some (.int .u32 z) := cell_of_heap (heap_alloc_new w _) 0
  rcases Nat.eq_zero_or_pos L.length with hz | hpos
  · have hLn : L = [] := List.eq_nil_of_length_eq_zero hz
    subst hLn
    simp only [List.length_nil] at hc b0
    have K := c25e p c w.heap.size z (w.alloc (.cells #[.int .u32 z] 26)) (by simp) he
    have hfzz : w.frozen? ⟨bn, 0, none⟩ = false := by simp [World.frozen?, h1]
    have f0 := (hB1.frozen (p := ⟨bn, 0, none⟩) hbn).trans hfzz
    have H1 := Lib.hid h1; have H2 := Lib.hid h2; have H3 := Lib.hid h3; have H5 := Lib.hid h5
    clear h1 h2 h3 h5 hN he
    go_enter Try.func17, Try.ntmps17
    go_wp2_with (go_at_call 25; refine K.mono ?_; rintro e w2 ⟨rfl, hB2⟩; have g0 := (hB2.cell (p := ⟨bn, 0, none⟩) (by simp; omega)).trans b0; have g1 := (hB2.frozen (p := ⟨bn, 0, none⟩) (by simp; omega)).trans f0; have HB2 := Lib.hid (hB1.trans (hB2.mono (by simp))); clear hB2)
    refine bodyPost_end (v := .tuple #[]) (by simp [results, Try.results17, go_sem]) rfl ⟨rfl, ?_, ?_⟩
    · exact NetAt.store ((HB2.out.block bn hbn).trans H1.out) (own_below H2.out HB2.out) H3.out h4 (H5.out.mono (Keeps.below HB2.out))
    · exact Turn.trans (F' := F) (Turn.of HB2.out) (Turn.set w2 _ _ h4) (fun b _ h => h)
  · obtain ⟨g, cur, rfl, hgh, hcap, hmax, hsz, hxs⟩ : ∃ (g : Nat) (cur : Array Value), p = some ⟨g, 0, none⟩ ∧ w.heap[g]? = some (.cells cur 39 (0, 0)) ∧ L.length ≤ c ∧ c ≤ maxLen ∧ cur.size = c * 3 ∧ cur.toList.take (L.length * 3) = xs := by
      rcases h2.2 with ⟨h, e⟩ | ⟨g', cap, cur, e, _, a, b, d, f, i⟩
      · omega
      · cases e; exact ⟨_, cur, rfl, a, b, d, f, i⟩
    have hgl := (Array.getElem?_eq_some_iff.1 hgh).1
    have hgb : g ≠ bn := (h3 g rfl).2
    have hFg : F g := (h3 g rfl).1
    have K := c25 g c w.heap.size z L (fun b => F b ∧ b ≠ bn ∧ (Value.slice (some ⟨g, 0, none⟩) L.length c).ownBlock ≠ some b) xs cur (w.alloc (.cells #[.int .u32 z] 26)) hL ((hB1.block g hgl).trans hgh) hcap hsz hxs (h5.mono (Keeps.below hB1)) (fun h => h.2.2 rfl) (by simp) (by omega) he
    have hfzz : w.frozen? ⟨bn, 0, none⟩ = false := by simp [World.frozen?, h1]
    have f0 := (hB1.frozen (p := ⟨bn, 0, none⟩) hbn).trans hfzz
    have H1 := Lib.hid h1
    have hLl := List.length_filter_le (keepM z) L
    clear h1 h2 h3 h5 hN he
    generalize hLF : L.filter (keepM z) = LF at *
    go_enter Try.func17, Try.ntmps17
    go_wp2_with (go_at_call 25; refine K.mono ?_; rintro e w2 ⟨rfl, hT2, cur', ys, k1, k2, k3, k4⟩; have hbb := hT2.block bn (by simp; omega) (fun e => hgb e.symm); have g0 := (World.cell?_of_block (a := ⟨bn, 0, none⟩) hbb).trans b0; have g1 := (World.frozen?_of_block (a := ⟨bn, 0, none⟩) hbb).trans f0; have HBB := Lib.hid hbb; have HT2 := Lib.hid hT2; have HK4 := Lib.hid k4; clear hT2 hbb k4)
    refine bodyPost_end (v := .tuple #[]) (by simp [results, Try.results17, go_sem]) rfl ⟨rfl, ?_, ?_⟩
    · refine NetAt.store (xs' := ys) (HBB.out.trans ((hB1.block bn hbn).trans H1.out)) ⟨HK4.out.1, .inr ⟨g, c, cur', rfl, Nat.zero_le _, k1, by omega, hmax, k2, k3⟩⟩ (fun g' e => by cases e; exact ⟨hFg, hgb⟩) h4 (HK4.out.weaken fun b _ ho => ⟨ho.1, ho.2.1, fun e => ho.2.2 (by cases e; rfl)⟩)
    · refine Turn.trans (F' := F) (Turn.trans (F' := F) (Turn.of hB1) (HT2.out.more fun b e => by rw [e]; exact hFg) (fun b _ h => h)) (Turn.set w2 _ _ h4) (fun b _ h => h)
end Go.Proofs.NT
