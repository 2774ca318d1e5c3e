/- Proved: what the law 'NetPlays' comes to, called. Each theorem says its own conditions. -/
import Derived.Test.YtopnmikijbajfaaNz
set_option linter.unusedVariables false
set_option linter.unusedSimpArgs false
namespace Go.Proofs.NT
open Go.RowKit Go.Ai
def CutG (W : World) (w : World) (e : Ending) (w' : World) : Prop := ∃ (pp : Option Addr) (n c : Nat), e = .returned (.slice pp n c) ∧ n ≤ 201 ∧ (∀ i, i < n → ∃ b o x, pp = some ⟨b, o, none⟩ ∧ OpAt W b (o + i * 5) x ∧ x.s.length ≤ 6000) ∧ Below w.heap.size w w'
theorem both_new {W w2 : World} (hB : Below (W.heap.size + 1) (W.alloc (.cells #[.slice none 0 0] 56)) w2) : Both W.heap.size W.heap.size (.slice none 0 0) [] w2 := by
  have hs := hB.size
  simp at hs
  refine ⟨⟨fun b => b = W.heap.size, W.heap.size + 1, (net_new W).below (by simpa using hB), fun b e => by omega, World.ownsRow_nil _ _ _ _, by omega⟩, by simp, fun m hm => by simp at hm⟩
theorem u32w (n : Nat) (h : n < 510) : IntKind.u32.wrap ((n : Int) + 1) = (n : Int) + 1 := by
  have e : IntKind.u32.bits = 32 := rfl
  unfold IntKind.wrap
  simp [e]
  omega
set_option maxRecDepth 100000 in
set_option maxHeartbeats 16000000 in
theorem c4f (v0 : Value) (W : World) (hcut : ∀ w, Below W.heap.size W w → Calls Try.prog 8 #[v0] w (CutG W w)) :
    Calls Try.prog 4 #[v0, .bool false] W fun e w' => e = .returned (.bool true) ∧ Below W.heap.size W w' := by
  have HCUT := Lib.hid hcut
  clear hcut
  have hBa : Below W.heap.size W (W.alloc (.cells #[.slice none 0 0] 56)) := (Below.refl _ W).alloc (Nat.le_refl _) _
  have HBA := Lib.hid hBa
  clear hBa
  go_enter Try.func4, Try.ntmps4
  go_wp2_with (first
    | (go_at_call 6; refine (c6 _).mono ?_; rintro e w1 ⟨rfl, rfl⟩)
    | (go_at_call 13; refine (c13 _).mono ?_; rintro e w2 ⟨rfl, hB2⟩; have hbo := both_new (by simpa using hB2); have hBW := HBA.out.trans (hB2.mono (by simp)); have HBO := Lib.hid hbo; have HBW := Lib.hid hBW; clear hB2 hbo hBW HBA)
    | (go_at_call 8; refine (HCUT.out _ HBW.out).mono ?_; rintro e w3 ⟨pp, nn, cc, rfl, hnn, hx, hB3⟩; have HX := Lib.hid hx; have HB3 := Lib.hid hB3; clear hx hB3))
  go_loopw [6, 40] (fun o i wr => ∃ (k : Nat) (L : List Ml), i = .int .i64 k ∧ k ≤ nn ∧ Both W.heap.size W.heap.size o L wr ∧ Below W.heap.size W wr) (fun _ i _ => nn - (intOf i).toNat)
  case atStart => exact ⟨0, [], rfl, Nat.zero_le _, HBO.out.below HB3.out, btrans HBW.out HB3.out⟩
  case round =>
    clear HBO HBW HB3
    obtain ⟨k, L, rfl, hk, hbo, hB⟩ := hrel
    by_cases hlt : k < nn
    · obtain ⟨b, o', x, rfl, ⟨p, c', hb, y0, y1, y2, y3, y4, hbin⟩, hs6⟩ := HX.out k hlt
      have hbin := hbin (by omega)
      have y0 := ((bcell hB).1 b _ hb).trans y0
      have y1 := ((bcell hB).1 b _ hb).trans y1
      have y2 := ((bcell hB).1 b _ hb).trans y2
      have y3 := ((bcell hB).1 b _ hb).trans y3
      have y4 := ((bcell hB).1 b _ hb).trans y4
      obtain ⟨kd, xa, xb, xsb, xk⟩ := x
      simp only at *
      have hal := boxW_below wr kd xa xb p xsb.length c' xk
      have K15 := does W W.heap.size _ L (boxW wr kd xa xb p xsb.length c' xk) kd xa xb xk xsb p c' (hbo.below hal) (hB.trans (hal.mono hB.size)) hbin hs6
      have HB := Lib.hid hB; have HAL := Lib.hid hal
      clear hbo hB hal hbin hs6
      generalize hSL : xsb.length = sl at *
      go_wp2_with (first
        | (go_at_call 15; refine K15.mono ?_; rintro e w4 ⟨v4, L4, rfl, hb4, ht4⟩; have HB4 := Lib.hid hb4; obtain ⟨⟨F4, N4, hn4, hF4, hr4, hN4⟩, hl4, hs4⟩ := hb4; obtain ⟨pn, cn, hc4⟩ := hn4.cell; obtain ⟨pv4, cv4, rfl⟩ := own_slice hr4; have K16 := c16 W.heap.size pn L4.length cn w4 hc4; have HT4 := Lib.hid ht4; clear ht4 hn4 hF4 hr4 hN4 hs4 hc4; generalize hL4 : L4.length = l4 at *)
        | (go_at_call 16; refine K16.mono ?_; rintro e w5 ⟨rfl, rfl⟩))
      go_roundw
      case rel =>
        subst hL4
        refine ⟨k + 1, L4, by go_num, by omega, HB4.out, ?_⟩
        exact (Turn.trans (F' := (W.heap.size ≤ ·)) (Turn.of HAL.out) HT4.out (fun b _ h => h)).below HB.out (fun b h => h) HB.out.size
      case measure => simp [intOf]; omega
    · have hkn : k = nn := by omega
      subst hkn
      clear HX HCUT
      obtain ⟨wa, hwa⟩ : ∃ wa, wa = wr := ⟨_, rfl⟩
      subst hwa
      have HBO := Lib.hid hbo; have HB := Lib.hid hB
      obtain ⟨⟨F, N, hn, hF, hr, hN⟩, hl, hs⟩ := hbo
      obtain ⟨pv, cv, rfl⟩ := own_slice hr
      have K10 := c10d (fun m hm => by have := hs m hm; omega) hl hn
      clear hn hF hr hN hB
      have HS := Lib.hid hs
      clear hs
      generalize hLn : L.length = n at *
      go_wp2_with (go_at_call 10; refine K10.mono ?_; rintro e wb ⟨v3, xs, rfl, q1, q2, q3, q4, q5, q6⟩; obtain ⟨p3, c3, rfl⟩ := own_slice q1; have Q1 := Lib.hid q1; have Q2 := Lib.hid q2; have Q3 := Lib.hid q3; have Q4 := Lib.hid q4; have Q5 := Lib.hid q5; have Q6 := Lib.hid q6; clear q1 q2 q3 q4 q5 q6; rw [hLn])
      go_loopw [70] (fun i wr => ∃ k : Nat, i = .int .i64 k ∧ k ≤ n ∧ I3 wa wb (.slice p3 n c3) xs k wr) (fun i _ => n - (intOf i).toNat)
      case atStart => exact ⟨0, rfl, Nat.zero_le _, Q6.out, Nat.le_refl _, fun _ _ => rfl, fun _ _ _ _ _ _ => rfl⟩
      case round =>
        obtain ⟨j, rfl, hj, hI⟩ := hrel
        by_cases hjn : j < n
        · obtain ⟨m, hm⟩ : ∃ m, L[j]? = some m := ⟨_, List.getElem?_eq_getElem (by rw [hLn]; exact hjn)⟩
          obtain ⟨g, cg, pl, pc, eg, hg, z0, z1, z2, hxs, hbyt⟩ := rows_get Q1.out Q3.out hm
          rw [hLn] at eg
          cases eg
          have hgb := hI.row g rfl
          have z0 := (World.cell?_of_block (a := ⟨g, j * 3, none⟩) hgb).trans z0
          have z1 := (World.cell?_of_block (a := ⟨g, j * 3 + 1, none⟩) hgb).trans z1
          have z2 := (World.cell?_of_block (a := ⟨g, j * 3 + 2, none⟩) hgb).trans z2
          obtain ⟨⟨F, N, hn, hF, hr, hN⟩, _, _⟩ := HBO.out.below hI.below
          rw [← hLn] at hr
          obtain ⟨gr, cr, er, hgrN, hgrl, u0, u1, u2⟩ := hr.get hm
          rw [hLn] at er
          cases er
          clear hn hF hr hN
          obtain ⟨ma, mb, ms⟩ := m
          simp only at *
          have hblw : Below wr.heap.size wr (wr.alloc (.cells #[.int .u32 ma, .int .u32 mb, .slice pl ms.length pc] 39)).drew := ((Below.refl _ wr).alloc (Nat.le_refl _) _).drew
          have hbe : ∀ p, pl = some p → p.block < wb.heap.size ∧ wr.heap[p.block]? = wb.heap[p.block]? := fun p e => by subst e; exact ⟨(rows_blk Q3.out hxs).1, hI.rest j p _ _ (Nat.le_refl _) hxs⟩
          have hcv := conv_bin ((byt_block hbyt hI.size (fun p e => (hbe p e).2)).mono hblw)
          obtain ⟨w5, hclr, ht5⟩ := clear_mail (W' := (wr.alloc (.cells #[.int .u32 ma, .int .u32 mb, .slice pl ms.length pc] 39)).drew) hbyt (fun p e => (hblw.block p.block (by have := hI.size; have := (hbe p e).1; omega)).trans (hbe p e).2) (fun p l c e jj => by cases e; exact Q5.out j p _ _ hxs jj)
          have hI' := hI.next hblw ht5 hxs Q4.out (fun p e => by subst e; have := (rows_blk Q3.out hxs).2; exact this) (fun i p l c e => (rows_blk Q3.out e).1) (fun g' e => (World.ownsRow.lt Q1.out g' (by rw [hLn]; exact e)).2) Q6.out.size
          have HI := Lib.hid hI'
          have hne : ¬ (g = wr.heap.size) := by have := hI.size; omega
          have hne2 : ¬ (gr = wr.heap.size) := by omega
          have hne3 : ¬ (wr.heap.size = g) := by have := hI.size; omega
          have hne4 : ¬ (wr.heap.size = gr) := by omega
          have hglt : g < wr.heap.size := by have := hI.size; omega
          obtain ⟨wX, hWX⟩ : ∃ wX, wX = wr.alloc (.cells #[.int .u32 ma, .int .u32 mb, .slice pl ms.length pc] 39) := ⟨_, rfl⟩
          have hXb := heap_alloc_new wr (.cells #[.int .u32 ma, .int .u32 mb, .slice pl ms.length pc] 39)
          rw [← hWX] at hcv hclr hblw hXb
          have s0 : wX.drew.cell? ⟨wr.heap.size, 0, none⟩ = some (.int .u32 ma) := cell_of_heap (w := wX.drew) hXb 0
          have s1 : wX.drew.cell? ⟨wr.heap.size, 1, none⟩ = some (.int .u32 mb) := cell_of_heap (w := wX.drew) hXb 1
          have s2 : wX.drew.cell? ⟨wr.heap.size, 2, none⟩ = some (.slice pl ms.length pc) := cell_of_heap (w := wX.drew) hXb 2
          have r0 := ((bcell hblw).1 gr _ hgrl).trans u0
          have r1 := ((bcell hblw).1 gr _ hgrl).trans u1
          have r2 := ((bcell hblw).1 gr _ hgrl).trans u2
          clear hI hI' hbyt hblw hbe ht5 hm hxs hgb hXb u0 u1 u2
          generalize hML : ms.length = ml at *
          go_wp2
          rw [← hWX]
          clear hWX z0 z1 z2
          go_region_held (fun w' => w'.cell? ⟨wr.heap.size, 0, none⟩ = some (.int .u32 ma) ∧ w'.cell? ⟨wr.heap.size, 1, none⟩ = some (.int .u32 mb) ∧ w'.cell? ⟨wr.heap.size, 2, none⟩ = some (.slice pl ml pc) ∧ w'.cell? ⟨gr, j * 3, none⟩ = some (.int .u32 ma) ∧ w'.cell? ⟨gr, j * 3 + 1, none⟩ = some (.int .u32 mb) ∧ w'.cell? ⟨gr, j * 3 + 2, none⟩ = some (.string ⟨ms.toArray⟩) ∧ (convert 28 9 (.slice pl ml pc)).run Try.prog w' = .ok (.string ⟨ms.toArray⟩) w') (go_keep) (fail)
          rename_i hS
          clear hS
          go_wp2
          all_goals go_roundw
          all_goals first
            | exact ⟨j + 1, by go_num, by omega, HI.out⟩
            | (simp [intOf]; omega)
        · have hjn' : j = n := by omega
          subst hjn'
          obtain ⟨wd, hwd⟩ : ∃ wd, wd = wr := ⟨_, rfl⟩
          subst hwd
          have HBX := Lib.hid (HBO.out.below hI.below)
          have HBW := Lib.hid (btrans HB.out hI.below)
          obtain ⟨⟨F, N, hn, hF, hr, hN⟩, _, _⟩ := HBX.out
          have K10' := c10 (fun m hm => by have := HS.out m hm; omega) (by omega) hn
          clear hn hF hr hN Q1 Q2 Q3 Q4 Q5 Q6 hI HBO HB
          go_wp2_with (go_at_call 10; refine K10'.mono ?_; rintro e wc ⟨v7, rfl, hm7, hB7⟩; obtain ⟨_, hx7, _, _⟩ := id hm7; obtain ⟨p7, c7, rfl⟩ := own_slice hx7; clear hx7; have HM7 := Lib.hid hm7; have HB7 := Lib.hid hB7; clear hm7 hB7; rw [hLn])
          go_loopw [110] (fun i wr => ∃ k : Nat, i = .int .i64 k ∧ k ≤ j ∧ Below wc.heap.size wc wr) (fun i _ => j - (intOf i).toNat)
          case atStart => exact ⟨0, rfl, Nat.zero_le _, Below.refl _ _⟩
          case round =>
            obtain ⟨q, rfl, hq, hBy⟩ := hrel
            by_cases hqn : q < j
            · obtain ⟨m, hm⟩ : ∃ m, L[q]? = some m := ⟨_, List.getElem?_eq_getElem (by rw [hLn]; exact hqn)⟩
              have hm7 := HM7.out
              obtain ⟨g, cg, pl, pc, eg, hgN, hg, z0, z1, z2, hbyt⟩ := hm7.get hm
              cases eg
              have z0 := ((bcell hBy).1 g _ hg).trans z0
              have z1 := ((bcell hBy).1 g _ hg).trans z1
              have z2 := ((bcell hBy).1 g _ hg).trans z2
              obtain ⟨⟨F, N, hn, hF, hr, hN⟩, _, _⟩ := HBX.out.below (HB7.out.trans (hBy.mono HB7.out.size))
              rw [← hLn] at hr
              obtain ⟨gr, cr, er, hgrN, hgrl, u0, u1, u2⟩ := hr.get hm
              rw [hLn] at er
              cases er
              clear hn hF hr hN hm7
              obtain ⟨ma, mb, ms⟩ := m
              simp only at *
              have hblw : Below wr.heap.size wr (wr.alloc (.cells #[.int .u32 ma, .int .u32 mb, .slice pl ms.length pc] 39)).drew := ((Below.refl _ wr).alloc (Nat.le_refl _) _).drew
              have hcv := conv_bin ((hbyt.bin.mono hBy).mono hblw)
              have HBN := Lib.hid (hBy.trans (hblw.mono hBy.size))
              have hsy := hBy.size
              have hne2 : ¬ (gr = wr.heap.size) := by omega
              have hne4 : ¬ (wr.heap.size = gr) := by omega
              have hne : ¬ (g = wr.heap.size) := by omega
              have hne3 : ¬ (wr.heap.size = g) := by omega
              clear hBy hbyt hblw hm
              generalize hML : ms.length = ml at *
              go_wp2
              go_region_law (fail "no call")
              all_goals go_wp2
              all_goals go_roundw
              all_goals first
                | exact ⟨q + 1, by go_num, by omega, HBN.out⟩
                | (simp [intOf]; omega)
            · have hqn' : q = j := by omega
              subst hqn'
              go_wp2
              go_ret
              exact ⟨rfl, btrans HBW.out (HB7.out.trans (hBy.mono HB7.out.size))⟩
end Go.Proofs.NT
