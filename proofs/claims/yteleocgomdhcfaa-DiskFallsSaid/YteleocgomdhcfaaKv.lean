/- Proved: the program's disk in memory: its map of names, and each file's bytes in a row of its own. Each theorem says its own conditions. -/
import Derived.Test.YteleocgomdhcfaaKu
import Derived.MapKept
set_option linter.unusedVariables false
set_option linter.unusedSimpArgs false
namespace Go.Proofs.DK
open Go.RowKit
/-- All blocks. -/
instance (priority := low) okAll : Okb := ⟨fun _ => True, 0, fun _ _ => trivial⟩
/-- A file in memory: its block, and the slice of its bytes. -/
structure En where
  f : Fl
  b : Nat
  v : Value
def ptr (b : Nat) : Value := .pointer (some ⟨b, 0, none⟩)
/-- The block of a row. -/
def rb (v : Value) : Option Nat := v.ownBlock
/-- A row of bytes that nothing else shares. -/
def BR (W : World) (v : Value) (s : List UInt8) : Prop := W.ownsRow 0 5 1 v s.length (B s)
theorem BR.keep {W W' : World} {v : Value} {s : List UInt8} (h : BR W v s) (hk : ∀ g, rb v = some g → g < W.heap.size → W'.heap[g]? = W.heap[g]?) : BR W' v s := own_keep h hk
theorem BR.lt {W : World} {v : Value} {s : List UInt8} (h : BR W v s) : ∀ g, rb v = some g → ∃ cur, W.heap[g]? = some (.cells cur 5 (0, 0)) := fun g hg => by
  rcases h.2 with ⟨e, _⟩ | ⟨g', cap, cur, e, h1, h2, _⟩
  · rw [e] at hg; cases hg
  · rw [e] at hg; cases hg; exact ⟨cur, h2⟩
theorem BR.form {W : World} {v : Value} {s : List UInt8} (h : BR W v s) : ∃ p c, v = .slice p s.length c ∧ s.length ≤ c := by
  rcases h.2 with ⟨e, e0⟩ | ⟨g', cap, cur, e, h1, h2, h3, _⟩
  · exact ⟨none, 0, by rw [e0]; exact e, Nat.le_of_eq e0⟩
  · exact ⟨_, _, e, h3⟩
/-- Such a row can be read. -/
theorem BR.rd {W : World} {v : Value} {s : List UInt8} (h : BR W v s) : Rd W v s := by
  obtain ⟨p, c, rfl, _⟩ := h.form
  exact (own_rd h fun _ _ => trivial).1
theorem BR.own {N : Nat} {W : World} {g c : Nat} {s : List UInt8} (h : W.ownsRow N 5 1 (.slice (some ⟨g, 0, none⟩) s.length c) s.length (B s)) : BR W (.slice (some ⟨g, 0, none⟩) s.length c) s := own_base h (Nat.zero_le _)
/-- The program's disk. -/
structure Dk (G : Nat → Prop) (bd bm : Nat) (es : Array MapEntry) (ck : Nat) (R : List En) (S : Ds) (W : World) : Prop where
  gd : G bd
  gm : G bm
  hd : W.heap[bd]? = some (.cells #[.int .i64 S.room, .map (some bm), .bool S.down, .int .i64 S.falls, .bool S.fused, .int .i64 S.fuse, .int .i64 S.part] 56 (0, 0))
  map : W.heap[bm]? = some (.map es ck)
  mp : (es.toList.map fun x => (x.key, x.val)).Perm (R.map fun e => (Value.string (bs e.f.n), ptr e.b))
  perm : (R.map (·.f)).Perm S.fs
  srt : Srt S.fs
  ent : ∀ e ∈ R, G e.b ∧ W.heap[e.b]? = some (.cells #[e.v, .int .i64 e.f.s] 73 (0, 0)) ∧ BR W e.v e.f.b ∧ ∀ g, rb e.v = some g → G g
  apart : R.Pairwise fun x y => x.b ≠ y.b ∧ ∀ g, rb x.v = some g → rb y.v ≠ some g
  st : MapKept.Stamped es ck
def D (G : Nat → Prop) (bd : Nat) (S : Ds) (W : World) : Prop := ∃ bm es ck R, Dk G bd bm es ck R S W
variable {G : Nat → Prop} {bd bm : Nat} {es : Array MapEntry} {ck : Nat} {R : List En} {S : Ds} {W W' : World}
theorem Dk.keep (h : Dk G bd bm es ck R S W) (hk : ∀ b, b < W.heap.size → G b → W'.heap[b]? = W.heap[b]?) : Dk G bd bm es ck R S W' := by
  have k : ∀ {b : Nat} {o : Obj}, W.heap[b]? = some o → G b → W'.heap[b]? = some o := fun {b o} hb hg => (hk b (Array.getElem?_eq_some_iff.1 hb).1 hg).trans hb
  refine ⟨h.gd, h.gm, k h.hd h.gd, k h.map h.gm, h.mp, h.perm, h.srt, fun e he => ?_, h.apart, h.st⟩
  obtain ⟨h1, h2, h3, h4⟩ := h.ent e he
  exact ⟨h1, k h2 h1, h3.keep fun g hg hl => hk g hl (h4 g hg), h4⟩
theorem D.keep (h : D G bd S W) (hk : ∀ b, b < W.heap.size → G b → W'.heap[b]? = W.heap[b]?) : D G bd S W' := by
  obtain ⟨bm, es, ck, R, h⟩ := h
  exact ⟨bm, es, ck, R, h.keep hk⟩
theorem D.below (h : D G bd S W) (hB : Below W.heap.size W W') : D G bd S W' := h.keep fun b hb _ => hB.block b hb
theorem Dk.more {G' : Nat → Prop} (h : Dk G bd bm es ck R S W) (hG : ∀ b, G b → G' b) : Dk G' bd bm es ck R S W :=
  ⟨hG _ h.gd, hG _ h.gm, h.hd, h.map, h.mp, h.perm, h.srt, fun e he => let ⟨h1, h2, h3, h4⟩ := h.ent e he; ⟨hG _ h1, h2, h3, fun g hg => hG _ (h4 g hg)⟩, h.apart, h.st⟩
/-- The order in which the files stand does not matter. -/
theorem Dk.reorder {R' : List En} (h : Dk G bd bm es ck R S W) (hp : R.Perm R') : Dk G bd bm es ck R' S W :=
  ⟨h.gd, h.gm, h.hd, h.map, h.mp.trans (hp.map _), (hp.symm.map _).trans h.perm, h.srt, fun e he => h.ent e (hp.mem_iff.2 he), hp.pairwise h.apart (fun hxy => ⟨fun e => hxy.1 e.symm, fun g hg hx => hxy.2 g hx hg⟩), h.st⟩
theorem Dk.front {e : En} (h : Dk G bd bm es ck R S W) (he : e ∈ R) : ∃ R', Dk G bd bm es ck (e :: R') S W := by
  obtain ⟨A, C, rfl⟩ := List.append_of_mem he
  exact ⟨A ++ C, h.reorder List.perm_middle⟩
theorem wo_perm {a b : List Fl} (h : a.Perm b) (n : List UInt8) : (woF a n).Perm (woF b n) := h.filter _
theorem wi_perm (fs : List Fl) (f : Fl) : (wiF fs f).Perm (f :: woF fs f.n) := ins_perm f _
theorem names_ne {e : En} {R' : List En} (hp : ((e :: R').map (·.f)).Perm S.fs) (hs : Srt S.fs) : ∀ x ∈ R', x.f.n ≠ e.f.n := by
  have h1 : S.fs.Pairwise fun x y => x.n ≠ y.n := hs.imp fun hlt he => by rw [he] at hlt; exact List.lt_irrefl _ hlt
  have h2 := hp.symm.pairwise h1 (fun h => fun e => h e.symm)
  rw [List.map_cons, List.pairwise_cons] at h2
  exact fun x hx => fun e => h2.1 x.f (List.mem_map.2 ⟨x, hx, rfl⟩) e.symm
theorem wo_rest {e : En} {R' : List En} (hp : ((e :: R').map (·.f)).Perm S.fs) (hs : Srt S.fs) : (R'.map (·.f)).Perm (woF S.fs e.f.n) := by
  have h1 := names_ne hp hs
  have h2 := wo_perm hp e.f.n
  have h3 : woF ((e :: R').map (·.f)) e.f.n = R'.map (·.f) := by
    rw [List.map_cons]
    unfold woF
    rw [List.filter_cons, if_neg (by simp)]
    exact wo_none fun x hx => by
      obtain ⟨y, hy, rfl⟩ := List.mem_map.1 hx
      exact h1 y hy
  rw [h3] at h2
  exact h2
end Go.Proofs.DK
