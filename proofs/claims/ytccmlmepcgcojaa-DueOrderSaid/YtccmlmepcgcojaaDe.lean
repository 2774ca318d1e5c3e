/- Proved: what 'up' of a heap comes to. Each theorem says its own conditions. -/
import Derived.Test.YtccmlmepcgcojaaDd
set_option linter.unusedVariables false
set_option linter.unusedSimpArgs false
namespace Go.Proofs.DU
open Go.RowKit
theorem run_info' {P : Program} {t : TypeId} {i : TypeInfo} (h : P.info? t = some i) (w : World) : (typeInfo t).run P w = .ok i w := by simp [typeInfo, h]
/-- A method of the pointer's element, through the pointer. -/
theorem meth_val {P : Program} {t e : TypeId} {name : String} {f : FuncId} {i : TypeInfo} {m : Method} (hi : P.info? t = some i) (hm : i.methods.find? (·.name == name) = some m) (hp : m.path = #[]) (hf : m.func = some (f, false)) (hu : P.underlying t = some (.pointer e)) {b : Addr} {w : World} {v : Value} (hl : (loadVar e b).run P w = .ok v w) (n : Nat) :
    (method (n + 1) t (.pointer (some b)) name).run P w = .ok (f, v) w := by
  have hpe : m.path.isEmpty = true := by rw [hp]; rfl
  have hpl : m.path.toList = [] := by rw [hp]
  have hssa : ∀ (s s' : String), Builtin.ssaWrapNilChk_ #[t] t #[.pointer (some b), strVal s, strVal s'] = pure (.pointer (some b)) := fun _ _ => rfl
  simp only [method, Sem.run_bind, run_info' hi, Result.andThen_ok, hm, hpl, follow, Sem.run_pure, hf, receiverAt, run_underlying hu, Place.get, hpe, if_true]
  simp only [hssa, Sem.run_pure, Result.andThen_ok, asAddr, hl]
/-- A method of the pointer itself. -/
theorem meth_ptr {P : Program} {t e : TypeId} {name : String} {f : FuncId} {i : TypeInfo} {m : Method} (hi : P.info? t = some i) (hm : i.methods.find? (·.name == name) = some m) (hp : m.path = #[]) (hf : m.func = some (f, true)) (hu : P.underlying t = some (.pointer e)) {v : Value} {w : World} (n : Nat) :
    (method (n + 1) t v name).run P w = .ok (f, v) w := by
  have hpl : m.path.toList = [] := by rw [hp]
  simp only [method, Sem.run_bind, run_info' hi, Result.andThen_ok, hm, hpl, follow, Sem.run_pure, hf, receiverAt, run_underlying hu, Place.get]
theorem meth_of {t : TypeId} {name : String} {r : Option (FuncId × Bool)} (h : ((Try.prog.info? t).bind fun i => (i.methods.find? (·.name == name)).map fun m => (m.path.size, m.func)) = some (0, r)) : ∃ i m, Try.prog.info? t = some i ∧ i.methods.find? (·.name == name) = some m ∧ m.path = #[] ∧ m.func = r := by
  cases hi : Try.prog.info? t with
  | none => rw [hi] at h; cases h
  | some i =>
    rw [hi] at h
    simp only [Option.bind_some] at h
    cases hm : i.methods.find? (·.name == name) with
    | none => rw [hm] at h; cases h
    | some m =>
      rw [hm] at h
      simp only [Option.map_some, Option.some.injEq, Prod.mk.injEq] at h
      exact ⟨i, m, rfl, hm, Array.eq_empty_of_size_eq_zero h.1, h.2⟩
theorem info_less : ((Try.prog.info? 59).bind fun i => (i.methods.find? (·.name == "Less")).map fun m => (m.path.size, m.func)) = some (0, some (44, false)) := by kernel_rfl
theorem info_swap : ((Try.prog.info? 59).bind fun i => (i.methods.find? (·.name == "Swap")).map fun m => (m.path.size, m.func)) = some (0, some (45, false)) := by kernel_rfl
theorem info_len : ((Try.prog.info? 59).bind fun i => (i.methods.find? (·.name == "Len")).map fun m => (m.path.size, m.func)) = some (0, some (43, false)) := by kernel_rfl
theorem info_push : ((Try.prog.info? 59).bind fun i => (i.methods.find? (·.name == "Push")).map fun m => (m.path.size, m.func)) = some (0, some (50, true)) := by kernel_rfl
theorem info_pop : ((Try.prog.info? 59).bind fun i => (i.methods.find? (·.name == "Pop")).map fun m => (m.path.size, m.func)) = some (0, some (49, true)) := by kernel_rfl
theorem load51 (a : Addr) (w : World) (v : Value) (h : w.cell? a = some v) : (loadVar 51 a).run Try.prog w = .ok v w := by
  have hu : Try.prog.underlying 51 = some (.slice 54) := Try.underlying51
  simp [go_sem, hu, h]
theorem m_less (bd : Nat) (rv : Value) (w : World) (h : w.cell? ⟨bd, 0, none⟩ = some rv) : (method 193 59 (.pointer (some ⟨bd, 0, none⟩)) "Less").run Try.prog w = .ok (44, rv) w := by
  obtain ⟨i, m, h1, h2, h3, h4⟩ := meth_of info_less
  exact meth_val h1 h2 h3 h4 Try.underlying59 (load51 _ w rv h) 192
theorem m_swap (bd : Nat) (rv : Value) (w : World) (h : w.cell? ⟨bd, 0, none⟩ = some rv) : (method 193 59 (.pointer (some ⟨bd, 0, none⟩)) "Swap").run Try.prog w = .ok (45, rv) w := by
  obtain ⟨i, m, h1, h2, h3, h4⟩ := meth_of info_swap
  exact meth_val h1 h2 h3 h4 Try.underlying59 (load51 _ w rv h) 192
theorem m_len (bd : Nat) (rv : Value) (w : World) (h : w.cell? ⟨bd, 0, none⟩ = some rv) : (method 193 59 (.pointer (some ⟨bd, 0, none⟩)) "Len").run Try.prog w = .ok (43, rv) w := by
  obtain ⟨i, m, h1, h2, h3, h4⟩ := meth_of info_len
  exact meth_val h1 h2 h3 h4 Try.underlying59 (load51 _ w rv h) 192
theorem m_push (bd : Nat) (w : World) : (method 193 59 (.pointer (some ⟨bd, 0, none⟩)) "Push").run Try.prog w = .ok (50, .pointer (some ⟨bd, 0, none⟩)) w := by
  obtain ⟨i, m, h1, h2, h3, h4⟩ := meth_of info_push
  exact meth_ptr h1 h2 h3 h4 Try.underlying59 192
theorem m_pop (bd : Nat) (w : World) : (method 193 59 (.pointer (some ⟨bd, 0, none⟩)) "Pop").run Try.prog w = .ok (49, .pointer (some ⟨bd, 0, none⟩)) w := by
  obtain ⟨i, m, h1, h2, h3, h4⟩ := meth_of info_pop
  exact meth_ptr h1 h2 h3 h4 Try.underlying59 192
/-- What a heap's function leaves: the same entries in another order, the first n of them. -/
structure Kept (F : Nat → Prop) (bd bm : Nat) (rv : Value) (n : Nat) (R R' : List En) (w w' : World) : Prop where
  st : St F bd bm rv R' w'
  perm : R'.Perm R
  rest : ∀ m, n ≤ m → R'[m]? = R[m]?
  turn : Turn F w w'
variable {F : Nat → Prop} {bd bm : Nat} {rv : Value} {R R1 R2 : List En} {n : Nat} {w w1 w2 w3 : World}
theorem Kept.refl (h : St F bd bm rv R w) : Kept F bd bm rv n R R w w := ⟨h, .refl _, fun _ _ => rfl, Turn.refl _ _⟩
theorem Kept.trans (h : Kept F bd bm rv n R R1 w w1) (k : Kept F bd bm rv n R1 R2 w1 w2) : Kept F bd bm rv n R R2 w w2 := ⟨k.st, k.perm.trans h.perm, fun m hm => (k.rest m hm).trans (h.rest m hm), h.turn.trans k.turn fun _ _ h => h⟩
theorem Kept.len (h : Kept F bd bm rv n R R1 w w1) : R1.length = R.length := h.perm.length_eq
/-- Two of the first n change places. -/
theorem Kept.swap (h : Kept F bd bm rv n R R1 w w1) (hB : Below w1.heap.size w1 w2) {i j g cap : Nat} {cur : Array Value} {a b : En} (ha : R1[i]? = some a) (hb : R1[j]? = some b) (hij : i ≠ j) (hi : i < n) (hj : j < n) (hv : rv = .slice (some ⟨g, 0, none⟩) R1.length cap) (hh : w1.heap[g]? = some (.cells cur 54 (0, 0))) (hgd : g ≠ bd) (hge : ∀ e ∈ R1, g ≠ e.b)
    (hfin : ((((w2.setCell ⟨g, i, none⟩ (.pointer (some ⟨b.b, 0, none⟩))).setCell ⟨g, j, none⟩ (.pointer (some ⟨a.b, 0, none⟩))).drew.setCell ⟨b.b, 2, none⟩ (.int .i64 i)).setCell ⟨a.b, 2, none⟩ (.int .i64 j)).drew = w3) : Kept F bd bm rv n R (swp R1 i j) w w3 := by
  obtain ⟨h1, h2, _⟩ := (h.st.below hB).swap ha hb hij hv ((hB.block g (Array.getElem?_eq_some_iff.1 hh).1).trans hh) hgd hge hfin
  refine ⟨h1, (swp_perm ha hb).trans h.perm, fun m hm => ?_, (h.turn.trans (Turn.of hB) fun _ _ h => h).trans h2 fun _ _ h => h⟩
  rw [swp_at ha hb, if_neg (by omega), if_neg (by omega)]
  exact h.rest m hm
end Go.Proofs.DU
