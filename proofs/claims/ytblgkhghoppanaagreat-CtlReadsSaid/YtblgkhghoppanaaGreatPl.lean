/- Proved: contracts of single functions of the program and lemmas that they need; each theorem says its own conditions. -/
import Derived.Test.YtblgkhghoppanaaGreatPk
set_option linter.unusedVariables false
set_option linter.unusedSimpArgs false
namespace Go.Proofs.PK
theorem dec_enc (n : Nat) : ∀ (i : Nat) (rest : List Nat), i ≤ 9 → n < 2 ^ (64 - 7 * i) → (0 < i → 0 < n) → dec i (enc n ++ rest) = .ok (n, (enc n).length) := by
  induction n using enc.induct with
  | case1 n h =>
    intro i rest hi hn h0
    rw [enc_small h]
    show dec i (n :: rest) = _
    have h9 : ¬ (i = 9 ∧ 1 < n) := by
      rintro ⟨rfl, h1⟩
      simp at hn; omega
    rw [dec, if_neg h9, if_neg (by omega), if_neg (by omega)]
    rfl
  | case2 n h ih =>
    intro i rest hi hn h0
    rw [enc_big (by omega)]
    show dec i ((n % 128 + 128) :: (enc (n / 128) ++ rest)) = _
    have hi9 : i ≠ 9 := by
      rintro rfl
      simp at hn; omega
    have hpow : 2 ^ (64 - 7 * i) = 128 * 2 ^ (64 - 7 * (i + 1)) := by
      rw [show (128 : Nat) = 2 ^ 7 by decide, ← Nat.pow_add]; congr 1; omega
    rw [dec, if_neg (by omega), if_pos (by omega), ih (i + 1) rest (by omega) (by rw [hpow] at hn; omega) (by omega)]
    simp only [List.length_cons, Except.ok.injEq, Prod.mk.injEq]
    exact ⟨by omega, trivial⟩
theorem enc_dec : ∀ (m : List Nat) (i n k : Nat), Byt m → i ≤ 9 → dec i m = .ok (n, k) → enc n = m.take k ∧ (0 < i → 0 < n) ∧ n < 2 ^ (64 - 7 * i)
  | [], i, n, k, hb, hi, h => by simp [dec] at h
  | c :: r, i, n, k, hb, hi, h => by
    have hc : c < 256 := hb c (by simp)
    have hbr : Byt r := fun x hx => hb x (by simp [hx])
    unfold dec at h
    split at h
    · cases h
    · rename_i h9
      split at h
      · rename_i h128
        split at h
        · rename_i n' k' h'
          cases h
          have hi8 : i ≤ 8 := by omega
          obtain ⟨e1, e2, e3⟩ := enc_dec r (i + 1) n' k' hbr (by omega) h'
          have hn' := e2 (by omega)
          have hpow : 2 ^ (64 - 7 * i) = 128 * 2 ^ (64 - 7 * (i + 1)) := by
            rw [show (128 : Nat) = 2 ^ 7 by decide, ← Nat.pow_add]; congr 1; omega
          refine ⟨?_, by omega, by rw [hpow]; omega⟩
          rw [enc_big (by omega), show (c % 128 + 128 * n') % 128 + 128 = c by omega, show (c % 128 + 128 * n') / 128 = n' by omega, e1]
          rfl
        · cases h
      · rename_i h128
        split at h
        · cases h
        · rename_i h0
          cases h
          refine ⟨by rw [enc_small (by omega)]; rfl, by omega, ?_⟩
          by_cases h8 : i ≤ 8
          · exact Nat.lt_of_lt_of_le (show c < 2 ^ 8 by omega) (Nat.pow_le_pow_right (by omega) (by omega))
          · obtain rfl : i = 9 := by omega
            simp; omega
theorem drop_app (p q : List Nat) : (p ++ q).drop p.length = q := List.drop_left
theorem txt_put (p t : List Nat) (ht : t.length ≤ 65536) : txt (p ++ (enc t.length ++ t)) p.length = .ok (t, p.length + (enc t.length).length + t.length) := by
  unfold txt
  rw [drop_app, dec_enc t.length 0 t (by omega) (by simp; omega) (by omega)]
  simp only []
  have hd : (p ++ (enc t.length ++ t)).drop (p.length + (enc t.length).length) = t := by
    rw [← List.append_assoc, ← List.length_append, drop_app]
  rw [if_neg (by omega), if_neg (by simp only [List.length_append]; omega), hd, List.take_length]
theorem ctlOf_put (a b d : Nat) (t : List Nat) (hb : b < 4294967296) (hd : d < 18446744073709551616) (ht : t.length ≤ 65536) : ctlOf (putL a b d t) = .ok (a, b, d, t) := by
  have e : putL a b d t = a :: (enc b ++ (enc d ++ (enc t.length ++ t))) := by simp [putL]
  have e1 : putL a b d t = ([a] ++ enc b) ++ (enc d ++ (enc t.length ++ t)) := by simp [putL]
  have e2 : putL a b d t = (([a] ++ enc b) ++ enc d) ++ (enc t.length ++ t) := by simp [putL]
  have l1 : ([a] ++ enc b).length = 1 + (enc b).length := by simp; omega
  have l2 : (([a] ++ enc b) ++ enc d).length = 1 + (enc b).length + (enc d).length := by simp; omega
  have d0 : (putL a b d t).drop 1 = enc b ++ (enc d ++ (enc t.length ++ t)) := by rw [e]; rfl
  have d1 : (putL a b d t).drop (1 + (enc b).length) = enc d ++ (enc t.length ++ t) := by rw [e1, ← l1, drop_app]
  have r : ctlOf (putL a b d t) = ctlB (putL a b d t) a := by rw [e]; rfl
  have d2 : txt (putL a b d t) (1 + (enc b).length + (enc d).length) = .ok (t, 1 + (enc b).length + (enc d).length + (enc t.length).length + t.length) := by rw [e2, ← l2]; exact txt_put _ t ht
  have ll : (putL a b d t).length = 1 + (enc b).length + (enc d).length + (enc t.length).length + t.length := by rw [e2, List.length_append, l2, List.length_append]; omega
  rw [r]
  unfold ctlB
  rw [d0, dec_enc b 0 _ (by omega) (by simp; omega) (by omega)]
  simp only []
  rw [if_neg (by omega), d1, dec_enc d 0 _ (by omega) (by simpa using hd) (by omega)]
  simp only []
  rw [d2]
  simp only []
  rw [if_neg (by omega)]
theorem put_ctl (l : List Nat) (a b d : Nat) (t : List Nat) (hby : Byt l) (h : ctlOf l = .ok (a, b, d, t)) : putL a b d t = l ∧ b < 4294967296 ∧ d < 18446744073709551616 ∧ t.length ≤ 65536 ∧ Byt t := by
  match l, h with
  | [], h => cases h
  | c :: r, h =>
    unfold ctlOf ctlB at h
    simp only [] at h
    generalize hL : c :: r = L at *
    split at h
    · cases h
    · rename_i sub k hd1
      split at h
      · cases h
      · rename_i h5
        split at h
        · cases h
        · rename_i n k2 hd2
          split at h
          · cases h
          · rename_i t' e3 ht
            split at h
            · cases h
            · rename_i he3
              cases h
              have hbt := txt_byt hby ht
              have hdr : ∀ j, Byt (L.drop j) := fun j x hx => hby x (List.mem_of_mem_drop hx)
              have k1 := (dec_le _ _ _ _ hd1).2
              have k2' := (dec_le _ _ _ _ hd2).2
              rw [List.length_drop] at k1 k2'
              obtain ⟨e1, -, n1⟩ := enc_dec _ 0 _ _ (hdr _) (by omega) hd1
              obtain ⟨e2, -, n2⟩ := enc_dec _ 0 _ _ (hdr _) (by omega) hd2
              unfold txt at ht
              split at ht
              · cases ht
              · rename_i m k3 hd3
                split at ht
                · cases ht
                · rename_i hm
                  split at ht
                  · cases ht
                  · rename_i hm2
                    obtain ⟨e4, -, n3⟩ := enc_dec _ 0 _ _ (hdr _) (by omega) hd3
                    have k3' := (dec_le _ _ _ _ hd3).2
                    rw [List.length_drop] at k3'
                    cases ht
                    have hlen : ((L.drop (1 + k + k2 + k3)).take m).length = m := by rw [List.length_take, List.length_drop]; omega
                    refine ⟨?_, by omega, by simpa using n2, by omega, hbt⟩
                    unfold putL
                    rw [hlen, e1, e2, e4]
                    have hm3 : m = (L.drop (1 + k + k2 + k3)).length := by rw [List.length_drop]; omega
                    rw [hm3, List.take_length]
                    have t1 : ∀ (i j : Nat), (L.drop i).take j ++ L.drop (i + j) = L.drop i := fun i j => by rw [← List.drop_drop]; exact List.take_append_drop j (L.drop i)
                    rw [List.append_assoc, t1, List.append_assoc, t1, List.append_assoc, t1, ← hL]
                    rfl
end Go.Proofs.PK
