/- The plain laws of limb: cut and glued again, glued and cut again. No program stands here. -/
import Derived.Test.YtbneibfieohkpaaC
namespace Go.Proofs.Ytbneibfieohkpaa

theorem lowN_digit (bs : List Nat) (hb : ∀ i, bs.getD i 0 < 256) (off : Nat) : ∀ s i, i < s → lowN bs off s / 256 ^ i % 256 = bs.getD (off + i) 0
  | 0, i, h => by omega
  | s + 1, i, h => by
    rw [lowN]
    by_cases hi : i = s
    · subst hi
      rw [Nat.add_mul_div_right _ _ (Nat.pow_pos (by omega)), Nat.div_eq_of_lt (lowN_lt bs hb off i), Nat.zero_add]
      exact Nat.mod_eq_of_lt (hb _)
    · obtain ⟨d, rfl⟩ : ∃ d, s = i + 1 + d := ⟨s - i - 1, by omega⟩
      have h1 : (256 : Nat) ^ (i + 1 + d) = 256 ^ d * 256 * 256 ^ i := by
        rw [Nat.pow_add, Nat.pow_succ, Nat.mul_comm (256 ^ i) 256, Nat.mul_comm (256 * 256 ^ i), Nat.mul_assoc]
      rw [h1, ← Nat.mul_assoc, Nat.add_mul_div_right _ _ (Nat.pow_pos (by omega)), ← Nat.mul_assoc, Nat.add_mul_mod_self_right]
      exact lowN_digit bs hb off (i + 1 + d) i (by omega)
theorem lowN_of_digits (bs : List Nat) (x off : Nat) : ∀ s, (∀ i, i < s → bs.getD (off + i) 0 = x / 256 ^ i % 256) → lowN bs off s = x % 256 ^ s
  | 0, _ => by simp [lowN, Nat.mod_one]
  | s + 1, h => by
    rw [lowN, lowN_of_digits bs x off s (fun i hi => h i (by omega)), h s (by omega), Nat.mod_pow_succ, Nat.mul_comm]
theorem cutTo_at (bs : List Nat) (k : Nat) (h : k < 5) : (cutTo bs 5 0).getD k 0 = lowN bs (k * 7) (sizeN k) := by simp [cutTo, h, cutN]
theorem ok_cut (bs : List Nat) (hb : ∀ i, bs.getD i 0 < 256) : okTo (cutTo bs 5 0) 5 = true := by
  refine List.all_eq_true.2 fun k hk => ?_
  have hk : k < 5 := by simpa using hk
  rw [cutTo_at bs k hk]
  exact decide_eq_true (lowN_lt bs hb _ _)
theorem glue_cut (bs : List Nat) (hl : bs.length = 32) (hb : ∀ i, bs.getD i 0 < 256) : glueR (cutTo bs 5 0) = bs := by
  rw [glueR, if_pos (ok_cut bs hb)]
  apply List.ext_getElem (by rw [glTo_length, hl])
  intro m h1 h2
  have hm : m < 32 := by rw [glTo_length] at h1; exact h1
  simp only [glTo, List.getElem_map, List.getElem_range, if_pos hm]
  rw [cutTo_at bs (m / 7) (by omega), lowN_digit bs hb _ _ _ (by unfold sizeN; split <;> omega)]
  have : m / 7 * 7 + m % 7 = m := by omega
  rw [this]
  simp [List.getD, h2]
theorem cut_glue (ls : List Nat) (hl : ls.length = 5) (hok : okTo ls 5 = true) : cutTo (glueR ls) 5 0 = ls := by
  rw [glueR, if_pos hok]
  apply List.ext_getElem (by rw [cutTo_length, hl])
  intro k h1 h2
  have hk : k < 5 := by rw [cutTo_length] at h1; exact h1
  have hfit : ls.getD k 0 < 256 ^ sizeN k := by
    have := List.all_eq_true.1 hok k (by simpa using hk)
    simpa using this
  have h := cutTo_at (glTo ls 32) k hk
  rw [lowN_of_digits (glTo ls 32) (ls.getD k 0) (k * 7) (sizeN k) (fun i hi => by
    have hs : i < 7 ∧ k * 7 + i < 32 := by unfold sizeN at hi; split at hi <;> omega
    have e1 : (k * 7 + i) / 7 = k := by omega
    have e2 : (k * 7 + i) % 7 = i := by omega
    simp [glTo, hs.2, e1, e2]), Nat.mod_eq_of_lt hfit] at h
  simpa [List.getD, h1, h2] using h
theorem cut_apart (a b : List Nat) (ha : a.length = 32) (hb : b.length = 32) (ha2 : ∀ i, a.getD i 0 < 256) (hb2 : ∀ i, b.getD i 0 < 256) : (cutTo a 5 0 == cutTo b 5 0) = (a == b) := by
  by_cases h : a = b
  · subst h; simp
  · have h1 : ¬ cutTo a 5 0 = cutTo b 5 0 := fun e => h (by rw [← glue_cut a ha ha2, ← glue_cut b hb hb2, e])
    rw [beq_eq_false_iff_ne.2 h, beq_eq_false_iff_ne.2 h1]
theorem cutTo_small (bs : List Nat) (hb : ∀ i, bs.getD i 0 < 256) (k : Nat) : (cutTo bs 5 0).getD k 0 < 72057594037927936 := by
  by_cases hk : k < 5
  · have h : (cutTo bs 5 0).getD k 0 = lowN bs (k * 7) (sizeN k) := by simp [cutTo, hk, cutN]
    rw [h]
    refine Nat.lt_of_lt_of_le (lowN_lt bs hb _ _) ?_
    have hs : sizeN k ≤ 7 := by unfold sizeN; split <;> omega
    exact Nat.le_trans (Nat.pow_le_pow_right (by omega) hs) (by decide)
  · simp [List.getD, List.getElem?_eq_none (show (cutTo bs 5 0).length ≤ k by rw [cutTo_length]; omega)]

end Go.Proofs.Ytbneibfieohkpaa
