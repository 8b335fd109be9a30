import Derived.Test.YtaaanoklhiomlaaGreatPure5
set_option linter.unusedVariables false
set_option linter.unusedSimpArgs false
namespace Wr
/-- bytes of the full blocks of numbers. -/
def outs (blk : List Int → Bs) (B : Nat) (xs : List Int) : Bs := if _h : 1 ≤ B ∧ B ≤ xs.length then blk (xs.take B) ++ outs blk B (xs.drop B) else []
  termination_by xs.length
  decreasing_by simp; omega
theorem outs_few (blk : List Int → Bs) (B : Nat) (xs : List Int) (h : xs.length < B) : outs blk B xs = [] := by rw [outs, dif_neg (by omega)]
theorem outs_more (blk : List Int → Bs) (B : Nat) (xs : List Int) (hB : 1 ≤ B) (h : B ≤ xs.length) : outs blk B xs = blk (xs.take B) ++ outs blk B (xs.drop B) := by rw [outs, dif_pos ⟨hB, h⟩]
/-- what stands in full blocks, and what is left. -/
def told (B : Nat) (xs : List Int) : List Int := xs.take (B * (xs.length / B))
def left (B : Nat) (xs : List Int) : List Int := xs.drop (B * (xs.length / B))
theorem told_left (B : Nat) (xs : List Int) : told B xs ++ left B xs = xs := List.take_append_drop _ _
theorem mul_div_le (B n : Nat) : B * (n / B) ≤ n := Nat.mul_div_le n B
theorem told_length (B : Nat) (xs : List Int) : (told B xs).length = B * (xs.length / B) := by
  unfold told; rw [List.length_take]; have := mul_div_le B xs.length; omega
theorem left_length (B : Nat) (xs : List Int) : (left B xs).length = xs.length - B * (xs.length / B) := by
  unfold left; rw [List.length_drop]
theorem left_lt (B : Nat) (hB : 1 ≤ B) (xs : List Int) : (left B xs).length < B := by
  rw [left_length]
  have := Nat.mod_lt xs.length (show 0 < B by omega)
  have := Nat.div_add_mod xs.length B
  omega
theorem told_nil (B : Nat) : told B [] = [] := by simp [told]
theorem left_nil (B : Nat) : left B [] = [] := by simp [left]
theorem outs_nil (blk : List Int → Bs) (B : Nat) (hB : 1 ≤ B) : outs blk B [] = [] := outs_few _ _ _ (by simp; omega)
/-- some more that do not fill the block. -/
theorem add_few (B : Nat) (xs ys : List Int) (h : (left B xs).length + ys.length < B) : told B (xs ++ ys) = told B xs ∧ left B (xs ++ ys) = left B xs ++ ys := by
  rw [left_length] at h
  have hle := mul_div_le B xs.length
  have hd : (xs ++ ys).length / B = xs.length / B := by
    rw [List.length_append]
    apply Nat.div_eq_of_lt_le
    · rw [Nat.mul_comm]; omega
    · rw [Nat.add_mul, Nat.one_mul, Nat.mul_comm (xs.length / B) B]; omega
  unfold told left
  rw [hd]
  exact ⟨List.take_append_of_le_length hle, List.drop_append_of_le_length hle⟩
/-- some more that fill the block. -/
theorem add_full (B : Nat) (hB : 1 ≤ B) (xs ys : List Int) (h : (left B xs).length + ys.length = B) : told B (xs ++ ys) = told B xs ++ (left B xs ++ ys) ∧ left B (xs ++ ys) = [] := by
  have e := told_left B xs
  rw [left_length] at h
  have hle := mul_div_le B xs.length
  have hd : B * ((xs ++ ys).length / B) = (xs ++ ys).length := by
    rw [List.length_append]
    have : xs.length + ys.length = B * (xs.length / B + 1) := by rw [Nat.mul_add, Nat.mul_one]; omega
    rw [this, Nat.mul_div_cancel_left _ (by omega)]
  unfold told left at *
  rw [hd]
  refine ⟨?_, by simp⟩
  rw [List.take_length, ← List.append_assoc, e]
theorem outs_told (blk : List Int → Bs) (B : Nat) (hB : 1 ≤ B) (cs : List Int) (hc : cs.length = B) : ∀ (m : Nat) (xs : List Int), xs.length = B * m → outs blk B (xs ++ cs) = outs blk B xs ++ blk cs
  | 0, xs, h => by
    have : xs = [] := List.length_eq_zero_iff.1 (by simpa using h)
    subst this
    rw [List.nil_append, outs_more blk B cs hB (by omega), outs_nil blk B hB, List.take_of_length_le (by omega), List.drop_eq_nil_of_le (by omega), outs_nil blk B hB]; simp
  | m + 1, xs, h => by
    have h' : xs.length = B * m + B := by rw [h, Nat.mul_add, Nat.mul_one]
    rw [outs_more blk B (xs ++ cs) hB (by simp; omega), outs_more blk B xs hB (by omega), List.take_append_of_le_length (by omega), List.drop_append_of_le_length (by omega),
      outs_told blk B hB cs hc m (xs.drop B) (by simp; omega), List.append_assoc]
theorem outs_len (blk : List Int → Bs) (B : Nat) (hb : ∀ c, (blk c).length ≤ 1100 + 16 * c.length) : ∀ (k : Nat) (xs : List Int), xs.length ≤ k → (outs blk B xs).length ≤ 1116 * xs.length
  | k, xs, hk => by
    by_cases h : 1 ≤ B ∧ B ≤ xs.length
    · match k with
      | 0 => omega
      | k + 1 =>
        rw [outs_more blk B xs h.1 h.2, List.length_append]
        have a := hb (xs.take B)
        have b := outs_len blk B hb k (xs.drop B) (by simp; omega)
        rw [List.length_take, Nat.min_eq_left h.2] at a
        rw [List.length_drop] at b
        have : 1116 * (xs.length - B) + 1116 * B = 1116 * xs.length := by omega
        omega
    · rw [outs, dif_neg h]; simp
end Wr
