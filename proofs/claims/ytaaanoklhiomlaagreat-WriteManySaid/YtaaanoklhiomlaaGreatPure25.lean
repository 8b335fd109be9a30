import Derived.Test.YtaaanoklhiomlaaGreatPure6
set_option linter.unusedVariables false
set_option linter.unusedSimpArgs false
namespace Wr
theorem outs_app (blk : List Int → Bs) (B : Nat) (hB : 1 ≤ B) (ys : List Int) : ∀ (m : Nat) (xs : List Int), xs.length = B * m → outs blk B (xs ++ ys) = outs blk B xs ++ outs blk B ys
  | 0, xs, h => by
    have : xs = [] := List.length_eq_zero_iff.1 (by simpa using h)
    subst this
    rw [List.nil_append, outs_nil blk B hB, List.nil_append]
  | m + 1, xs, h => by
    have h' : xs.length = B * m + B := by rw [h, Nat.mul_add, Nat.mul_one]
    rw [outs_more blk B (xs ++ ys) hB (by simp; omega), outs_more blk B xs hB (by omega), List.take_append_of_le_length (by omega), List.drop_append_of_le_length (by omega),
      outs_app blk B hB ys m (xs.drop B) (by simp; omega), List.append_assoc]
theorem outs_split (blk : List Int → Bs) (B : Nat) (hB : 1 ≤ B) (xs ys : List Int) : outs blk B (xs ++ ys) = outs blk B (told B xs) ++ outs blk B (left B xs ++ ys) := by
  have e : xs ++ ys = told B xs ++ (left B xs ++ ys) := by rw [← List.append_assoc, told_left]
  rw [e, outs_app blk B hB _ (xs.length / B) (told B xs) (told_length B xs)]
theorem outs_self (blk : List Int → Bs) (B : Nat) (hB : 1 ≤ B) (xs : List Int) : outs blk B xs = outs blk B (told B xs) := by
  have := outs_split blk B hB xs []
  rw [List.append_nil, List.append_nil, outs_few blk B _ (left_lt B hB xs), List.append_nil] at this
  exact this
theorem outs_add_few (blk : List Int → Bs) (B : Nat) (hB : 1 ≤ B) (xs tk : List Int) (hf : (left B xs).length + tk.length < B) : outs blk B (xs ++ tk) = outs blk B xs := by
  rw [outs_split blk B hB, outs_few blk B (left B xs ++ tk) (by rw [List.length_append]; exact hf), List.append_nil, ← outs_self blk B hB]
theorem outs_add_full (blk : List Int → Bs) (B : Nat) (hB : 1 ≤ B) (xs tk : List Int) (hf : (left B xs).length + tk.length = B) : outs blk B (xs ++ tk) = outs blk B xs ++ blk (left B xs ++ tk) := by
  rw [outs_split blk B hB, outs_self blk B hB xs, outs_more blk B (left B xs ++ tk) hB (by rw [List.length_append]; omega), List.take_of_length_le (by rw [List.length_append]; omega), List.drop_eq_nil_of_le (by rw [List.length_append]; omega), outs_nil blk B hB, List.append_nil]
theorem outs_len2 (blk : List Int → Bs) (B : Nat) (C : Nat) (P : Int → Prop) (hb : ∀ c, c.length = B → (∀ x, x ∈ c → P x) → (blk c).length ≤ C) : ∀ (k : Nat) (xs : List Int), xs.length ≤ k → (∀ x, x ∈ xs → P x) → (outs blk B xs).length ≤ C * xs.length
  | k, xs, hk, hP => by
    by_cases h : 1 ≤ B ∧ B ≤ xs.length
    · match k with
      | 0 => omega
      | k + 1 =>
        rw [outs_more blk B xs h.1 h.2, List.length_append]
        have a := hb (xs.take B) (by rw [List.length_take]; omega) (fun x hx => hP x (List.mem_of_mem_take hx))
        have b := outs_len2 blk B C P hb k (xs.drop B) (by simp; omega) (fun x hx => hP x (List.mem_of_mem_drop hx))
        rw [List.length_drop] at b
        have e : xs.length = (xs.length - B) + B := by omega
        have : C * xs.length = C * (xs.length - B) + C * B := by rw [← Nat.mul_add]; congr 1
        have : C * 1 ≤ C * B := Nat.mul_le_mul_left _ h.1
        omega
    · rw [outs, dif_neg h]; simp
end Wr
