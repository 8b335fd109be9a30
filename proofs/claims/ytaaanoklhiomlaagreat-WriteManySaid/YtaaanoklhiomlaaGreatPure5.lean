import Derived.Test.YtaaanoklhiomlaaGreatPure4
set_option linter.unusedVariables false
set_option linter.unusedSimpArgs false
/- numbers as they are. -/
namespace Wr
def u64 (v : Int) : Nat := (v % 18446744073709551616).toNat
theorem u64_lt (v : Int) : u64 v < 2 ^ 64 := by unfold u64; omega
def plainB (xs : List Int) : Bs := xs.flatMap fun v => word8 (u64 v)
theorem word8_length (n : Nat) : (word8 n).length = 8 := rfl
theorem plainB_length (xs : List Int) : (plainB xs).length = 8 * xs.length := by
  induction xs with
  | nil => rfl
  | cons x xs ih => simp only [plainB, List.flatMap_cons, List.length_append, word8_length] at ih ⊢; rw [ih]; simp; omega
theorem plainB_append (a b : List Int) : plainB (a ++ b) = plainB a ++ plainB b := by simp [plainB]
theorem plainB_snoc (a : List Int) (x : Int) : plainB (a ++ [x]) = plainB a ++ word8 (u64 x) := by simp [plainB]
end Wr
