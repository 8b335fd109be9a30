set_option linter.unusedVariables false
set_option linter.unusedSimpArgs false
/- whole numbers in bytes. -/
namespace Wr
abbrev Bs := List UInt8
def b8 (n : Nat) : UInt8 := UInt8.ofNat n
theorem b8_toNat (n : Nat) (h : n < 256) : (b8 n).toNat = n := by simp [b8, Nat.mod_eq_of_lt h]
theorem b8_toNat' (n : Nat) : (b8 n).toNat = n % 256 := by simp [b8]

def vput (n : Nat) : Bs := if h : n < 128 then [b8 n] else b8 (n % 128 + 128) :: vput (n / 128)
  termination_by n
  decreasing_by omega
theorem vput_small {n : Nat} (h : n < 128) : vput n = [b8 n] := by rw [vput, dif_pos h]
theorem vput_more {n : Nat} (h : 128 ≤ n) : vput n = b8 (n % 128 + 128) :: vput (n / 128) := by rw [vput, dif_neg (by omega)]

theorem vput_len (k : Nat) : ∀ n, n < 128 ^ (k + 1) → (vput n).length ≤ k + 1 := by
  induction k with
  | zero => intro n h; rw [vput_small (by omega)]; simp
  | succ k ih =>
    intro n h
    by_cases h1 : n < 128
    · rw [vput_small h1]; simp
    · rw [vput_more (by omega)]
      have := ih (n / 128) (Nat.div_lt_of_lt_mul (by rw [Nat.pow_succ, Nat.mul_comm] at h; exact h))
      simp; omega
theorem vput_pos (n : Nat) : 1 ≤ (vput n).length := by
  by_cases h : n < 128
  · rw [vput_small h]; simp
  · rw [vput_more (by omega)]; simp

/-- eight bytes, the lowest first. -/
def word8 (n : Nat) : Bs := [b8 n, b8 (n / 256), b8 (n / 65536), b8 (n / 16777216), b8 (n / 4294967296), b8 (n / 1099511627776), b8 (n / 281474976710656), b8 (n / 72057594037927936)]

/-- the number of bytes, the lowest first. -/
def leNum : Bs → Nat
  | [] => 0
  | b :: l => b.toNat + 256 * leNum l
theorem leNum_lt (l : Bs) : leNum l < 256 ^ l.length := by
  induction l with
  | nil => simp [leNum]
  | cons b l ih =>
    have hb : b.toNat < 256 := b.toNat_lt
    simp only [leNum, List.length_cons, Nat.pow_succ]
    omega
theorem leNum_word8 (n : Nat) (h : n < 2 ^ 64) : leNum (word8 n) = n := by
  simp only [word8, leNum, b8_toNat']
  omega
theorem word8_leNum (l : Bs) (h : l.length = 8) : word8 (leNum l) = l := by
  match l, h with
  | [a0, a1, a2, a3, a4, a5, a6, a7], _ =>
    have h0 := a0.toNat_lt; have h1 := a1.toNat_lt; have h2 := a2.toNat_lt; have h3 := a3.toNat_lt
    have h4 := a4.toNat_lt; have h5 := a5.toNat_lt; have h6 := a6.toNat_lt; have h7 := a7.toNat_lt
    simp only [word8, leNum]
    have key : ∀ (x : Nat) (b : UInt8), x % 256 = b.toNat → b8 x = b := fun x b h => UInt8.toNat_inj.1 (by rw [b8_toNat', h])
    rw [key _ a0 (by omega), key _ a1 (by omega), key _ a2 (by omega), key _ a3 (by omega), key _ a4 (by omega), key _ a5 (by omega), key _ a6 (by omega), key _ a7 (by omega)]
end Wr
