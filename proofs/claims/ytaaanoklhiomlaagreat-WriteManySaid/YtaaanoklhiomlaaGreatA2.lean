import Derived.Test.YtaaanoklhiomlaaGreatA1
import Derived.Outline
set_option linter.unusedVariables false
set_option linter.unusedSimpArgs false
namespace Go.Proofs.YtaaanoklhiomlaaGreat
open Go.RowKit
open Wr
theorem or_step (x : Nat) (b : UInt8) (k : Nat) (hx : x < 2 ^ k) (hk : k + 8 ≤ 64) : bits .or .u64 (x : Int) (IntKind.u64.wrap (IntKind.u64.wrap (b.toNat : Int) * ((2 ^ k : Nat) : Int))) = ((x + b.toNat * 2 ^ k : Nat) : Int) := by
  have hb := b.toNat_lt
  have h64 : (2 : Nat) ^ 64 = 18446744073709551616 := rfl
  have hm : b.toNat * 2 ^ k < 18446744073709551616 := by
    have h1 : b.toNat * 2 ^ k < 2 ^ 8 * 2 ^ k := Nat.mul_lt_mul_of_pos_right (by omega) (Nat.pow_pos (by omega))
    rw [← Nat.pow_add] at h1
    have h2 : 2 ^ (8 + k) ≤ 2 ^ 64 := Nat.pow_le_pow_right (by omega) (by omega)
    omega
  have hx2 : 2 ^ k ≤ 2 ^ 64 := Nat.pow_le_pow_right (by omega) (by omega)
  have e1 : IntKind.u64.wrap (b.toNat : Int) = (b.toNat : Int) := by rw [IntKind.wrap_u64]; omega
  rw [e1, ← Int.natCast_mul]
  have e2 : IntKind.u64.wrap ((b.toNat * 2 ^ k : Nat) : Int) = ((b.toNat * 2 ^ k : Nat) : Int) := by rw [IntKind.wrap_u64]; omega
  rw [e2, u64_or_nat _ _ (by omega) hm, Nat.or_comm, nat_join k _ _ (Nat.mul_mod_left _ _) hx, Nat.add_comm]
theorem word_or (b0 b1 b2 b3 b4 b5 b6 b7 : UInt8) :
    bits .or .u64 (bits .or .u64 (bits .or .u64 (bits .or .u64 (bits .or .u64 (bits .or .u64 (bits .or .u64 (bits .or .u64 0 (IntKind.u64.wrap (IntKind.u64.wrap (b0.toNat : Int)))) (IntKind.u64.wrap (IntKind.u64.wrap (b1.toNat : Int) * 256))) (IntKind.u64.wrap (IntKind.u64.wrap (b2.toNat : Int) * 65536))) (IntKind.u64.wrap (IntKind.u64.wrap (b3.toNat : Int) * 16777216))) (IntKind.u64.wrap (IntKind.u64.wrap (b4.toNat : Int) * 4294967296))) (IntKind.u64.wrap (IntKind.u64.wrap (b5.toNat : Int) * 1099511627776))) (IntKind.u64.wrap (IntKind.u64.wrap (b6.toNat : Int) * 281474976710656))) (IntKind.u64.wrap (IntKind.u64.wrap (b7.toNat : Int) * 72057594037927936))
      = ((leNum [b0, b1, b2, b3, b4, b5, b6, b7] : Nat) : Int) := by
  have h0 := b0.toNat_lt; have h1 := b1.toNat_lt; have h2 := b2.toNat_lt; have h3 := b3.toNat_lt
  have h4 := b4.toNat_lt; have h5 := b5.toNat_lt; have h6 := b6.toNat_lt
  have s0 := or_step 0 b0 0 (by omega) (by omega)
  simp only [Int.cast_ofNat_Int, Nat.pow_zero, Int.mul_one] at s0
  rw [s0]
  have s1 := or_step (0 + b0.toNat * 1) b1 8 (by omega) (by omega); rw [show ((2 ^ 8 : Nat) : Int) = 256 from rfl] at s1; rw [s1]
  have s2 := or_step (0 + b0.toNat * 1 + b1.toNat * 2 ^ 8) b2 16 (by omega) (by omega); rw [show ((2 ^ 16 : Nat) : Int) = 65536 from rfl] at s2; rw [s2]
  have s3 := or_step _ b3 24 (show 0 + b0.toNat * 1 + b1.toNat * 2 ^ 8 + b2.toNat * 2 ^ 16 < _ by omega) (by omega); rw [show ((2 ^ 24 : Nat) : Int) = 16777216 from rfl] at s3; rw [s3]
  have s4 := or_step _ b4 32 (show 0 + b0.toNat * 1 + b1.toNat * 2 ^ 8 + b2.toNat * 2 ^ 16 + b3.toNat * 2 ^ 24 < _ by omega) (by omega); rw [show ((2 ^ 32 : Nat) : Int) = 4294967296 from rfl] at s4; rw [s4]
  have s5 := or_step _ b5 40 (show 0 + b0.toNat * 1 + b1.toNat * 2 ^ 8 + b2.toNat * 2 ^ 16 + b3.toNat * 2 ^ 24 + b4.toNat * 2 ^ 32 < _ by omega) (by omega); rw [show ((2 ^ 40 : Nat) : Int) = 1099511627776 from rfl] at s5; rw [s5]
  have s6 := or_step _ b6 48 (show 0 + b0.toNat * 1 + b1.toNat * 2 ^ 8 + b2.toNat * 2 ^ 16 + b3.toNat * 2 ^ 24 + b4.toNat * 2 ^ 32 + b5.toNat * 2 ^ 40 < _ by omega) (by omega); rw [show ((2 ^ 48 : Nat) : Int) = 281474976710656 from rfl] at s6; rw [s6]
  have s7 := or_step _ b7 56 (show 0 + b0.toNat * 1 + b1.toNat * 2 ^ 8 + b2.toNat * 2 ^ 16 + b3.toNat * 2 ^ 24 + b4.toNat * 2 ^ 32 + b5.toNat * 2 ^ 40 + b6.toNat * 2 ^ 48 < _ by omega) (by omega); rw [show ((2 ^ 56 : Nat) : Int) = 72057594037927936 from rfl] at s7; rw [s7]
  congr 1
  simp only [leNum]
  omega
set_option maxHeartbeats 1000000 in
set_option maxRecDepth 10000 in
theorem word_few (bs : Bs) (w : World) (h : bs.length < 8) : Calls Tryz.prog 168 #[.agg #[str bs]] w fun e w' => e = .returned (.tuple #[.int .u64 0, .int .i64 0, .int .i64 2]) ∧ Below w.heap.size w w' := by
  unfold str
  go_enter Tryz.func168, Tryz.ntmps168
  go_wp2
  go_ret3
  exact ⟨rfl, (Below.refl _ _).alloc (Nat.le_refl _) _⟩
set_option maxHeartbeats 1000000 in
set_option maxRecDepth 10000 in
theorem word_ok (b0 b1 b2 b3 b4 b5 b6 b7 : UInt8) (rest : Bs) (w : World) : Calls Tryz.prog 168 #[.agg #[str (b0 :: b1 :: b2 :: b3 :: b4 :: b5 :: b6 :: b7 :: rest)]] w fun e w' => e = .returned (.tuple #[.int .u64 ((leNum [b0, b1, b2, b3, b4, b5, b6, b7] : Nat) : Int), .int .i64 8, .int .i64 0]) ∧ Below w.heap.size w w' := by
  rw [← word_or]
  unfold str
  generalize hbs : (b0 :: b1 :: b2 :: b3 :: b4 :: b5 :: b6 :: b7 :: rest) = bs
  have h8 : 8 ≤ bs.length := by rw [← hbs]; simp
  have Hb := Lib.hid hbs; clear hbs
  go_enter Tryz.func168, Tryz.ntmps168
  go_wp2
  go_rounds 9
  go_ret3
  have := Hb.out; subst this
  exact ⟨rfl, (Below.refl _ _).alloc (Nat.le_refl _) _⟩

set_option maxHeartbeats 1000000 in
set_option maxRecDepth 10000 in
theorem GetWord_bad (bs : Bs) (a : Int) (w : World) (h : a < 0 ∨ (bs.length : Int) < a) : Calls Tryz.prog 121 #[str bs, .int .i64 a] w fun e w' => e = .returned (.tuple #[.int .u64 0, .int .i64 0, .int .i64 1]) ∧ Below w.heap.size w w' := by
  unfold str
  rcases h with h | h
  all_goals
    go_enter Tryz.func121, Tryz.ntmps121
    go_wp2
    go_ret3
    exact ⟨rfl, Below.refl _ _⟩
set_option maxHeartbeats 1000000 in
set_option maxRecDepth 10000 in
theorem GetWord_few (bs : Bs) (a : Nat) (w : World) (h : a ≤ bs.length) (h8 : bs.length < a + 8) (_hl : bs.length ≤ 140737488355328) : Calls Tryz.prog 121 #[str bs, .int .i64 a] w fun e w' => e = .returned (.tuple #[.int .u64 0, .int .i64 0, .int .i64 2]) ∧ Below w.heap.size w w' := by
  unfold str
  go_enter Tryz.func121, Tryz.ntmps121
  go_wp2_with (first | (go_at_call 168; rw [ext_drop]; refine (word_few _ _ (by simp; omega)).mono ?_; rintro e w1 ⟨rfl, hB⟩) | (go_at_call 167; go_in))
  go_ret3
  exact ⟨rfl, hB⟩
set_option maxHeartbeats 1000000 in
set_option maxRecDepth 10000 in
theorem GetWord_ok (bs : Bs) (a : Nat) (w : World) (h8 : a + 8 ≤ bs.length) (hl : bs.length ≤ 140737488355328) : Calls Tryz.prog 121 #[str bs, .int .i64 a] w fun e w' => e = .returned (.tuple #[.int .u64 ((leNum ((bs.drop a).take 8) : Nat) : Int), .int .i64 ((a + 8 : Nat) : Int), .int .i64 0]) ∧ Below w.heap.size w w' := by
  obtain ⟨b0, b1, b2, b3, b4, b5, b6, b7, rest, hd⟩ : ∃ b0 b1 b2 b3 b4 b5 b6 b7 rest, bs.drop a = b0 :: b1 :: b2 :: b3 :: b4 :: b5 :: b6 :: b7 :: rest := by
    have : 8 ≤ (bs.drop a).length := by simp; omega
    match bs.drop a, this with
    | b0 :: b1 :: b2 :: b3 :: b4 :: b5 :: b6 :: b7 :: rest, _ => exact ⟨b0, b1, b2, b3, b4, b5, b6, b7, rest, rfl⟩
  have Hd := Lib.hid hd
  have hn : leNum ((bs.drop a).take 8) = leNum [b0, b1, b2, b3, b4, b5, b6, b7] := by rw [hd]; rfl
  rw [hn]
  clear hn hd
  unfold str
  go_enter Tryz.func121, Tryz.ntmps121
  go_wp2_with (first | (go_at_call 168; rw [ext_drop, Hd.out]; refine (word_ok _ _ _ _ _ _ _ _ _ _).mono ?_; rintro e w1 ⟨rfl, hB⟩) | (go_at_call 167; go_in))
  go_ret3
  exact ⟨rfl, hB⟩
end Go.Proofs.YtaaanoklhiomlaaGreat
