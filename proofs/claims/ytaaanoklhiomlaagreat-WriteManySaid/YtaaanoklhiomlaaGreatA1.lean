import Derived.Test.YtaaanoklhiomlaaGreatL1
import Derived.Outline
set_option linter.unusedVariables false
set_option linter.unusedSimpArgs false
namespace Go.Proofs.YtaaanoklhiomlaaGreat
open Go.RowKit
open Wr
theorem or128 (m : Nat) : bits .or .u8 (((m % 256 : Nat) : Int)) 128 = ((m % 128 + 128 : Nat) : Int) := by
  have : ((128 : Nat) : Int) = 128 := rfl
  rw [← this, u8_or_nat _ _ (by omega) (by omega)]
  have e : m % 256 ||| 128 = m % 128 + 128 := by
    have h1 : m % 256 = m % 256 / 128 * 128 + m % 128 := by omega
    rcases (show m % 256 / 128 = 0 ∨ m % 256 / 128 = 1 by omega) with h | h
    · rw [h] at h1
      have h2 : m % 256 = m % 128 := by omega
      rw [h2, Nat.or_comm, nat_join 7 128 (m % 128) (by decide) (by omega)]; omega
    · rw [h] at h1
      have h2 : m % 256 = 128 ||| (m % 128) := by rw [nat_join 7 128 (m % 128) (by decide) (by omega)]; omega
      rw [h2, Nat.or_assoc, Nat.or_comm (m % 128) 128, ← Nat.or_assoc, Nat.or_self, nat_join 7 128 (m % 128) (by decide) (by omega)]; omega
  rw [e]
set_option maxHeartbeats 400000 in
set_option maxRecDepth 10000 in
theorem vint_Put (n : Nat) (hn : n < 2 ^ 64) (w : World) : Calls Tryz.prog 61 #[.int .u64 n] w fun e w' => e = .returned (str (vput n)) ∧ Below w.heap.size w w' := by
  have Hn := Lib.hid hn; clear hn
  go_enter Tryz.func61, Tryz.ntmps61
  go_wp2
  go_loopw [3, 0] (fun b x wr => ∃ (m : Nat) (bs : Bs), x = .int .u64 m ∧ m ≤ n ∧ bs.length + (vput m).length ≤ 10 ∧ bs ++ vput m = vput n ∧ wr.ownsRow w.heap.size 5 1 b (u8s bs).length (u8s bs) ∧ Below w.heap.size w wr) (fun _ x _ => (intOf x).toNat)
  case atStart => exact ⟨n, [], rfl, Nat.le_refl _, by have := vput_len 9 n (by have := Hn.out; omega); simpa using this, rfl, World.ownsRow_nil _ _ _ _, Below.refl _ _⟩
  case round =>
    obtain ⟨m, bs, rfl, hm, hl, hv, hown, hB⟩ := hrel
    have Hv := Lib.hid hv; clear hv
    have hbl : ((u8s bs).length + 1) * 1 ≤ 140737488355328 := by have := u8s_length bs; omega
    by_cases hlt : m < 128
    · go_wp2_with (first | (at_builtin; refine app1 w.heap.size rfl (.tmp 14) (.tmp 17) 69 5 (.int .u8 0) 1 rfl Tryz.underlying69 i_u8 rfl (by omega) _ (u8s bs) hown _ rfl rfl rfl hB.size hbl ?_; intro v1 w1 hown1 hg1 hat1; rw [u8s_snoc bs m (by omega)] at hown1; have hs1 := own_str hown1))
      go_ret
      exact ⟨congrArg (fun l => Ending.returned (str l)) (by rw [← Hv.out, vput_small hlt]), hB.grown hg1 hB.size (own_base hown)⟩
    · go_wp2_with (first | (at_builtin; refine app1 w.heap.size rfl (.tmp 8) (.tmp 12) 69 5 (.int .u8 0) 1 rfl Tryz.underlying69 i_u8 rfl (by omega) _ (u8s bs) hown _ rfl rfl rfl hB.size hbl ?_; intro v1 w1 hown1 hg1 hat1))
      go_roundw
      case rel =>
        have e1 : (bits BinOp.or IntKind.u8 (↑m % 256) 128) = ((m % 128 + 128 : Nat) : Int) := or128 m
        rw [e1, u8s_snoc bs (m % 128 + 128) (by omega)] at hown1
        have e2 := vput_more (show 128 ≤ m by omega)
        refine ⟨m / 128, bs ++ [b8 (m % 128 + 128)], by go_num, by omega, ?_, ?_, hown1, hB.grown hg1 hB.size (own_base hown)⟩
        · rw [e2] at hl; simp at hl ⊢; omega
        · rw [← Hv.out, e2]; simp
      case measure => simp [intOf]; omega
set_option maxHeartbeats 1000000 in
set_option maxRecDepth 10000 in
theorem vint_Word (n : Nat) (hn : n < 2 ^ 64) (w : World) : Calls Tryz.prog 62 #[.int .u64 n] w fun e w' => e = .returned (str (word8 n)) ∧ Below w.heap.size w w' := by
  have Hn := Lib.hid hn; clear hn
  go_enter Tryz.func62, Tryz.ntmps62
  go_wp2
  have hs := conv_alloc w (word8 n) 156
  simp only [word8, u8s, List.map_cons, List.map_nil, List.length_cons, List.length_nil, Nat.zero_add, Nat.reduceAdd, b8_toNat', Int.natCast_emod, Int.natCast_ediv, Int.cast_ofNat_Int] at hs
  have Hs := Lib.hid hs; clear hs
  go_rounds 9
  rw [Hs.out]
  go_wp2
  go_ret
  exact ⟨rfl, (Below.refl _ _).alloc (Nat.le_refl _) _⟩
end Go.Proofs.YtaaanoklhiomlaaGreat
