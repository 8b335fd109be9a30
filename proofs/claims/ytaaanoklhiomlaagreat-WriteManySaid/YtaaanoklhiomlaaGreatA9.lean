import Derived.Test.YtaaanoklhiomlaaGreatA5
import Derived.Test.YtaaanoklhiomlaaGreatPure5
set_option linter.unusedVariables false
set_option linter.unusedSimpArgs false

namespace Go.Proofs.YtaaanoklhiomlaaGreat
open Go.RowKit
open Wr
theorem wrap_u64 (v : Int) : IntKind.u64.wrap v = ((u64 v : Nat) : Int) := by unfold u64; rw [IntKind.wrap_u64]; omega
theorem i64s_get {xs : List Int} {k : Nat} (h : k < (i64s xs).length) : (i64s xs)[k] = .int .i64 (xs[k]'(by simpa [i64s] using h)) := by simp [i64s]
set_option maxHeartbeats 1000000 in
set_option maxRecDepth 10000 in
theorem plain_Put (A : Option Addr) (c : Nat) (xs : List Int) (w : World) (hr : Rd w A (i64s xs)) (hl : xs.length ≤ 1000000) : Calls Tryz.prog 77 #[.slice A xs.length c] w fun e w' => e = .returned (str (plainB xs)) ∧ Below w.heap.size w w' := by
  go_enter Tryz.func77, Tryz.ntmps77
  go_wp2
  go_loopw [10] (fun i wr => ∃ (k : Nat) (p : Option Addr) (v : Value), k ≤ xs.length ∧ i = .int .i64 k ∧ Blk wr w.heap.size 104 #[.pointer p, v] ∧ (p = none ∨ p = some ⟨w.heap.size, 0, none⟩) ∧ (k = 0 → v = .slice none 0 0) ∧ wr.ownsRowF 0 5 1 v (plainB (xs.take k)).length (u8s (plainB (xs.take k))) ∧ (∀ b, v.ownBlock = some b → w.heap.size ≤ b) ∧ Below w.heap.size w wr) (fun i _ => xs.length - (intOf i).toNat)
  case atStart => exact ⟨0, none, _, Nat.zero_le _, rfl, Blk.new _ _ _, .inl rfl, fun _ => rfl, World.ownsRowF_nil _ _ _ _, fun b h => by simp [Value.ownBlock] at h, (Below.refl _ _).alloc (Nat.le_refl _) _⟩
  case round =>
    obtain ⟨k, p, v, hk, rfl, hb, hp, hv0, hown, hnew, hB⟩ := hrel
    by_cases hlt : k < xs.length
    · obtain ⟨ad, rfl, hck⟩ := (hr.below hB).at_ (k := k) (by simpa [i64s] using hlt)
      rw [i64s_get] at hck
      have hsn : plainB (xs.take (k + 1)) = plainB (xs.take k) ++ word8 (u64 xs[k]) := by rw [List.take_succ_eq_append_getElem hlt, plainB_snoc]
      have hpl : (plainB (xs.take k)).length ≤ 8000000 := by rw [plainB_length]; simp; omega
      generalize plainB (xs.take k) = done at *
      generalize xs[k] = x at hck hsn
      have Hs := Lib.hid hsn; clear hsn
      have Hv0 := Lib.hid hv0; clear hv0
      go_wp2_with (first | (go_at_call 62; rw [wrap_u64]; refine (vint_Word _ (u64_lt _) _).mono ?_; rintro e w1 ⟨rfl, hB1⟩) | (go_at_call 58; refine (bld0_WriteString (word8 (u64 x)) w.heap.size _ v p done _ (hb.keep hB1) (by kernel_rfl) rfl hp rfl ((Keep.of_below (S := fun _ => False) hB1).rowF hown (fun _ _ e => e)) (by rw [word8_length]; omega)).mono ?_; rintro e w2 ⟨rfl, v2, hb2, hown2, hat2, hK2⟩))
      go_roundw
      case rel =>
        have hw := hB1.size
        refine ⟨k + 1, some ⟨w.heap.size, 0, none⟩, v2, by omega, by go_num, hb2, .inr rfl, fun h => by omega, by rw [Hs.out]; exact hown2, ?_, ?_⟩
        · rcases hat2 with h | h
          · intro b hbb; exact hnew b (h.symm.trans hbb)
          · intro b hbb; have := h b hbb; have := hB.size; omega
        · refine (bthen hB hB1).trans (hK2.below ?_ (Nat.le_trans hB.size hw))
          rintro i (h | h)
          · omega
          · exact hnew i h.symm
      case measure => simp [intOf]; omega
    · obtain rfl : k = xs.length := by omega
      rw [List.take_length] at hown
      by_cases h0 : xs = []
      · subst h0
        obtain rfl := hv0 rfl
        go_wp2_with (first | (go_at_call 64; refine (bld0_String_nil w.heap.size _ _ hb rfl).mono ?_; rintro e w1 ⟨rfl, hB1⟩))
        go_ret
        exact ⟨rfl, bthen hB hB1⟩
      · have hne : plainB xs ≠ [] := by
          intro e
          have := congrArg List.length e
          rw [plainB_length] at this
          have : 0 < xs.length := List.length_pos_iff.2 h0
          simp at *
          omega
        clear hv0
        go_wp2_with (first | (go_at_call 64; refine (bld0_String w.heap.size _ v (plainB xs) _ hb rfl hown hne).mono ?_; rintro e w1 ⟨rfl, hb1, hown1, hK1⟩))
        go_ret
        exact ⟨rfl, hB.trans (hK1.below (fun i h => hnew i h.symm) hB.size)⟩
end Go.Proofs.YtaaanoklhiomlaaGreat
