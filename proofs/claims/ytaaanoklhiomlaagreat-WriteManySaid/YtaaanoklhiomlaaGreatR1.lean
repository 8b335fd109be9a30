import Derived.Test.YtaaanoklhiomlaaGreatA20
set_option linter.unusedVariables false
set_option linter.unusedSimpArgs false
namespace Go.Proofs.YtaaanoklhiomlaaGreat
open Go.RowKit
open Wr
set_option maxHeartbeats 400000 in
set_option maxRecDepth 10000 in
theorem ref_PutVint (n : Nat) (hn : n < 2 ^ 64) (w : World) : Calls Tryz.prog 73 #[.int .u64 n] w fun e w' => e = .returned (str (vput n)) ∧ Below w.heap.size w w' := by
  have Hn := Lib.hid hn; clear hn
  go_enter Tryz.func73, Tryz.ntmps73
  go_wp2
  go_loopw [3, 0] (fun b x wr => ∃ (m : Nat) (bs : Bs), x = .int .u64 m ∧ m ≤ n ∧ bs.length + (vput m).length ≤ 10 ∧ bs ++ vput m = vput n ∧ wr.ownsRow w.heap.size 5 1 b (u8s bs).length (u8s bs) ∧ Below w.heap.size w wr) (fun _ x _ => (intOf x).toNat)
  case atStart => exact ⟨n, [], rfl, Nat.le_refl _, by have := vput_len 9 n (by have := Hn.out; omega); simpa using this, rfl, World.ownsRow_nil _ _ _ _, Below.refl _ _⟩
  case round =>
    obtain ⟨m, bs, rfl, hm, hl, hv, hown, hB⟩ := hrel
    have Hv := Lib.hid hv; clear hv
    have hbl : ((u8s bs).length + 1) * 1 ≤ 140737488355328 := by have := u8s_length bs; omega
    by_cases hlt : m < 128
    · go_wp2_with (first | (at_builtin; refine app1 w.heap.size rfl (.tmp 14) (.tmp 17) 69 5 (.int .u8 0) 1 rfl Tryz.underlying69 i_u8 rfl (by omega) _ (u8s bs) hown _ rfl rfl rfl hB.size hbl ?_; intro v1 w1 hown1 hg1 hat1; rw [u8s_snoc bs m (by omega)] at hown1; have hs1 := own_str hown1))
      go_ret
      exact ⟨congrArg (fun l => Ending.returned (str l)) (by rw [← Hv.out, vput_small hlt]), hB.grown hg1 hB.size (own_base hown)⟩
    · go_wp2_with (first | (at_builtin; refine app1 w.heap.size rfl (.tmp 6) (.tmp 10) 69 5 (.int .u8 0) 1 rfl Tryz.underlying69 i_u8 rfl (by omega) _ (u8s bs) hown _ rfl rfl rfl hB.size hbl ?_; intro v1 w1 hown1 hg1 hat1))
      go_roundw
      case rel =>
        have e1 : (bits BinOp.or IntKind.u8 (↑m % 256) 128) = ((m % 128 + 128 : Nat) : Int) := or128 m
        rw [e1, u8s_snoc bs (m % 128 + 128) (by omega)] at hown1
        have e2 := vput_more (show 128 ≤ m by omega)
        refine ⟨m / 128, bs ++ [b8 (m % 128 + 128)], by go_num, by omega, ?_, ?_, hown1, hB.grown hg1 hB.size (own_base hown)⟩
        · rw [e2] at hl; simp at hl ⊢; omega
        · rw [← Hv.out, e2]; simp
      case measure => simp [intOf]; omega
set_option maxHeartbeats 1000000 in
set_option maxRecDepth 10000 in
theorem ref_Word (n : Nat) (hn : n < 2 ^ 64) (w : World) : Calls Tryz.prog 74 #[.int .u64 n] w fun e w' => e = .returned (str (word8 n)) ∧ Below w.heap.size w w' := by
  have Hn := Lib.hid hn; clear hn
  have hs := conv_alloc w (word8 n) 5
  simp only [word8, u8s, List.map_cons, List.map_nil, List.length_cons, List.length_nil, Nat.zero_add, Nat.reduceAdd, b8_toNat', Int.natCast_emod, Int.natCast_ediv, Int.cast_ofNat_Int] at hs
  have Hs := Lib.hid hs; clear hs
  have hmk : ∀ W : World, (Instr.makeSlice 69 (.int .i64 8) (.int .i64 8)).run Tryz.prog W = .ok (.slice (some ⟨W.heap.size, 0, none⟩) 8 8) (W.alloc (.cells #[.int .u8 0, .int .u8 0, .int .u8 0, .int .u8 0, .int .u8 0, .int .u8 0, .int .u8 0, .int .u8 0] 5)) := fun _ => by kernel_rfl
  go_enter Tryz.func74, Tryz.ntmps74
  go_wp2
  go_rounds 9
  rw [Hs.out]
  go_wp2
  go_ret
  exact ⟨rfl, (Below.refl _ _).alloc (Nat.le_refl _) _⟩
set_option maxHeartbeats 1000000 in
set_option maxRecDepth 10000 in
theorem ref_Plain (A : Option Addr) (c : Nat) (xs : List Int) (w : World) (hr : Rd w A (i64s xs)) (hl : xs.length ≤ 1000000) : Calls Tryz.prog 72 #[.slice A xs.length c] w fun e w' => e = .returned (str (plainB xs)) ∧ Below w.heap.size w w' := by
  go_enter Tryz.func72, Tryz.ntmps72
  go_wp2
  go_loopw [3, 4] (fun sv i wr => ∃ (k : Nat), k ≤ xs.length ∧ i = .int .i64 k ∧ sv = str (plainB (xs.take k)) ∧ Below w.heap.size w wr) (fun _ i _ => xs.length - (intOf i).toNat)
  case atStart => exact ⟨0, Nat.zero_le _, rfl, rfl, Below.refl _ _⟩
  case round =>
    obtain ⟨k, hk, rfl, rfl, hB⟩ := hrel
    by_cases hlt : k < xs.length
    · obtain ⟨ad, rfl, hck⟩ := (hr.below hB).at_ (k := k) (by simpa [i64s] using hlt)
      rw [i64s_get] at hck
      have hsn : plainB (xs.take (k + 1)) = plainB (xs.take k) ++ word8 (u64 xs[k]) := by rw [List.take_succ_eq_append_getElem hlt, plainB_snoc]
      have hpl : (plainB (xs.take k)).length ≤ 8000000 := by rw [plainB_length]; simp; omega
      generalize plainB (xs.take k) = done at *
      generalize xs[k] = x at hck hsn
      have Hs := Lib.hid hsn; clear hsn
      have a1 : ∀ W, (binOp .add 9 (str done) (str (word8 (u64 x)))).run Tryz.prog W = .ok (str (done ++ word8 (u64 x))) W := fun W => str_add _ _ (by rw [word8_length]; omega) W
      go_wp2_with (first | (go_at_call 74; rw [wrap_u64]; refine (ref_Word _ (u64_lt _) _).mono ?_; rintro e w1 ⟨rfl, hB1⟩))
      go_roundw
      case rel => exact ⟨k + 1, by omega, by go_num, by rw [Hs.out], bthen hB hB1⟩
      case measure => simp [intOf]; omega
    · obtain rfl : k = xs.length := by omega
      go_wp2
      go_ret
      exact ⟨by rw [List.take_length]; rfl, hB⟩
set_option maxHeartbeats 1000000 in
set_option maxRecDepth 10000 in
theorem ref_May_yes (o : Opt) (h : o.Ok) (w : World) : Calls Tryz.prog 28 #[o.val] w fun e w' => e = .returned (.bool true) ∧ Below w.heap.size w w' := by
  obtain ⟨h1, h2, h3, h4, h5, h6, h7, h8⟩ := h
  have d1 : decide ((1 : Int) ≤ o.block) = true := by simpa using h1
  have d2 : decide (o.block ≤ (4096 : Int)) = true := by simpa using h2
  have d3 : decide ((7 : Int) ≤ o.limit) = true := by simpa using h3
  have d4 : decide (o.limit ≤ (15 : Int)) = true := by simpa using h4
  have d5 : decide ((7 : Int) ≤ o.log) = true := by simpa using h5
  have d6 : decide (o.log ≤ (12 : Int)) = true := by simpa using h6
  have d7 : decide ((0 : Int) ≤ o.way) = true := by simpa using h7
  have d8 : decide (o.way ≤ (4 : Int)) = true := by simpa using h8
  unfold Opt.val
  go_enter Tryz.func28, Tryz.ntmps28
  go_wp2
  go_ret
  exact ⟨rfl, (Below.refl _ _).alloc (Nat.le_refl _) _⟩
set_option maxHeartbeats 1000000 in
set_option maxRecDepth 10000 in
theorem ref_Mix (a : Int) (h0 : 0 ≤ a) (w : World) : Calls Tryz.prog 102 #[.int .u64 a] w fun e w' => e = .returned (.int .u64 (xmix a)) ∧ w = w' := by
  go_enter Tryz.func102, Tryz.ntmps102
  go_wp2
  go_ret
  exact ⟨rfl, rfl⟩
set_option maxHeartbeats 1000000 in
set_option maxRecDepth 10000 in
theorem ref_Sum_nil (s : Nat) (w : World) : Calls Tryz.prog 71 #[.int .u64 (s : Int), str []] w fun e w' => e = .returned (.int .u64 (xsumN s [])) ∧ Below w.heap.size w w' := by
  have he : xsum (s : Int) [] = xmix (IntKind.u64.wrap (IntKind.u64.wrap ((s : Int) + 2870177450012600261))) := by
    unfold xsum xhead
    rw [if_pos (by simp), xrun_few _ _ (by simp), xtail_few _ _ (by simp), xtail4_few _ _ (by simp)]
    simp [XP5]
  rw [← xsumN_eq, he]
  have hm := fun W => ref_Mix (IntKind.u64.wrap (IntKind.u64.wrap ((s : Int) + 2870177450012600261))) (wrap_nonneg _) W
  have Hm := Lib.hid hm; clear hm
  clear he
  unfold str
  go_enter Tryz.func71, Tryz.ntmps71
  go_wp2_with fail
  go_rounds 1
  go_wp2_with fail
  go_rounds 1
  go_wp2_with (go_at_call 102; refine (Hm.out _).mono ?_; rintro e w1 ⟨rfl, rfl⟩)
  go_ret
  exact ⟨rfl, Below.refl _ _⟩
end Go.Proofs.YtaaanoklhiomlaaGreat
