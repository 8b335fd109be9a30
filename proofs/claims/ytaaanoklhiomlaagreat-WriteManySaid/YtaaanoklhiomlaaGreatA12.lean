import Derived.Test.YtaaanoklhiomlaaGreatA11
import Derived.Test.YtaaanoklhiomlaaGreatA6
set_option linter.unusedVariables false
set_option linter.unusedSimpArgs false
namespace Go.Proofs.YtaaanoklhiomlaaGreat
open Go.RowKit
open Wr
theorem no_own {i : Nat} (h : some i = (Value.slice none 0 0).ownBlock) : False := by cases h
/-- what a writer's block holds. -/
def wrc (o : Opt) (p : Option Addr) (out : Value) (l : Value) (n : Int) (s : Nat) (done : Bool) : Array Value :=
  #[.int .i64 o.block, .int .i64 o.limit, .int .i64 o.log, .int .i64 o.way, .int .u64 (o.seed : Int), .pointer p, out, l, .int .i64 n, .pointer (some ⟨s, 0, none⟩), .bool done]
set_option maxHeartbeats 1000000 in
set_option maxRecDepth 10000 in
theorem New_yes (o : Opt) (h : o.Ok) (hs : o.seed < 2 ^ 64) (w : World) : Calls Tryz.prog 27 #[o.val] w fun e w' => ∃ g s v, e = .returned (.tuple #[.pointer (some ⟨g, 0, none⟩), .int .i64 0]) ∧ w.heap.size ≤ g ∧ Blk w' g 106 (wrc o (some ⟨g, 5, none⟩) v (.slice none 0 0) 0 s false) ∧ w'.ownsRowF 0 5 1 v (headB o).length (u8s (headB o)) ∧ (∀ b, v.ownBlock = some b → w.heap.size ≤ b) ∧ w.heap.size ≤ s ∧ Blk w' s 153 (stc o.seed (lanes0 o.seed) (.slice none 0 0) 0) ∧ Below w.heap.size w w' := by
  have hm := fun w => May_yes o h w
  have hh := fun w => Head_yes o h hs w
  unfold Opt.val at hm hh ⊢
  have Hm := Lib.hid hm; clear hm
  have Hh := Lib.hid hh; clear hh
  clear hs
  have hlh : (headB o).length ≤ 26 := by
    have := vput_len 9 o.block.toNat (by have := h.b2; omega)
    simp [headB, word8_length]; omega
  go_enter Tryz.func27, Tryz.ntmps27
  go_wp2_with (first | (go_at_call 56; refine (Hm.out _).mono ?_; rintro e w1 ⟨rfl, hB1⟩; have hb1 := (Blk.new w 27 #[.int .i64 o.block, .int .i64 o.limit, .int .i64 o.log, .int .i64 o.way, .int .u64 (o.seed : Int)]).keep hB1) | (go_at_call 57; refine (st_New _ _).mono ?_; rintro e w2 ⟨rfl, hst, hB2⟩) | (go_at_call 59; refine (Hh.out _).mono ?_; rintro e w3 ⟨rfl, hB3⟩))
  have c0 := hb1.cell 0 (.int .i64 o.block) rfl; have c1 := hb1.cell 1 (.int .i64 o.limit) rfl; have c2 := hb1.cell 2 (.int .i64 o.log) rfl; have c3 := hb1.cell 3 (.int .i64 o.way) rfl; have c4 := hb1.cell 4 (.int .u64 (o.seed : Int)) rfl
  have hw1 := hb1.lt
  go_region_with (go_at_call 57; refine (st_New _ _).mono ?_; rintro e w2 ⟨rfl, hst, hB2⟩; have hb2 := hb1.drew.keep hB2; have d0 := hb2.cell 0 (.int .i64 o.block) rfl; have d1 := hb2.cell 1 (.int .i64 o.limit) rfl; have d2 := hb2.cell 2 (.int .i64 o.log) rfl; have d3 := hb2.cell 3 (.int .i64 o.way) rfl; have d4 := hb2.cell 4 (.int .u64 (o.seed : Int)) rfl; have hw2 := hb2.lt)
  all_goals
    have hbw := Blk.new w2 106 (wrc o none (.slice none 0 0) (.slice none 0 0) 0 w1.heap.size false)
    have hst2 := hst.alloc (.cells (wrc o none (.slice none 0 0) (.slice none 0 0) 0 w1.heap.size false) 106)
    have hst3 := hst2
    go_wp2
    go_region_with (first | (go_at_call 59; refine (Hh.out _).mono ?_; rintro e w3 ⟨rfl, hB3⟩) | (go_at_call 58; refine (bld5_WriteString (headB o) w2.heap.size _ _ none [] _ (hbw.drew.keep hB3) (by kernel_rfl) rfl (.inl rfl) rfl (World.ownsRowF_nil _ _ _ _) (by simp; omega)).mono ?_; rintro e w4 ⟨rfl, v4, hb4, hown4, hat4, hK4⟩))
    all_goals
      go_wp2
      go_ret2
      have z2 : w1.heap.size ≤ w2.heap.size := hB2.size
      have z3 : w2.heap.size + 1 ≤ w3.heap.size := by have := hB3.size; simpa using this
      have z1 := hb1.lt
      have hst4 := hst2.drew.keep hB3
      have hs2 : w1.heap.size < w2.heap.size := hst.lt
      refine ⟨w2.heap.size, w1.heap.size, v4, rfl, by omega, hb4, hown4, ?_, by omega, hK4.blk hst4 ?_, ?_⟩
      · intro b hb
        rcases hat4 with h | h
        · rw [h] at hb; cases hb
        · have := h b hb; omega
      · rintro (h | h)
        · have h' : w1.heap.size = w2.heap.size := h
          omega
        · exact (no_own h).elim
      · have b1 : Below w.heap.size w w1 := ((Below.refl _ _).alloc (Nat.le_refl _) _).trans (hB1.mono (by simp))
        have b2 : Below w.heap.size w w2 := b1.drew.trans (hB2.mono (by show _ ≤ w1.heap.size; omega))
        have b3 : Below w.heap.size w w3 := (b2.alloc (by omega) _).drew.trans (hB3.mono (by simp; omega))
        refine b3.trans (hK4.below ?_ (by omega))
        rintro i (h | h)
        · omega
        · exact (no_own h).elim
end Go.Proofs.YtaaanoklhiomlaaGreat
