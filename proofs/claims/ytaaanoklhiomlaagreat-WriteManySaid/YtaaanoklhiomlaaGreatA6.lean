import Derived.Test.YtaaanoklhiomlaaGreatA5
set_option linter.unusedVariables false
set_option linter.unusedSimpArgs false
namespace Go.Proofs.YtaaanoklhiomlaaGreat
open Go.RowKit
open Wr
set_option maxHeartbeats 1000000 in
set_option maxRecDepth 10000 in
theorem st_New (s : Int) (w : World) : Calls Tryz.prog 57 #[.int .u64 s] w fun e w' => e = .returned (.pointer (some ⟨w.heap.size, 0, none⟩)) ∧ Blk w' w.heap.size 153 #[.int .u64 s, .int .u64 (lanes0 s).a, .int .u64 (lanes0 s).b, .int .u64 (lanes0 s).c, .int .u64 (lanes0 s).d, .slice none 0 0, .int .i64 0] ∧ Below w.heap.size w w' := by
  go_enter Tryz.func57, Tryz.ntmps57
  go_wp2
  go_region
  go_wp2
  go_region
  go_wp2
  go_region
  go_wp2
  go_region
  go_wp2
  go_ret
  exact ⟨rfl, Blk.new _ _ _, ((((Below.refl _ _).alloc (Nat.le_refl _) _).drew.drew.drew.drew))⟩
def stc (seed : Int) (x : Lanes) (r : Value) (n : Int) : Array Value := #[.int .u64 seed, .int .u64 x.a, .int .u64 x.b, .int .u64 x.c, .int .u64 x.d, r, .int .i64 n]
set_option maxHeartbeats 1000000 in
set_option maxRecDepth 10000 in
theorem st_step (g : Nat) (seed : Int) (x : Lanes) (r : Value) (n : Int) (l : Bs) (hl : 32 ≤ l.length) (hm : l.length ≤ 140737488355328) (w : World) (hb : Blk w g 153 (stc seed x r n)) : Calls Tryz.prog 120 #[.pointer (some ⟨g, 0, none⟩), str l] w fun e w' => e = .returned (.tuple #[]) ∧ Blk w' g 153 (stc seed (x.step l) r n) ∧ Keep (fun i => i = g) w w' := by
  unfold str
  have hb0 := hb; clear hb
  go_enter Tryz.func120, Tryz.ntmps120
  go_wp2
  go_loopw [8] (fun i wr => ∃ k : Nat, k ≤ 4 ∧ i = .int .i64 k ∧ Blk wr g 153 (stc seed (x.upto l k) r n) ∧ Keep (fun i => i = g) w wr) (fun i _ => 4 - (intOf i).toNat)
  case atStart => exact ⟨0, by omega, rfl, hb0, Keep.refl _ _⟩
  case round =>
    obtain ⟨k, hk, rfl, hb, hK⟩ := hrel
    rcases (show k = 0 ∨ k = 1 ∨ k = 2 ∨ k = 3 ∨ k = 4 by omega) with rfl | rfl | rfl | rfl | rfl
    · go_wp2_with (first | (go_at_call 121; refine (GetWord_ok l 0 _ (by omega) (by omega)).mono ?_; rintro e w1 ⟨rfl, hB1⟩; have hb1 := hb.keep hB1; have c0 := hb1.cell 1 (.int .u64 x.a) rfl; have z0 := hb1.frozen 1))
      go_region_with (go_at_call 92; refine (xround_any _ _ _).mono ?_; rintro e w2 ⟨rfl, rfl⟩)
      go_wp2
      go_roundw
      case rel => exact ⟨1, by omega, by go_num, hb1.set_ 1 _, ((hK.trans (Keep.of_below hB1) (fun _ _ h => h)).setCell ⟨g, 1, none⟩ (fun _ => rfl) _).drew⟩
      case measure => simp [intOf]
    · go_wp2_with (first | (go_at_call 121; refine (GetWord_ok l 8 _ (by omega) (by omega)).mono ?_; rintro e w1 ⟨rfl, hB1⟩; have hb1 := hb.keep hB1; have c1 := hb1.cell 2 (.int .u64 x.b) rfl; have z1 := hb1.frozen 2))
      go_region_with (go_at_call 92; refine (xround_any _ _ _).mono ?_; rintro e w2 ⟨rfl, rfl⟩)
      go_wp2
      go_roundw
      case rel => exact ⟨2, by omega, by go_num, hb1.set_ 2 _, ((hK.trans (Keep.of_below hB1) (fun _ _ h => h)).setCell ⟨g, 2, none⟩ (fun _ => rfl) _).drew⟩
      case measure => simp [intOf]
    · go_wp2_with (first | (go_at_call 121; refine (GetWord_ok l 16 _ (by omega) (by omega)).mono ?_; rintro e w1 ⟨rfl, hB1⟩; have hb1 := hb.keep hB1; have c2 := hb1.cell 3 (.int .u64 x.c) rfl; have z2 := hb1.frozen 3))
      go_region_with (go_at_call 92; refine (xround_any _ _ _).mono ?_; rintro e w2 ⟨rfl, rfl⟩)
      go_wp2
      go_roundw
      case rel => exact ⟨3, by omega, by go_num, hb1.set_ 3 _, ((hK.trans (Keep.of_below hB1) (fun _ _ h => h)).setCell ⟨g, 3, none⟩ (fun _ => rfl) _).drew⟩
      case measure => simp [intOf]
    · go_wp2_with (first | (go_at_call 121; refine (GetWord_ok l 24 _ (by omega) (by omega)).mono ?_; rintro e w1 ⟨rfl, hB1⟩; have hb1 := hb.keep hB1; have c3 := hb1.cell 4 (.int .u64 x.d) rfl; have z3 := hb1.frozen 4))
      go_region_with (go_at_call 92; refine (xround_any _ _ _).mono ?_; rintro e w2 ⟨rfl, rfl⟩)
      go_wp2
      go_roundw
      case rel => exact ⟨4, by omega, by go_num, hb1.set_ 4 _, ((hK.trans (Keep.of_below hB1) (fun _ _ h => h)).setCell ⟨g, 4, none⟩ (fun _ => rfl) _).drew⟩
      case measure => simp [intOf]
    · go_wp2
      go_end0
      exact ⟨rfl, hb, hK⟩

theorem xrun_app (x : Lanes) (a s : Bs) : xrun x (a ++ s) = xrun (xrun x a).1 ((xrun x a).2 ++ s) := by
  by_cases h : 32 ≤ a.length
  · rw [xrun_more x (a ++ s) (by simp; omega), xrun_more x a h]
    have e1 : x.step (a ++ s) = x.step a := by
      have key : ∀ i, i < 4 → wordAt (a ++ s) i = wordAt a i := by
        intro i hi
        unfold wordAt
        rw [List.drop_append_of_le_length (by omega), List.take_append_of_le_length (by simp; omega)]
      unfold Lanes.step
      rw [key 0 (by omega), key 1 (by omega), key 2 (by omega), key 3 (by omega)]
    rw [e1, List.drop_append_of_le_length h]
    exact xrun_app (x.step a) (a.drop 32) s
  · rw [xrun_few x a (by omega)]
  termination_by a.length
  decreasing_by simp; omega
theorem xrun_rest (x : Lanes) (a : Bs) : (xrun x a).2.length < 32 ∧ (xrun x a).2.length ≤ a.length := by
  by_cases h : 32 ≤ a.length
  · rw [xrun_more x a h]
    have := xrun_rest (x.step a) (a.drop 32)
    simp only [List.length_drop] at this
    omega
  · rw [xrun_few x a (by omega)]
    simp only []
    omega
  termination_by a.length
  decreasing_by simp; omega
end Go.Proofs.YtaaanoklhiomlaaGreat
