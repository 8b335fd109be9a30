import Derived.Test.YtaaanoklhiomlaaGreatA7
set_option linter.unusedVariables false
set_option linter.unusedSimpArgs false

namespace Go.Proofs.YtaaanoklhiomlaaGreat
open Go.RowKit
open Wr
set_option maxHeartbeats 1000000 in
set_option maxRecDepth 10000 in
theorem st_Sum (g : Nat) (seed : Int) (all : Bs) (v : Value) (w : World) (hb0 : Blk w g 153 (stc seed (xrun (lanes0 seed) all).1 v all.length)) (hown0 : w.ownsRow 0 5 1 v (xrun (lanes0 seed) all).2.length (u8s (xrun (lanes0 seed) all).2)) (hlen : all.length ≤ 140737488355328) :
    Calls Tryz.prog 63 #[.pointer (some ⟨g, 0, none⟩)] w fun e w' => e = .returned (.int .u64 (xsum seed all)) ∧ Below w.heap.size w w' := by
  obtain ⟨x, r, hxr⟩ : ∃ x r, xrun (lanes0 seed) all = (x, r) := ⟨_, _, rfl⟩
  rw [hxr] at hb0 hown0
  have hr32 : r.length < 32 := by have := (xrun_rest (lanes0 seed) all).1; rw [hxr] at this; exact this
  have Hx := Lib.hid hxr; clear hxr
  simp only [] at hb0 hown0
  obtain ⟨A, cp, rfl⟩ := own_slice hown0
  have hcv := own_str hown0
  have hcvd := own_str hown0.drew
  have c0 := hb0.cell 0 (.int .u64 seed) rfl
  have c5 := hb0.cell 5 (.slice A r.length cp) rfl
  have c6 := hb0.cell 6 (.int .i64 all.length) rfl
  have hw : Hid (IntKind.u64.wrap (all.length : Int) = all.length) := Lib.hid (by rw [IntKind.wrap_u64]; omega)
  by_cases h32 : all.length < 32
  · go_enter Tryz.func63, Tryz.ntmps63
    go_wp2
    go_region_with (go_at_call 76; refine (xxh_Sum seed r (by omega) _).mono ?_; rintro e w1 ⟨rfl, hB⟩)
    all_goals (go_wp2; go_ret; exact ⟨congrArg (fun x => Ending.returned (.int .u64 x)) (by have := Hx.out; rw [xrun_few _ _ h32] at this; injection this with _ h; rw [h]), (Below.refl _ _).drew.trans hB⟩)
  · have i0 : ∀ W, (Instr.index 157 (.agg #[.int .i64 1, .int .i64 7, .int .i64 12, .int .i64 18]) (.int .i64 0)).run Tryz.prog W = .ok (.int .i64 1) W := fun _ => by kernel_rfl
    have i1 : ∀ W, (Instr.index 157 (.agg #[.int .i64 1, .int .i64 7, .int .i64 12, .int .i64 18]) (.int .i64 1)).run Tryz.prog W = .ok (.int .i64 7) W := fun _ => by kernel_rfl
    have i2 : ∀ W, (Instr.index 157 (.agg #[.int .i64 1, .int .i64 7, .int .i64 12, .int .i64 18]) (.int .i64 2)).run Tryz.prog W = .ok (.int .i64 12) W := fun _ => by kernel_rfl
    have i3 : ∀ W, (Instr.index 157 (.agg #[.int .i64 1, .int .i64 7, .int .i64 12, .int .i64 18]) (.int .i64 3)).run Tryz.prog W = .ok (.int .i64 18) W := fun _ => by kernel_rfl
    have j0 : ∀ W, (Instr.index 151 (.agg #[.int .u64 x.a, .int .u64 x.b, .int .u64 x.c, .int .u64 x.d]) (.int .i64 0)).run Tryz.prog W = .ok (.int .u64 x.a) W := fun _ => by kernel_rfl
    have j1 : ∀ W, (Instr.index 151 (.agg #[.int .u64 x.a, .int .u64 x.b, .int .u64 x.c, .int .u64 x.d]) (.int .i64 1)).run Tryz.prog W = .ok (.int .u64 x.b) W := fun _ => by kernel_rfl
    have j2 : ∀ W, (Instr.index 151 (.agg #[.int .u64 x.a, .int .u64 x.b, .int .u64 x.c, .int .u64 x.d]) (.int .i64 2)).run Tryz.prog W = .ok (.int .u64 x.c) W := fun _ => by kernel_rfl
    have j3 : ∀ W, (Instr.index 151 (.agg #[.int .u64 x.a, .int .u64 x.b, .int .u64 x.c, .int .u64 x.d]) (.int .i64 3)).run Tryz.prog W = .ok (.int .u64 x.d) W := fun _ => by kernel_rfl
    have c1 := hb0.cell 1 (.int .u64 x.a) rfl
    have c2 := hb0.cell 2 (.int .u64 x.b) rfl
    have c3 := hb0.cell 3 (.int .u64 x.c) rfl
    have c4 := hb0.cell 4 (.int .u64 x.d) rfl
    go_enter Tryz.func63, Tryz.ntmps63
    go_wp2
    refine wp_loop_rounds 5 ?_
    rw [rounds_succ]; go_wp2_with (first | (go_at_call 91; refine (rot_1 _ _).mono ?_; rintro e w2 ⟨rfl, rfl⟩))
    rw [rounds_succ]; go_wp2_with (first | (go_at_call 91; refine (rot_7 _ _).mono ?_; rintro e w2 ⟨rfl, rfl⟩))
    rw [rounds_succ]; go_wp2_with (first | (go_at_call 91; refine (rot_12 _ _).mono ?_; rintro e w2 ⟨rfl, rfl⟩))
    rw [rounds_succ]; go_wp2_with (first | (go_at_call 91; refine (rot_18 _ _).mono ?_; rintro e w2 ⟨rfl, rfl⟩))
    rw [rounds_succ]; go_wp2
    refine wp_loop_rounds 5 ?_
    iterate 4 (rw [rounds_succ]; go_wp2_with (first | (go_at_call 92; refine (xround_any _ _ _).mono ?_; rintro e w2 ⟨rfl, rfl⟩)))
    rw [rounds_succ]; go_wp2
    go_region_with (first | (go_at_call 94; refine (state_tail _ r (by omega) _).mono ?_; rintro e w1 ⟨rfl, hB⟩) | (go_at_call 93; refine (xmix_int _ (xtail_nonneg _ _ (wrap_nonneg _)) _).mono ?_; rintro e w2 ⟨rfl, rfl⟩))
    all_goals (go_wp2; go_ret; exact ⟨congrArg (fun x => Ending.returned (.int .u64 x)) (by rw [xsum, xhead, if_neg h32, Hx.out]; show _ = xmix (xtail (IntKind.u64.wrap (x.joined + all.length)) r); rw [hw.out]; unfold Lanes.joined xj XP1 XP4; rfl), (Below.refl _ _).drew.trans hB⟩)
end Go.Proofs.YtaaanoklhiomlaaGreat
