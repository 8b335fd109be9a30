import Derived.Test.YtaaanoklhiomlaaGreatA3
import Derived.Outline
set_option linter.unusedVariables false
set_option linter.unusedSimpArgs false
namespace Go.Proofs.YtaaanoklhiomlaaGreat
open Go.RowKit
open Wr
structure Lanes where
  a : Int
  b : Int
  c : Int
  d : Int
def Lanes.val (x : Lanes) : Value := .agg #[.int .u64 x.a, .int .u64 x.b, .int .u64 x.c, .int .u64 x.d]
def Lanes.cells (x : Lanes) : Array Value := #[.int .u64 x.a, .int .u64 x.b, .int .u64 x.c, .int .u64 x.d]
def lanes0 (s : Int) : Lanes := ⟨IntKind.u64.wrap (IntKind.u64.wrap (s + XP1) + XP2), IntKind.u64.wrap (s + XP2), s, IntKind.u64.wrap (s - XP1)⟩
def wordAt (l : Bs) (i : Nat) : Nat := leNum ((l.drop (8 * i)).take 8)
def Lanes.step (x : Lanes) (l : Bs) : Lanes := ⟨xround x.a (wordAt l 0), xround x.b (wordAt l 1), xround x.c (wordAt l 2), xround x.d (wordAt l 3)⟩
def Lanes.upto (x : Lanes) (l : Bs) : Nat → Lanes
  | 0 => x
  | 1 => ⟨xround x.a (wordAt l 0), x.b, x.c, x.d⟩
  | 2 => ⟨xround x.a (wordAt l 0), xround x.b (wordAt l 1), x.c, x.d⟩
  | 3 => ⟨xround x.a (wordAt l 0), xround x.b (wordAt l 1), xround x.c (wordAt l 2), x.d⟩
  | _ => x.step l
def xj (h x : Int) : Int := IntKind.u64.wrap (IntKind.u64.wrap (bits .xor .u64 h (xround 0 x) * XP1) + XP4)
def Lanes.joined (x : Lanes) : Int :=
  xj (xj (xj (xj (IntKind.u64.wrap (IntKind.u64.wrap (IntKind.u64.wrap (IntKind.u64.wrap (rotl x.a 1) + rotl x.b 7) + rotl x.c 12) + rotl x.d 18)) x.a) x.b) x.c) x.d
set_option maxHeartbeats 1000000 in
set_option maxRecDepth 10000 in
theorem begun_any (s : Int) (w : World) : Calls Tryz.prog 104 #[.int .u64 s] w fun e w' => e = .returned (lanes0 s).val ∧ Below w.heap.size w w' := by
  go_enter Tryz.func104, Tryz.ntmps104
  go_wp2
  exact bodyPost_ret (v := (lanes0 s).val) (by simp [results, Tryz.results104, go_sem, Lanes.val, lanes0, XP1, XP2]) rfl ⟨rfl, (Below.refl _ _).alloc (Nat.le_refl _) _⟩
set_option maxHeartbeats 1000000 in
set_option maxRecDepth 10000 in
theorem step_any (x : Lanes) (l : Bs) (hl : 32 ≤ l.length) (hm : l.length ≤ 140737488355328) (w : World) : Calls Tryz.prog 105 #[x.val, str l] w fun e w' => e = .returned (x.step l).val ∧ Below w.heap.size w w' := by
  unfold str Lanes.val
  go_enter Tryz.func105, Tryz.ntmps105
  go_wp2
  go_loopw [9] (fun i wr => ∃ k : Nat, k ≤ 4 ∧ i = .int .i64 k ∧ Blk wr w.heap.size 168 (x.upto l k).cells ∧ Blk wr (w.heap.size + 1) 168 #[.int .u64 0, .int .u64 0, .int .u64 0, .int .u64 0] ∧ Below w.heap.size w wr) (fun i _ => 4 - (intOf i).toNat)
  case atStart => exact ⟨0, by omega, rfl, (Blk.new w 168 _).alloc _, by simpa using Blk.new (w.alloc _) 168 _, ((Below.refl _ _).alloc (Nat.le_refl _) _).alloc (by simp) _⟩
  case round =>
    obtain ⟨k, hk, rfl, hb, hr, hB⟩ := hrel
    rcases (show k = 0 ∨ k = 1 ∨ k = 2 ∨ k = 3 ∨ k = 4 by omega) with rfl | rfl | rfl | rfl | rfl
    · go_wp2_with (first | (go_at_call 121; refine (GetWord_ok l 0 _ (by omega) (by omega)).mono ?_; rintro e w1 ⟨rfl, hB1⟩; have c0 := (hb.keep hB1).cell 0 _ rfl; have z0 := (hb.keep hB1).frozen 0) | (go_at_call 92; refine (xround_any _ _ _).mono ?_; rintro e w2 ⟨rfl, rfl⟩))
      go_roundw
      case rel => exact ⟨1, by omega, by go_num, (hb.keep hB1).set_ 0 _, (hr.keep hB1).far (by simp) _, (bthen hB hB1).setCell (Nat.le_refl _) _⟩
      case measure => simp [intOf]
    · go_wp2_with (first | (go_at_call 121; refine (GetWord_ok l 8 _ (by omega) (by omega)).mono ?_; rintro e w1 ⟨rfl, hB1⟩; have c0 := (hb.keep hB1).cell 1 _ rfl; have z0 := (hb.keep hB1).frozen 1) | (go_at_call 92; refine (xround_any _ _ _).mono ?_; rintro e w2 ⟨rfl, rfl⟩))
      go_roundw
      case rel => exact ⟨2, by omega, by go_num, (hb.keep hB1).set_ 1 _, (hr.keep hB1).far (by simp) _, (bthen hB hB1).setCell (Nat.le_refl _) _⟩
      case measure => simp [intOf]
    · go_wp2_with (first | (go_at_call 121; refine (GetWord_ok l 16 _ (by omega) (by omega)).mono ?_; rintro e w1 ⟨rfl, hB1⟩; have c0 := (hb.keep hB1).cell 2 _ rfl; have z0 := (hb.keep hB1).frozen 2) | (go_at_call 92; refine (xround_any _ _ _).mono ?_; rintro e w2 ⟨rfl, rfl⟩))
      go_roundw
      case rel => exact ⟨3, by omega, by go_num, (hb.keep hB1).set_ 2 _, (hr.keep hB1).far (by simp) _, (bthen hB hB1).setCell (Nat.le_refl _) _⟩
      case measure => simp [intOf]
    · go_wp2_with (first | (go_at_call 121; refine (GetWord_ok l 24 _ (by omega) (by omega)).mono ?_; rintro e w1 ⟨rfl, hB1⟩; have c0 := (hb.keep hB1).cell 3 _ rfl; have z0 := (hb.keep hB1).frozen 3) | (go_at_call 92; refine (xround_any _ _ _).mono ?_; rintro e w2 ⟨rfl, rfl⟩))
      go_roundw
      case rel => exact ⟨4, by omega, by go_num, (hb.keep hB1).set_ 3 _, (hr.keep hB1).far (by simp) _, (bthen hB hB1).setCell (Nat.le_refl _) _⟩
      case measure => simp [intOf]
    · have c0 : wr.cell? ⟨w.heap.size, 0, none⟩ = some (.int .u64 (xround x.a (wordAt l 0))) := hb.cell 0 _ rfl
      have c1 : wr.cell? ⟨w.heap.size, 1, none⟩ = some (.int .u64 (xround x.b (wordAt l 1))) := hb.cell 1 _ rfl
      have c2 : wr.cell? ⟨w.heap.size, 2, none⟩ = some (.int .u64 (xround x.c (wordAt l 2))) := hb.cell 2 _ rfl
      have c3 : wr.cell? ⟨w.heap.size, 3, none⟩ = some (.int .u64 (xround x.d (wordAt l 3))) := hb.cell 3 _ rfl
      have r0 := hr.cell 0 _ rfl; have f0 := hr.frozen 0
      have r1 := hr.cell 1 _ rfl; have f1 := hr.frozen 1
      have r2 := hr.cell 2 _ rfl; have f2 := hr.frozen 2
      have r3 := hr.cell 3 _ rfl; have f3 := hr.frozen 3
      go_wp2
      have HR := (((hr.set_ 0 (.int .u64 (xround x.a (wordAt l 0)))).set_ 1 (.int .u64 (xround x.b (wordAt l 1)))).set_ 2 (.int .u64 (xround x.c (wordAt l 2)))).set_ 3 (.int .u64 (xround x.d (wordAt l 3)))
      refine bodyPost_ret (v := (x.step l).val) (results_arr Tryz.results105 rfl Tryz.underlying168 (by kernel_rfl) HR) rfl ⟨rfl, ?_⟩
      exact (((hB.setCell (by simp) _).setCell (by simp) _).setCell (by simp) _).setCell (by simp) _
set_option maxHeartbeats 1000000 in
set_option maxRecDepth 10000 in
theorem joined_any (x : Lanes) (w : World) : Calls Tryz.prog 106 #[x.val] w fun e w' => e = .returned (.int .u64 x.joined) ∧ Below w.heap.size w w' := by
  unfold Lanes.val
  have i0 : ∀ W, (Instr.index 157 (.agg #[.int .i64 1, .int .i64 7, .int .i64 12, .int .i64 18]) (.int .i64 0)).run Tryz.prog W = .ok (.int .i64 1) W := fun _ => by kernel_rfl
  have i1 : ∀ W, (Instr.index 157 (.agg #[.int .i64 1, .int .i64 7, .int .i64 12, .int .i64 18]) (.int .i64 1)).run Tryz.prog W = .ok (.int .i64 7) W := fun _ => by kernel_rfl
  have i2 : ∀ W, (Instr.index 157 (.agg #[.int .i64 1, .int .i64 7, .int .i64 12, .int .i64 18]) (.int .i64 2)).run Tryz.prog W = .ok (.int .i64 12) W := fun _ => by kernel_rfl
  have i3 : ∀ W, (Instr.index 157 (.agg #[.int .i64 1, .int .i64 7, .int .i64 12, .int .i64 18]) (.int .i64 3)).run Tryz.prog W = .ok (.int .i64 18) W := fun _ => by kernel_rfl
  have j0 : ∀ W, (Instr.index 168 (.agg #[.int .u64 x.a, .int .u64 x.b, .int .u64 x.c, .int .u64 x.d]) (.int .i64 0)).run Tryz.prog W = .ok (.int .u64 x.a) W := fun _ => by kernel_rfl
  have j1 : ∀ W, (Instr.index 168 (.agg #[.int .u64 x.a, .int .u64 x.b, .int .u64 x.c, .int .u64 x.d]) (.int .i64 1)).run Tryz.prog W = .ok (.int .u64 x.b) W := fun _ => by kernel_rfl
  have j2 : ∀ W, (Instr.index 168 (.agg #[.int .u64 x.a, .int .u64 x.b, .int .u64 x.c, .int .u64 x.d]) (.int .i64 2)).run Tryz.prog W = .ok (.int .u64 x.c) W := fun _ => by kernel_rfl
  have j3 : ∀ W, (Instr.index 168 (.agg #[.int .u64 x.a, .int .u64 x.b, .int .u64 x.c, .int .u64 x.d]) (.int .i64 3)).run Tryz.prog W = .ok (.int .u64 x.d) W := fun _ => by kernel_rfl
  go_enter Tryz.func106, Tryz.ntmps106
  go_wp2
  refine wp_loop_rounds 5 ?_
  rw [rounds_succ]; go_wp2_with (first | (go_at_call 91; refine (rot_1 _ _).mono ?_; rintro e w2 ⟨rfl, rfl⟩))
  rw [rounds_succ]; go_wp2_with (first | (go_at_call 91; refine (rot_7 _ _).mono ?_; rintro e w2 ⟨rfl, rfl⟩))
  rw [rounds_succ]; go_wp2_with (first | (go_at_call 91; refine (rot_12 _ _).mono ?_; rintro e w2 ⟨rfl, rfl⟩))
  rw [rounds_succ]; go_wp2_with (first | (go_at_call 91; refine (rot_18 _ _).mono ?_; rintro e w2 ⟨rfl, rfl⟩))
  rw [rounds_succ]; go_wp2
  refine wp_loop_rounds 5 ?_
  iterate 5 (rw [rounds_succ]; go_wp2_with (first | (go_at_call 92; refine (xround_any _ _ _).mono ?_; rintro e w2 ⟨rfl, rfl⟩)))
  go_ret
  exact ⟨rfl, (Below.refl _ _).alloc (Nat.le_refl _) _⟩

def xrun (x : Lanes) (l : Bs) : Lanes × Bs := if _h : 32 ≤ l.length then xrun (x.step l) (l.drop 32) else (x, l)
  termination_by l.length
  decreasing_by simp; omega
theorem xrun_more (x : Lanes) (l : Bs) (h : 32 ≤ l.length) : xrun x l = xrun (x.step l) (l.drop 32) := by rw [xrun, dif_pos h]
theorem xrun_few (x : Lanes) (l : Bs) (h : l.length < 32) : xrun x l = (x, l) := by rw [xrun, dif_neg (by omega)]
def xhead (seed : Int) (l : Bs) : Int := if l.length < 32 then IntKind.u64.wrap (seed + XP5) else (xrun (lanes0 seed) l).1.joined
def xsum (seed : Int) (l : Bs) : Int := xmix (xtail (IntKind.u64.wrap (xhead seed l + l.length)) (xrun (lanes0 seed) l).2)
theorem wrap_nonneg (x : Int) : 0 ≤ IntKind.u64.wrap x := by rw [IntKind.wrap_u64]; omega
theorem xt1_nonneg (l : Bs) (h : Int) (h0 : 0 ≤ h) : 0 ≤ l.foldl xt1 h := by
  induction l generalizing h with
  | nil => exact h0
  | cons b l ih => exact ih _ (wrap_nonneg _)
theorem xtail_nonneg (l : Bs) (h : Int) (h0 : 0 ≤ h) : 0 ≤ xtail h l := by
  fun_induction xtail h l with
  | case1 h b0 b1 b2 b3 b4 b5 b6 b7 rest ih => exact ih (wrap_nonneg _)
  | case2 h l _ =>
    unfold xtail4
    split
    · exact xt1_nonneg _ _ (wrap_nonneg _)
    · exact xt1_nonneg _ _ h0
theorem xmix_int (a : Int) (h0 : 0 ≤ a) (w : World) : Calls Tryz.prog 93 #[.int .u64 a] w fun e w' => e = .returned (.int .u64 (xmix a)) ∧ w = w' := by
  obtain ⟨n, rfl⟩ := Int.eq_ofNat_of_zero_le h0
  exact xmix_any n w
set_option maxHeartbeats 1000000 in
set_option maxRecDepth 10000 in
theorem xxh_Sum (seed : Int) (l : Bs) (hl : l.length ≤ 140737488355328) (w : World) : Calls Tryz.prog 76 #[.int .u64 seed, str l] w fun e w' => e = .returned (.int .u64 (xsum seed l)) ∧ Below w.heap.size w w' := by
  unfold str
  by_cases h32 : l.length < 32
  · go_enter Tryz.func76, Tryz.ntmps76
    go_wp2_with (first | (go_at_call 107; refine (xxh_tail _ l hl _).mono ?_; rintro e w2 ⟨rfl, hB⟩) | (go_at_call 93; refine (xmix_int _ (xtail_nonneg _ _ (wrap_nonneg _)) _).mono ?_; rintro e w2 ⟨rfl, rfl⟩))
    go_ret
    exact ⟨congrArg (fun x => Ending.returned (.int .u64 x)) (by rw [xsum, xhead, if_pos h32, xrun_few _ _ h32]; rfl), hB⟩
  · go_enter Tryz.func76, Tryz.ntmps76
    go_wp2_with (first | (go_at_call 104; refine (begun_any _ _).mono ?_; rintro e w2 ⟨rfl, hB⟩; unfold Lanes.val))
    go_loopw [1] (fun s wr => ∃ (x : Lanes) (r : Bs), s = .string ⟨r.toArray⟩ ∧ r.length ≤ l.length ∧ xrun x r = xrun (lanes0 seed) l ∧ Blk wr w2.heap.size 168 x.cells ∧ w.heap.size ≤ w2.heap.size ∧ Below w.heap.size w wr) (fun s _ => vlen s)
    case atStart => exact ⟨lanes0 seed, l, rfl, Nat.le_refl _, rfl, Blk.new _ _ _, hB.size, hB.alloc hB.size _⟩
    case round =>
      obtain ⟨x, r, rfl, hr, hx, hb, hsz, hBr⟩ := hrel
      have Hx := Lib.hid hx; clear hx
      have c0 := hb.cell 0 (.int .u64 x.a) rfl; have c1 := hb.cell 1 (.int .u64 x.b) rfl; have c2 := hb.cell 2 (.int .u64 x.c) rfl; have c3 := hb.cell 3 (.int .u64 x.d) rfl
      by_cases h : 32 ≤ r.length
      · go_wp2_with (first | (go_at_call 105; refine (step_any x r h (by omega) _).mono ?_; rintro e w3 ⟨rfl, hB3⟩; unfold Lanes.val; have hb3 := hb.keep hB3; have cb0 := hb3.cell 0 (.int .u64 x.a) rfl; have fb0 := hb3.frozen 0; have cb1 := hb3.cell 1 (.int .u64 x.b) rfl; have fb1 := hb3.frozen 1; have cb2 := hb3.cell 2 (.int .u64 x.c) rfl; have fb2 := hb3.frozen 2; have cb3 := hb3.cell 3 (.int .u64 x.d) rfl; have fb3 := hb3.frozen 3))
        refine ⟨⟨x.step r, r.drop 32, by rw [ext_drop], by simp; omega, by rw [← Hx.out, xrun_more x r h], (((hb3.set_ 0 _).set_ 1 _).set_ 2 _).set_ 3 _, hsz, ((((bthen hBr hB3).setCell hsz _).setCell hsz _).setCell hsz _).setCell hsz _⟩, ?_⟩
        rw [ext_drop]
        simp [vlen, ByteArray.size]; omega
      · go_wp2_with (first | (go_at_call 106; refine (joined_any x _).mono ?_; rintro e w3 ⟨rfl, hB3⟩) | (go_at_call 107; refine (xxh_tail _ r (by omega) _).mono ?_; rintro e w2 ⟨rfl, hB4⟩) | (go_at_call 93; refine (xmix_int _ (xtail_nonneg _ _ (wrap_nonneg _)) _).mono ?_; rintro e w2 ⟨rfl, rfl⟩))
        go_ret
        exact ⟨congrArg (fun x => Ending.returned (.int .u64 x)) (by rw [xsum, xhead, if_neg h32, ← Hx.out, xrun_few x r (by omega)]), bthen (bthen hBr hB3) hB4⟩
end Go.Proofs.YtaaanoklhiomlaaGreat
