import Derived.Test.YtaaanoklhiomlaaGreatR1
import Derived.Deep.RegionHeldLaw
set_option linter.unusedVariables false
set_option linter.unusedSimpArgs false
namespace Go.Proofs.YtaaanoklhiomlaaGreat
open Go.RowKit
open Wr
set_option maxHeartbeats 8000000 in
set_option maxRecDepth 10000 in
theorem ref_Head (o : Opt) (h : o.Ok) (hs : o.seed < 2 ^ 64) (w : World) : Calls Tryz.prog 43 #[o.val] w fun e w' => e = .returned (str (headB o)) ∧ Below w.heap.size w w' := by
  have Hs := Lib.hid hs; clear hs
  obtain ⟨b, hb⟩ := Int.eq_ofNat_of_zero_le (show 0 ≤ o.block by have := h.b1; omega)
  have hm := fun w => ref_May_yes o h w
  have hb2 : b < 2 ^ 64 := by have := h.b2; omega
  have Hb2 := Lib.hid hb2; clear hb2
  have b1 := h.b1; have b2 := h.b2
  unfold Opt.val at hm ⊢
  have Hm := Lib.hid hm; clear hm
  have Hb := Lib.hid hb; clear hb
  have hvl : (vput o.block.toNat).length ≤ 10 := vput_len 9 _ (by omega)
  obtain ⟨t1, ht1⟩ : ∃ t1 : Bs, [87, 82, 78, 71, 1] ++ vput o.block.toNat = t1 := ⟨_, rfl⟩
  obtain ⟨t2, ht2⟩ : ∃ t2 : Bs, [b8 o.limit.toNat, b8 o.log.toNat, b8 o.way.toNat] = t2 := ⟨_, rfl⟩
  obtain ⟨t3, ht3⟩ : ∃ t3 : Bs, t1 ++ t2 = t3 := ⟨_, rfl⟩
  have hl1 : t1.length ≤ 15 := by rw [← ht1]; simp; omega
  have hl2 : t2.length = 3 := by rw [← ht2]; rfl
  have hh : t3 ++ word8 o.seed = headB o := by rw [← ht3, ← ht1, ← ht2]; rfl
  have a1 : ∀ W, (binOp .add 9 (.string ⟨#[87, 82, 78, 71, 1]⟩) (str (vput o.block.toNat))).run Tryz.prog W = .ok (str t1) W := fun W => by rw [← ht1]; exact str_add [87, 82, 78, 71, 1] _ (by simp; omega) W
  have a2 : ∀ W, (binOp .add 9 (str t1) (str t2)).run Tryz.prog W = .ok (str t3) W := fun W => by rw [← ht3]; exact str_add _ _ (by omega) W
  have a3 : ∀ W, (binOp .add 9 (str t3) (str (word8 o.seed))).run Tryz.prog W = .ok (str (headB o)) W := fun W => by rw [← hh]; exact str_add _ _ (by rw [← ht3]; simp [word8_length]; omega) W
  have cvb : ∀ (W : World) (g : Nat), Blk W g 5 #[.int .u8 (IntKind.u8.wrap o.limit), .int .u8 (IntKind.u8.wrap o.log), .int .u8 (IntKind.u8.wrap o.way)] → (convert 69 9 (.slice (some ⟨g, 0, none⟩) 3 3)).run Tryz.prog W = .ok (str t2) W := by
    intro W g hb
    have e1 : ((b8 o.limit.toNat).toNat : Int) = IntKind.u8.wrap o.limit := by rw [b8_toNat', IntKind.wrap_u8']; have := h.l1; omega
    have e2 : ((b8 o.log.toNat).toNat : Int) = IntKind.u8.wrap o.log := by rw [b8_toNat', IntKind.wrap_u8']; have := h.g1; omega
    have e3 : ((b8 o.way.toNat).toNat : Int) = IntKind.u8.wrap o.way := by rw [b8_toNat', IntKind.wrap_u8']; have := h.w1; omega
    rw [← ht2]
    exact conv_blk (bs := [b8 o.limit.toNat, b8 o.log.toNat, b8 o.way.toNat]) (by simpa only [u8s, List.map_cons, List.map_nil, e1, e2, e3] using hb)
  have cv := fun W : World => cvb _ _ (Blk.new W 5 #[.int .u8 (IntKind.u8.wrap o.limit), .int .u8 (IntKind.u8.wrap o.log), .int .u8 (IntKind.u8.wrap o.way)])
  have cvd := fun W : World => cvb _ _ (Blk.new W 5 #[.int .u8 (IntKind.u8.wrap o.limit), .int .u8 (IntKind.u8.wrap o.log), .int .u8 (IntKind.u8.wrap o.way)]).drew
  have Hcvb := Lib.hid cvb; clear cvb
  clear hvl ht1 ht2 ht3 hl1 hl2 hh
  go_enter Tryz.func43, Tryz.ntmps43
  go_wp2_with (first | (go_at_call 28; refine (Hm.out _).mono ?_; rintro e w1 ⟨rfl, hB1⟩) | (go_at_call 74; refine (ref_Word _ Hs.out _).mono ?_; rintro e w1 ⟨rfl, hB3⟩))
  have hb0 := (Blk.new w 27 #[.int .i64 o.block, .int .i64 o.limit, .int .i64 o.log, .int .i64 o.way, .int .u64 (o.seed : Int)]).keep hB1
  have c0 := hb0.cell 0 (.int .i64 o.block) rfl
  have c1 := hb0.cell 1 (.int .i64 o.limit) rfl
  have c2 := hb0.cell 2 (.int .i64 o.log) rfl
  have c3 := hb0.cell 3 (.int .i64 o.way) rfl
  have c4 := hb0.cell 4 (.int .u64 (o.seed : Int)) rfl
  have hlt := hb0.lt
  clear hb0
  go_region_held_law (fun w' => w'.cell? ⟨w.heap.size, 0, none⟩ = some (.int .i64 o.block) ∧ w'.cell? ⟨w.heap.size, 1, none⟩ = some (.int .i64 o.limit) ∧ w'.cell? ⟨w.heap.size, 2, none⟩ = some (.int .i64 o.log) ∧ w'.cell? ⟨w.heap.size, 3, none⟩ = some (.int .i64 o.way) ∧ w'.cell? ⟨w.heap.size, 4, none⟩ = some (.int .u64 (o.seed : Int)))
    (first | exact held5 hB2 (by assumption) | exact held5 hB3 (by assumption) | go_keep)
    (first | (go_at_call 73; rw [show IntKind.u64.wrap o.block = ((o.block.toNat : Nat) : Int) from by rw [IntKind.wrap_u64]; omega]; refine (ref_PutVint _ (by omega) _).mono ?_; rintro e w2 ⟨rfl, hB2⟩; (first | (with_reducible (have hk2 := (Blk.new _ 5 #[.int .u8 (IntKind.u8.wrap o.limit), .int .u8 (IntKind.u8.wrap o.log), .int .u8 (IntKind.u8.wrap o.way)]).drew.keep hB2; have cv2 := Hcvb.out _ _ hk2; try simp only [drew_size] at cv2)) | (with_reducible (have hk2 := (Blk.new _ 5 #[.int .u8 (IntKind.u8.wrap o.limit), .int .u8 (IntKind.u8.wrap o.log), .int .u8 (IntKind.u8.wrap o.way)]).keep hB2; have cv2 := Hcvb.out _ _ hk2; try simp only [drew_size] at cv2)) | (with_reducible (have hk2 := hk3.keep hB2; have cv2 := Hcvb.out _ _ hk2; try simp only [drew_size] at cv2)) | skip)) | (go_at_call 74; refine (ref_Word _ Hs.out _).mono ?_; rintro e w3 ⟨rfl, hB3⟩; (first | (with_reducible (have hk3 := (Blk.new _ 5 #[.int .u8 (IntKind.u8.wrap o.limit), .int .u8 (IntKind.u8.wrap o.log), .int .u8 (IntKind.u8.wrap o.way)]).drew.keep hB3; have cv3 := Hcvb.out _ _ hk3; try simp only [drew_size] at cv3)) | (with_reducible (have hk3 := (Blk.new _ 5 #[.int .u8 (IntKind.u8.wrap o.limit), .int .u8 (IntKind.u8.wrap o.log), .int .u8 (IntKind.u8.wrap o.way)]).keep hB3; have cv3 := Hcvb.out _ _ hk3; try simp only [drew_size] at cv3)) | (with_reducible (have hk3 := hk2.keep hB3; have cv3 := Hcvb.out _ _ hk3; try simp only [drew_size] at cv3)) | skip)))
  all_goals
    go_wp2
    go_ret
    refine ⟨rfl, ?_⟩
    have b1 : Below w.heap.size w w1 := bthen (balloc (Below.refl _ _) _) hB1
    repeat (first | exact b1 | refine Below.drew ?_ | refine balloc ?_ _ | refine bthen ?_ hB3 | refine bthen ?_ hB2)
set_option maxHeartbeats 1000000 in
set_option maxRecDepth 10000 in
theorem ref_full_nil (o : Opt) (b : Bool) (w : World) : Calls Tryz.prog 65 #[o.val, .slice none 0 0, .bool b] w fun e w' => e = .returned (str []) ∧ Below w.heap.size w w' := by
  unfold Opt.val
  go_enter Tryz.func65, Tryz.ntmps65
  go_wp2
  go_rounds 1
  go_wp2
  go_ret
  exact ⟨rfl, (Below.refl _ _).alloc (Nat.le_refl _) _⟩
end Go.Proofs.YtaaanoklhiomlaaGreat
