import Derived.Test.YtaaanoklhiomlaaGreatR2
import Derived.Deep.DrawnRows
set_option linter.unusedVariables false
set_option linter.unusedSimpArgs false
namespace Go.Proofs.YtaaanoklhiomlaaGreat
open Go.RowKit
open Wr
attribute [local go_sem ↓] Go.wp_at_zero Go.wp_at_succ
theorem held5_store {w : World} {b : Nat} {v0 v1 v2 v3 v4 : Value} {p q : Addr} {u v : Value} (hp : p.block ≠ b) (hq : q.block ≠ b)
    (h : w.cell? ⟨b, 0, none⟩ = some v0 ∧ w.cell? ⟨b, 1, none⟩ = some v1 ∧ w.cell? ⟨b, 2, none⟩ = some v2 ∧ w.cell? ⟨b, 3, none⟩ = some v3 ∧ w.cell? ⟨b, 4, none⟩ = some v4) :
    ((w.setCell p u).setCell q v).cell? ⟨b, 0, none⟩ = some v0 ∧ ((w.setCell p u).setCell q v).cell? ⟨b, 1, none⟩ = some v1 ∧ ((w.setCell p u).setCell q v).cell? ⟨b, 2, none⟩ = some v2 ∧ ((w.setCell p u).setCell q v).cell? ⟨b, 3, none⟩ = some v3 ∧ ((w.setCell p u).setCell q v).cell? ⟨b, 4, none⟩ = some v4 := by
  have key : ∀ (i : Nat) (x : Value), w.cell? ⟨b, i, none⟩ = some x → ((w.setCell p u).setCell q v).cell? ⟨b, i, none⟩ = some x := by
    intro i x hx
    rw [World.cell?_setCell_other _ _ _ _ (fun e => hq (by rw [e])), World.cell?_setCell_other _ _ _ _ (fun e => hp (by rw [e]))]
    exact hx
  exact ⟨key 0 _ h.1, key 1 _ h.2.1, key 2 _ h.2.2.1, key 3 _ h.2.2.2.1, key 4 _ h.2.2.2.2⟩
set_option maxHeartbeats 4000000 in
set_option maxRecDepth 10000 in
theorem ref_PutFrame_nil (o : Opt) (h : o.Ok) (hs : o.seed < 2 ^ 64) (w : World) : Calls Tryz.prog 39 #[o.val, .slice none 0 0] w fun e w' => e = .returned (.agg #[str (headB o ++ endB o []), .int .i64 0]) ∧ Below w.heap.size w w' := by
  have hm := fun w => ref_May_yes o h w
  have hh := fun w => ref_Head o h hs w
  have hf := fun w => ref_full_nil o true w
  unfold Opt.val at hm hh hf ⊢
  have Hm := Lib.hid hm; clear hm
  have Hh := Lib.hid hh; clear hh
  have Hf := Lib.hid hf; clear hf
  clear hs
  have cvb : ∀ (W : World) (g : Nat), Blk W g 5 #[.int .u8 255] → (convert 69 9 (.slice (some ⟨g, 0, none⟩) 1 1)).run Tryz.prog W = .ok (str [b8 255]) W := fun W g h => conv1 255 (by omega) W g h
  have cv := fun W : World => cvb _ _ (Blk.new W 5 #[.int .u8 255])
  have cvd := fun W : World => cvb _ _ (Blk.new W 5 #[.int .u8 255]).drew
  have Hc := Lib.hid cvb; clear cvb
  have hlh : (headB o).length ≤ 26 := by
    have := vput_len 9 o.block.toNat (by have := h.b2; omega)
    simp [headB, word8_length]; omega
  obtain ⟨H, hH⟩ : ∃ H, headB o = H := ⟨_, rfl⟩
  rw [hH] at hlh Hh ⊢
  obtain ⟨t1, ht1⟩ : ∃ t1 : Bs, H ++ [b8 255] = t1 := ⟨_, rfl⟩
  obtain ⟨t2, ht2⟩ : ∃ t2 : Bs, t1 ++ vput 0 = t2 := ⟨_, rfl⟩
  have l1 : (vput 0).length ≤ 10 := vput_len 9 _ (by omega)
  have hl1 : t1.length ≤ 27 := by rw [← ht1]; simp; omega
  have hl2 : t2.length ≤ 37 := by rw [← ht2]; simp; omega
  have a0 : ∀ W, (binOp .add 9 (str H) (str [])).run Tryz.prog W = .ok (str H) W := fun W => by have := str_add H [] (by simp; omega) W; rwa [List.append_nil] at this
  have a1 : ∀ W, (binOp .add 9 (str H) (str [b8 255])).run Tryz.prog W = .ok (str t1) W := fun W => by rw [← ht1]; exact str_add _ _ (by simp; omega) W
  have a2 : ∀ W, (binOp .add 9 (str t1) (str (vput 0))).run Tryz.prog W = .ok (str t2) W := fun W => by rw [← ht2]; exact str_add _ _ (by omega) W
  have he : H ++ endB o [] = t2 ++ word8 (xsumN o.seed []) := by rw [← ht2, ← ht1]; simp [endB, plainB, b8]
  have a3 : ∀ W, (binOp .add 9 (str t2) (str (word8 (xsumN o.seed [])))).run Tryz.prog W = .ok (.string ⟨(H ++ endB o []).toArray⟩) W := fun W => by rw [he]; exact str_add _ _ (by simp [word8_length]; omega) W
  clear he l1 hl1 hl2 ht1 ht2 hlh hH
  have hpl := fun W => ref_Plain none 0 [] W (Rd.nil W none) (by simp)
  have Hpl := Lib.hid hpl; clear hpl
  go_enter Tryz.func39, Tryz.ntmps39
  go_wp2_with (go_at_call 28; refine (Hm.out _).mono ?_; rintro e w1 ⟨rfl, hB1⟩)
  have hb0 := ((Blk.new w 27 #[.int .i64 o.block, .int .i64 o.limit, .int .i64 o.log, .int .i64 o.way, .int .u64 (o.seed : Int)]).alloc (.cells #[.string ⟨#[]⟩, .int .i64 0] 65)).keep hB1
  have hb1 := (Blk.new (w.alloc (.cells #[.int .i64 o.block, .int .i64 o.limit, .int .i64 o.log, .int .i64 o.way, .int .u64 (o.seed : Int)] 27)) 65 #[.string ⟨#[]⟩, .int .i64 0]).keep hB1
  have c0 := hb0.cell 0 (.int .i64 o.block) rfl
  have c1 := hb0.cell 1 (.int .i64 o.limit) rfl
  have c2 := hb0.cell 2 (.int .i64 o.log) rfl
  have c3 := hb0.cell 3 (.int .i64 o.way) rfl
  have c4 := hb0.cell 4 (.int .u64 (o.seed : Int)) rfl
  have hlt := hb0.lt
  have esz : (w.alloc (.cells #[.int .i64 o.block, .int .i64 o.limit, .int .i64 o.log, .int .i64 o.way, .int .u64 (o.seed : Int)] 27)).heap.size = w.heap.size + 1 := by simp
  rw [esz] at hb1
  have hlt1 := hb1.lt
  clear esz
  have HB1 := Lib.hid hb1; clear hb1
  go_region_held_law (fun w' => w'.cell? ⟨w.heap.size, 0, none⟩ = some (.int .i64 o.block) ∧ w'.cell? ⟨w.heap.size, 1, none⟩ = some (.int .i64 o.limit) ∧ w'.cell? ⟨w.heap.size, 2, none⟩ = some (.int .i64 o.log) ∧ w'.cell? ⟨w.heap.size, 3, none⟩ = some (.int .i64 o.way) ∧ w'.cell? ⟨w.heap.size, 4, none⟩ = some (.int .u64 (o.seed : Int)))
    (first | exact held5 hB2 (by assumption) | exact held5 hB3 (by assumption) | exact held5 hB4 (by assumption) | exact held5 hB5 (by assumption) | exact held5 hB6 (by assumption) | exact held5 hB7 (by assumption) | go_keep | exact held5_store (by simp) (by simp) S7.out | exact held5 (balloc (Below.refl _ _) _) (held5_store (by simp) (by simp) S7.out) | exact held5 (Below.refl _ _).drew (held5_store (by simp) (by simp) S7.out) | exact held5 (balloc (Below.refl _ _) _).drew (held5_store (by simp) (by simp) S7.out))
    (first | (go_at_call 43; refine (Hh.out _).mono ?_; rintro e w2 ⟨rfl, hB2⟩; (first | (with_reducible (have hk2 := (Blk.new _ 5 #[.int .u8 255]).drew.keep hB2; have cv2 := Hc.out _ _ hk2; try simp only [drew_size] at cv2)) | (with_reducible (have hk2 := (Blk.new _ 5 #[.int .u8 255]).keep hB2; have cv2 := Hc.out _ _ hk2)) | skip)) | (go_at_call 65; refine (Hf.out _).mono ?_; rintro e w3 ⟨rfl, hB3⟩; (first | (with_reducible (have hk3 := (Blk.new _ 5 #[.int .u8 255]).drew.keep hB3; have cv3 := Hc.out _ _ hk3; try simp only [drew_size] at cv3)) | (with_reducible (have hk3 := (Blk.new _ 5 #[.int .u8 255]).keep hB3; have cv3 := Hc.out _ _ hk3)) | (with_reducible (have hk3 := hk2.keep hB3; have cv3 := Hc.out _ _ hk3)) | skip)) | (go_at_call 73; refine (ref_PutVint 0 (by omega) _).mono ?_; rintro e w4 ⟨rfl, hB4⟩; (first | (with_reducible (have hk4 := (Blk.new _ 5 #[.int .u8 255]).drew.keep hB4; have cv4 := Hc.out _ _ hk4; try simp only [drew_size] at cv4)) | (with_reducible (have hk4 := (Blk.new _ 5 #[.int .u8 255]).keep hB4; have cv4 := Hc.out _ _ hk4)) | (with_reducible (have hk4 := hk3.keep hB4; have cv4 := Hc.out _ _ hk4)) | skip)) | (go_at_call 72; refine (Hpl.out _).mono ?_; rintro e w5 ⟨rfl, hB5⟩; (first | (with_reducible (have hk5 := (Blk.new _ 5 #[.int .u8 255]).drew.keep hB5; have cv5 := Hc.out _ _ hk5; try simp only [drew_size] at cv5)) | (with_reducible (have hk5 := (Blk.new _ 5 #[.int .u8 255]).keep hB5; have cv5 := Hc.out _ _ hk5)) | (with_reducible (have hk5 := hk4.keep hB5; have cv5 := Hc.out _ _ hk5)) | skip)) | (go_at_call 71; refine (ref_Sum_nil o.seed _).mono ?_; rintro e w6 ⟨rfl, hB6⟩; (first | (with_reducible (have hk6 := (Blk.new _ 5 #[.int .u8 255]).drew.keep hB6; have cv6 := Hc.out _ _ hk6; try simp only [drew_size] at cv6)) | (with_reducible (have hk6 := (Blk.new _ 5 #[.int .u8 255]).keep hB6; have cv6 := Hc.out _ _ hk6)) | (with_reducible (have hk6 := hk5.keep hB6; have cv6 := Hc.out _ _ hk6)) | skip)) | (go_at_call 74; refine (ref_Word _ (xsumN_lt _ _) _).mono ?_; rintro e w7 ⟨rfl, hB7⟩; have ch7 : Below w1.heap.size w1 w7 := (by repeat (first | exact Below.refl _ _ | refine Below.drew ?_ | refine balloc ?_ _ | refine bthen ?_ (by assumption))); have hb7 := HB1.out.keep ch7; have d0 := hb7.cell 0 (.string ⟨#[]⟩) rfl; have d1 := hb7.cell 1 (.int .i64 0) rfl; have f0 := hb7.frozen 0; have f1 := hb7.frozen 1; have lt7 := hb7.lt; have hb70 := hb0.keep ch7; have S7 : Hid (w7.cell? ⟨w.heap.size, 0, none⟩ = some (.int .i64 o.block) ∧ w7.cell? ⟨w.heap.size, 1, none⟩ = some (.int .i64 o.limit) ∧ w7.cell? ⟨w.heap.size, 2, none⟩ = some (.int .i64 o.log) ∧ w7.cell? ⟨w.heap.size, 3, none⟩ = some (.int .i64 o.way) ∧ w7.cell? ⟨w.heap.size, 4, none⟩ = some (.int .u64 (o.seed : Int))) := ⟨hb70.cell 0 (.int .i64 o.block) rfl, hb70.cell 1 (.int .i64 o.limit) rfl, hb70.cell 2 (.int .i64 o.log) rfl, hb70.cell 3 (.int .i64 o.way) rfl, hb70.cell 4 (.int .u64 (o.seed : Int)) rfl⟩; clear hb7 hb70; (first | (with_reducible (have hk7 := (Blk.new _ 5 #[.int .u8 255]).drew.keep hB7; have cv7 := Hc.out _ _ hk7; try simp only [drew_size] at cv7)) | (with_reducible (have hk7 := (Blk.new _ 5 #[.int .u8 255]).keep hB7; have cv7 := Hc.out _ _ hk7)) | (with_reducible (have hk7 := hk6.keep hB7; have cv7 := Hc.out _ _ hk7)) | skip)))
  all_goals
    have hb8 : Blk ((w7.setCell ⟨w.heap.size + 1, 0, none⟩ (.string ⟨(H ++ endB o []).toArray⟩)).setCell ⟨w.heap.size + 1, 1, none⟩ (.int .i64 0)) (w.heap.size + 1) 65 #[str (H ++ endB o []), .int .i64 0] := ((HB1.out.keep ch7).set_ 0 (.string ⟨(H ++ endB o []).toArray⟩)).set_ 1 (.int .i64 0)
    have b8 : Below w.heap.size w ((w7.setCell ⟨w.heap.size + 1, 0, none⟩ (.string ⟨(H ++ endB o []).toArray⟩)).setCell ⟨w.heap.size + 1, 1, none⟩ (.int .i64 0)) := ((((((Below.refl _ _).alloc (Nat.le_refl _) _).alloc (by simp) _).trans (hB1.mono (by simp; omega))).trans (ch7.mono (by omega))).setCell (by simp) _).setCell (by simp) _
    clear Hm Hh Hf cv cvd Hc a0 a1 a2 a3 Hpl hb0 c0 c1 c2 c3 c4 HB1 S7 d0 d1 f0 f1 lt7 ch7
    generalize ((w7.setCell ⟨w.heap.size + 1, 0, none⟩ (.string ⟨(H ++ endB o []).toArray⟩)).setCell ⟨w.heap.size + 1, 1, none⟩ (.int .i64 0)) = w8 at *
    go_wp2
    refine bodyPost_ret (v := .agg #[str (H ++ endB o []), .int .i64 0]) (results_struct (cs := #[str (H ++ endB o []), .int .i64 0]) (g := w.heap.size + 1) (ty' := 65) (by rfl) (by rfl) Tryz.underlying65 (by kernel_rfl) ?_) rfl ⟨rfl, ?_⟩
    · with_reducible (first | exact hb8 | exact hb8.alloc _ | exact hb8.drew | exact (hb8.alloc _).drew | exact hb8.drew.drew | exact (hb8.alloc _).drew.drew)
    · with_reducible (first | exact b8 | exact b8.alloc (Nat.le_trans b8.size (Nat.le_refl _)) _ | exact b8.drew | exact (b8.alloc (Nat.le_trans b8.size (Nat.le_refl _)) _).drew | exact b8.drew.drew | exact (b8.alloc (Nat.le_trans b8.size (Nat.le_refl _)) _).drew.drew)
end Go.Proofs.YtaaanoklhiomlaaGreat
