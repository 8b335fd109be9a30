import Derived.Test.YtaaanoklhiomlaaGreatA23
import Derived.Outline
set_option linter.unusedVariables false
set_option linter.unusedSimpArgs false
namespace Go.Proofs.YtaaanoklhiomlaaGreat
open Go.RowKit
open Wr
theorem WI.here {W : World} {g : Nat} {F : Nat → Prop} {o : Opt} {outB : Bs} {told cur : List Int} {n : Int} {done : Bool} {p : Option Addr} {out l : Value} {s : Nat} {v : Value} (h : WI W g F o outB told cur n done p out l s v) : WI W g (fun i => F i ∧ i < W.heap.size) o outB told cur n done p out l s v :=
  ⟨h.blk, h.pp, h.orow, h.lrow, h.sblk, h.srow, h.ne, ⟨h.fg, h.blk.lt⟩, ⟨h.fs, h.sblk.lt⟩, fun b e => ⟨h.fo b e, (h.orow.lt b e).2⟩, fun b e => ⟨h.fl b e, (h.lrow.lt b e).2⟩, fun b e => ⟨h.fv b e, (h.srow.lt b e).2⟩, h.neo⟩
theorem Write_m {w0 W : World} {g : Nat} {F : Nat → Prop} {all : List Int} {p : Option Addr} {out l : Value} {s : Nat} {v : Value} (hI : WS blkP (headB om) W g F om 4096 all all.length p out l s v) (hF : ∀ i, F i → w0.heap.size ≤ i) (hz : w0.heap.size ≤ W.heap.size) (n : Nat) (hn : all.length + n ≤ 65536) :
    Calls Tryz.prog 32 #[.pointer (some ⟨g, 0, none⟩), .slice (some ⟨W.heap.size, 0, none⟩) n n] (W.alloc (.cells (madeCells #[.int .i64 0] n) 2)) fun e w' => e = .returned (.int .i64 0) ∧ ∃ F' p' out' l' v', WS blkP (headB om) w' g F' om 4096 (all ++ List.replicate n 0) (all ++ List.replicate n 0).length p' out' l' s v' ∧ (∀ i, F' i → w0.heap.size ≤ i) ∧ Below w0.heap.size W w' := by
  have hI1 : WS blkP (headB om) (W.alloc (.cells (madeCells #[.int .i64 0] n) 2)) g (fun i => F i ∧ i < W.heap.size) om 4096 all all.length p out l s v := (WI.here hI).keep (Keep.refl (fun _ => False) W |>.alloc _) (fun _ _ e => e)
  have hlen : (List.replicate n (0 : Int)).length = n := List.length_replicate
  have := Write_some blkP (headB om) 4096 (by omega) (by omega) (fun _ => True) (fun c h _ => blkP_len c h) (by have := (headB_len om om_ok).1; omega) rfl hI1 (some ⟨W.heap.size, 0, none⟩) n (List.replicate n 0) (made_rd W n)
    (fun ad e => by cases e; exact ⟨fun h => by have := h.2; simp at this, by simp⟩) (by simp) (by rw [hlen]; exact hn) (fun _ _ => trivial) (fun cur h _ W A c hr => plain_cPut cur (by omega) (by omega) W A c hr)
  rw [hlen] at this
  refine this.mono ?_
  rintro e w' ⟨rfl, p', out', l', v', hW, hK⟩
  refine ⟨rfl, _, p', out', l', v', hW, fun i h => ?_, ?_⟩
  · rcases h with h | h
    · exact hF i h.1
    · simp at h; omega
  · exact ((Below.refl _ _).alloc hz _).trans (hK.below (fun i h => hF i h.1) (by simp; omega))
theorem Write_mk {w0 W : World} {g : Nat} {F : Nat → Prop} {all : List Int} {p : Option Addr} {out l : Value} {s : Nat} {v : Value} (hI : WS blkP (headB om) W g F om 4096 all all.length p out l s v) (hF : ∀ i, F i → w0.heap.size ≤ i) (hz : w0.heap.size ≤ W.heap.size) (n : Nat) (hn : all.length + n ≤ 65536) (k : Nat) (hk : W.heap.size = k) :
    Calls Tryz.prog 32 #[.pointer (some ⟨g, 0, none⟩), .slice (some ⟨k, 0, none⟩) n n] (W.alloc (.cells (madeCells #[.int .i64 0] n) 2)) fun e w' => e = .returned (.int .i64 0) ∧ ∃ F' p' out' l' v', WS blkP (headB om) w' g F' om 4096 (all ++ List.replicate n 0) (all ++ List.replicate n 0).length p' out' l' s v' ∧ (∀ i, F' i → w0.heap.size ≤ i) ∧ Below w0.heap.size W w' := by
  subst hk
  exact Write_m hI hF hz n hn
theorem WS0 {W : World} {g : Nat} {F : Nat → Prop} {p : Option Addr} {out l : Value} {s : Nat} {v : Value} (h : WI W g F om (headB om) [] [] 0 false p out l s v) : WS blkP (headB om) W g F om 4096 [] (([] : List Int).length : Nat) p out l s v := by
  unfold WS
  rw [outs_nil blkP 4096 (by omega), told_nil, left_nil, List.append_nil]
  exact h
theorem Out_nil2 (w : World) : Calls Tryz.prog 34 #[.pointer none] w fun e w' => e = .returned (.string ⟨#[]⟩) ∧ w = w' := Out_nil w
theorem WS_alloc {W : World} {g : Nat} {F : Nat → Prop} {all : List Int} {n : Int} {p : Option Addr} {out l : Value} {s : Nat} {v : Value} (h : WS blkP (headB om) W g F om 4096 all n p out l s v) (o : Obj) : WS blkP (headB om) (W.alloc o) g F om 4096 all n p out l s v :=
  WI.keep h ((Keep.refl (fun _ => False) W).alloc o) (fun _ _ e => e)
theorem WS_full {W : World} {g : Nat} {F : Nat → Prop} {all : List Int} {p : Option Addr} {out l : Value} {s : Nat} {v : Value} (h : WS blkP (headB om) W g F om 4096 all all.length p out l s v) (ha : all.length = 65536) :
    WI W g F om (headB om ++ outs blkP 4096 all) all [] all.length false p out l s v := by
  obtain ⟨e1, e2⟩ := told_all all ha
  unfold WS at h
  rw [e1, e2] at h
  exact h
set_option maxHeartbeats 4000000 in
set_option maxRecDepth 10000 in
theorem many_walk (a b : Nat) (ha : a < 256) (hb : b < 256) (w : World) : Calls Tryz.prog 10 #[.int .u8 (a : Int), .int .u8 (b : Int)] w fun e w' => e = .returned (.bool true) ∧ Below w.heap.size w w' := by
  have hn : ∀ W, Calls Tryz.prog 27 #[.agg #[.int .i64 4096, .int .i64 7, .int .i64 7, .int .i64 0, .int .u64 0]] W fun e w' => ∃ g s v, e = .returned (.tuple #[.pointer (some ⟨g, 0, none⟩), .int .i64 0]) ∧ W.heap.size ≤ g ∧ WI w' g (fun i => W.heap.size ≤ i) om (headB om) [] [] 0 false (some ⟨g, 5, none⟩) v (.slice none 0 0) s (.slice none 0 0) ∧ Below W.heap.size W w' := fun W => New_WI om om_ok (by decide) W
  have hm1 := fun W => make64 (65536 - (1 + (a : Int))) (65535 - a) (by omega) (by omega) W
  have hm2 := fun W => make64 (1 + (a : Int) + 1 + (b : Int)) (a + b + 2) (by omega) (by omega) W
  have hm3 := fun W => make64 (1 + (a : Int)) (a + 1) (by omega) (by omega) W
  have Hn := Lib.hid hn; clear hn
  go_enter Tryz.func10, Tryz.ntmps10
  go_wp2_with (first | (go_at_call 27; refine (Hn.out _).mono ?_; rintro e w1 ⟨g, s, v, rfl, hg, hI, hB1⟩) | (go_at_call 25; refine (law_Err _ _).mono ?_; rintro e w3 ⟨rfl, rfl⟩))
  have z1 : w.heap.size + 1 ≤ w1.heap.size := by have := hB1.size; simpa using this
  have b1 : Below w.heap.size w w1 := bthen (balloc (Below.refl _ _) _) hB1
  refine (Write_m (w0 := w) (WS0 hI) (fun i h => by simp at h; omega) (by omega) (65535 - a) (by simp; omega)).mono ?_
  rintro e w2 ⟨rfl, F2, p2, out2, l2, v2, hW2, hF2, hb2⟩
  have b2 := b1.trans hb2
  generalize hx2 : ([] ++ List.replicate (65535 - a) (0 : Int)) = x2 at *
  have hl2 : x2.length = 65535 - a := by rw [← hx2]; simp
  have Hl2 := Lib.hid hl2; clear hl2 hx2
  go_wp2_with fail
  refine (Write_limit (WS_alloc hW2 _) _ (a + b + 2) _ (by have := Hl2.out; omega) (by have := Hl2.out; omega)).mono ?_
  rintro e w3 ⟨rfl, hw3⟩
  subst hw3
  go_wp2_with fail
  refine (Write_mk (w0 := w) (WS_alloc hW2 _) hF2 (by have := b2.size; simp; omega) (a + 1) (by have := Hl2.out; omega) _ (by simp)).mono ?_
  rintro e w4 ⟨rfl, F4, p4, out4, l4, v4, hW4, hF4, hb4⟩
  have b4 : Below w.heap.size w w4 := (balloc b2 _).trans hb4
  generalize hx4 : (x2 ++ List.replicate (a + 1) (0 : Int)) = x4 at *
  have hl4 : x4.length = 65536 := by have := Hl2.out; rw [← hx4]; simp; omega
  have Hl4 := Lib.hid hl4; clear hl4 hx4
  go_wp2_with fail
  refine (Write_limit (WS_alloc hW4 _) _ 1 _ (by have := Hl4.out; omega) (by have := Hl4.out; omega)).mono ?_
  rintro e w5 ⟨rfl, hw5⟩
  subst hw5
  have ho := outs_plain_len 16 x4 (by have := Hl4.out; omega)
  have ho2 := outs_len2 blkP 4096 10000000 (fun _ => True) (fun c h _ => blkP_len c h) _ x4 (Nat.le_refl _) (fun _ _ => trivial)
  have hh := headB_len om om_ok
  have hlt : (headB om ++ outs blkP 4096 x4).length ≤ 10000000000000 := by have := Hl4.out; rw [List.length_append]; omega
  go_wp2_with fail
  refine (Close_told (WS_full (WS_alloc hW4 _) Hl4.out) hlt (by have := Hl4.out; omega)).mono ?_
  rintro e w6 ⟨rfl, p6, out6, l6, v6, hI6, hK6⟩
  have b6 : Below w.heap.size w w6 := (balloc b4 _).trans (hK6.below hF4 (by have := b4.size; simp; omega))
  generalize hS : headB om ++ outs blkP 4096 x4 ++ endB om x4 = S at *
  have hSl : 524288 < S.length := by
    rw [← hS]
    simp only [endB, List.length_append, List.length_singleton]
    omega
  have hSn : S ≠ [] := by intro e; rw [e] at hSl; simp at hSl
  clear hS ho ho2 hh hlt
  have hd : decide ((524288 : Int) < (S.length : Int)) = true := by rw [decide_eq_true_eq]; omega
  have ln := len_str S
  clear hSl
  go_wp2_with (first | (go_at_call 25; refine (law_Err _ _).mono ?_; rintro e w3 ⟨rfl, rfl⟩))
  refine (Out_some hI6 hSn).mono ?_
  rintro e w7 ⟨rfl, hI7, hK7⟩
  have hF7 : ∀ i, (F4 i ∨ (w4.alloc (.cells #[.int .i64 1] 2)).heap.size ≤ i) → w.heap.size ≤ i := by
    intro i h
    rcases h with h | h
    · exact hF4 i h
    · have := b4.size; simp at h; omega
  have b7 : Below w.heap.size w w7 := b6.trans (hK7.below hF7 (by have := b6.size; omega))
  go_wp2_with (first | (go_at_call 25; refine (law_Err _ _).mono ?_; rintro e w3 ⟨rfl, rfl⟩) | (go_at_call 32; refine (Write_nil _ _).mono ?_; rintro e w8 ⟨rfl, hB8⟩) | (go_at_call 30; refine (Close_nil _).mono ?_; rintro e w9 ⟨rfl, hB9⟩) | (go_at_call 34; refine (Out_nil2 _).mono ?_; rintro e w10 ⟨rfl, rfl⟩) | (go_at_call 29; refine (awake25 _).mono ?_; rintro e w11 ⟨rfl, hB11⟩))
  go_ret
  exact ⟨rfl, bthen (bthen (bthen b7 hB8) hB9) hB11⟩
end Go.Proofs.YtaaanoklhiomlaaGreat
