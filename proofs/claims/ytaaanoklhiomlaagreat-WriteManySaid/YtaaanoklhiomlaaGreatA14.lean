import Derived.Test.YtaaanoklhiomlaaGreatA13
import Derived.Deep.RegionHeldLaw
set_option linter.unusedVariables false
set_option linter.unusedSimpArgs false
namespace Go.Proofs.YtaaanoklhiomlaaGreat
open Go.RowKit
open Wr
theorem len_str (s : Bs) (W : World) : (Builtin.len_ #[9] 3 #[str s]).run Tryz.prog W = .ok (.int .i64 s.length) W := by
  unfold str
  go_simp
theorem bits_lt (op : BinOp) (x y : Int) : 0 ≤ bits op .u64 x y ∧ bits op .u64 x y < 18446744073709551616 := by
  unfold bits
  simp only
  rw [IntKind.wrap_u64]; omega
/-- the sum as a natural number. -/
def xsumN (seed : Nat) (l : Bs) : Nat := (xsum seed l).toNat
theorem xsumN_lt (seed : Nat) (l : Bs) : xsumN seed l < 2 ^ 64 := by
  have h : 0 ≤ xsum seed l ∧ xsum seed l < 18446744073709551616 := by unfold xsum xmix; exact bits_lt _ _ _
  unfold xsumN; omega
theorem xsumN_eq (seed : Nat) (l : Bs) : xsum seed l = ((xsumN seed l : Nat) : Int) := by
  have h : 0 ≤ xsum seed l ∧ xsum seed l < 18446744073709551616 := by unfold xsum xmix; exact bits_lt _ _ _
  unfold xsumN; omega
theorem xxh_SumN (seed : Nat) (l : Bs) (hl : l.length ≤ 140737488355328) (w : World) : Calls Tryz.prog 76 #[.int .u64 (seed : Int), str l] w fun e w' => e = .returned (.int .u64 (xsumN seed l : Int)) ∧ Below w.heap.size w w' := by
  rw [← xsumN_eq]; exact xxh_Sum seed l hl w
theorem gen_wp {P : Program} {c : Code} {Q : Exit → Act → World → Prop} {a : Act} {n : Nat} {w W : World} (hB : Below n w W) (h : ∀ W', Below n w W' → Code.wp P c Q a W') : Code.wp P c Q a W := h W hB
def blockB (way : Nat) (seed : Nat) (xs : List Int) (s : Bs) : Bs := [b8 way] ++ vput xs.length ++ vput s.length ++ s ++ word8 (xsumN seed (plainB xs))
theorem conv1 (k : Nat) (hk : k < 256) (W : World) (g : Nat) (hb : Blk W g 5 #[.int .u8 (k : Int)]) : (convert 69 9 (.slice (some ⟨g, 0, none⟩) 1 1)).run Tryz.prog W = .ok (str [b8 k]) W :=
  conv_blk (bs := [b8 k]) (by simpa [u8s, b8_toNat k hk] using hb)
set_option maxHeartbeats 8000000 in
set_option maxRecDepth 10000 in
theorem Put_of (k : Nat) (hk : k ≤ 3) (o : Opt) (hs : o.seed < 2 ^ 64) (A : Option Addr) (c : Nat) (xs : List Int) (s : Bs) (hsl : s.length ≤ 1000000) (hp : ∀ W, Rd W A (i64s xs) → Calls Tryz.prog 54 #[.int .i64 k, o.val, .slice A xs.length c] W fun e w' => e = .returned (.tuple #[str s, .int .i64 0]) ∧ Below W.heap.size W w') (w : World) (hr : Rd w A (i64s xs)) (h1 : 1 ≤ xs.length) (hl : xs.length ≤ 4096) : Calls Tryz.prog 53 #[.int .i64 k, o.val, .slice A xs.length c] w fun e w' => e = .returned (.tuple #[str (blockB k o.seed xs s), .int .i64 0]) ∧ Below w.heap.size w w' := by
  unfold Opt.val at hp ⊢
  have Hp := Lib.hid hp; clear hp
  have Hs := Lib.hid hs; clear hs
  have cvb := conv1 k (by omega)
  have cv := fun W : World => cvb _ _ (Blk.new W 5 #[.int .u8 (k : Int)])
  have cvd := fun W : World => cvb _ _ (Blk.new W 5 #[.int .u8 (k : Int)]).drew
  have Hc := Lib.hid cvb; clear cvb
  have e8 : IntKind.u8.wrap (k : Int) = (k : Int) := by rw [IntKind.wrap_u8']; omega
  have ex : IntKind.u64.wrap (xs.length : Int) = (xs.length : Int) := by rw [IntKind.wrap_u64]; omega
  have es : IntKind.u64.wrap (s.length : Int) = (s.length : Int) := by rw [IntKind.wrap_u64]; omega
  have l1 : (vput xs.length).length ≤ 10 := vput_len 9 _ (by omega)
  have l2 : (vput s.length).length ≤ 10 := vput_len 9 _ (by omega)
  obtain ⟨t1, ht1⟩ : ∃ t1 : Bs, [b8 k] ++ vput xs.length = t1 := ⟨_, rfl⟩
  obtain ⟨t2, ht2⟩ : ∃ t2 : Bs, t1 ++ vput s.length = t2 := ⟨_, rfl⟩
  obtain ⟨t3, ht3⟩ : ∃ t3 : Bs, t2 ++ s = t3 := ⟨_, rfl⟩
  have hl1 : t1.length ≤ 11 := by rw [← ht1]; simp; omega
  have hl2 : t2.length ≤ 21 := by rw [← ht2]; simp; omega
  have a1 : ∀ W, (binOp .add 9 (str [b8 k]) (str (vput xs.length))).run Tryz.prog W = .ok (str t1) W := fun W => by rw [← ht1]; exact str_add _ _ (by simp; omega) W
  have a2 : ∀ W, (binOp .add 9 (str t1) (str (vput s.length))).run Tryz.prog W = .ok (str t2) W := fun W => by rw [← ht2]; exact str_add _ _ (by omega) W
  have ln := len_str s
  have a3 : ∀ W, (binOp .add 9 (str t2) (str s)).run Tryz.prog W = .ok (str t3) W := fun W => by rw [← ht3]; exact str_add _ _ (by omega) W
  have a4 : ∀ W, (binOp .add 9 (str t3) (str (word8 (xsumN o.seed (plainB xs))))).run Tryz.prog W = .ok (str (blockB k o.seed xs s)) W := fun W => by
    rw [show blockB k o.seed xs s = t3 ++ word8 (xsumN o.seed (plainB xs)) by rw [← ht3, ← ht2, ← ht1]; rfl]; exact str_add _ _ (by rw [← ht3]; simp [word8_length]; omega) W
  clear l1 l2 ht1 ht2 hl1 hl2 ht3
  have w2 : xs.length < 2 ^ 64 := by omega
  have w3 : s.length < 2 ^ 64 := by omega
  have W2 := Lib.hid w2; clear w2
  have W3 := Lib.hid w3; clear w3
  go_enter Tryz.func53, Tryz.ntmps53
  go_wp2_with (first | (go_at_call 54; refine (Hp.out _ ?_).mono ?_; (exact (hr.below (balloc (Below.refl _ _) _))); rintro e w1 ⟨rfl, hB1⟩))
  have b1 : Below w.heap.size w w1 := bthen (balloc (Below.refl _ _) _) hB1
  have hb0 := (Blk.new w 27 #[.int .i64 o.block, .int .i64 o.limit, .int .i64 o.log, .int .i64 o.way, .int .u64 (o.seed : Int)]).keep hB1
  have hr1 := (hr.below b1)
  go_region_with (go_at_call 61; refine (vint_Put _ ?_ _).mono ?_; (first | exact W2.out | exact W3.out); rintro e w2 ⟨rfl, hB2⟩; (first | (with_reducible (have hk2 := (Blk.new _ 5 #[.int .u8 (k : Int)]).drew.keep hB2; have cv2 := Hc.out _ _ hk2; try simp only [drew_size] at cv2)) | (with_reducible (have hk2 := (Blk.new _ 5 #[.int .u8 (k : Int)]).keep hB2; have cv2 := Hc.out _ _ hk2)) | (with_reducible (have hk2 := hk2.keep hB2; have cv2 := Hc.out _ _ hk2)) | skip))
  all_goals
    go_wp2
    refine gen_wp (n := w1.heap.size) (w := w1) ?_ (fun W hBW => ?_)
    · repeat (first | exact Below.refl _ _ | refine Below.drew ?_ | refine balloc ?_ _ | refine bthen ?_ (by assumption))
    clear hB2
    have c4 := (hb0.keep hBW).cell 4 (.int .u64 (o.seed : Int)) rfl
    have hrW := (hr1.below hBW)
    have hlt := (hb0.keep hBW).lt
    go_region_with (first | (go_at_call 77; refine (plain_Put _ _ xs _ ?_ (Nat.le_trans hl (by decide))).mono ?_; (exact hrW.drew); rintro e w4 ⟨rfl, hB4⟩; have c4' := ((hb0.keep hBW).drew.keep hB4).cell 4 (.int .u64 (o.seed : Int)) rfl) | (go_at_call 76; refine (xxh_SumN o.seed (plainB xs) ?_ _).mono ?_; (rw [plainB_length]; omega); rintro e w5 ⟨rfl, hB5⟩) | (go_at_call 62; refine (vint_Word _ (xsumN_lt _ _) _).mono ?_; rintro e w6 ⟨rfl, hB6⟩))
    all_goals
      go_wp2
      go_ret2
      exact ⟨rfl, bthen (bthen (bthen (bthen b1 hBW).drew hB4) hB5) hB6⟩
end Go.Proofs.YtaaanoklhiomlaaGreat
