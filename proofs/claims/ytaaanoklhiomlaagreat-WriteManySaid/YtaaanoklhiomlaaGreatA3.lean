import Derived.Test.YtaaanoklhiomlaaGreatA2
import Derived.Outline
import Derived.Deep.QuietTactic
import Derived.BigQuiet
set_option linter.unusedVariables false
set_option linter.unusedSimpArgs false
namespace Go.Proofs.YtaaanoklhiomlaaGreat
open Go.RowKit
open Wr
def rotl (x : Int) (k : Nat) : Int := bits .or .u64 (IntKind.u64.wrap (x * ((2 ^ k : Nat) : Int))) (x / ((2 ^ (64 - k) : Nat) : Int))
def XP1 : Int := 11400714785074694791
def XP2 : Int := 14029467366897019727
def XP3 : Int := 1609587929392839161
def XP4 : Int := 9650029242287828579
def XP5 : Int := 2870177450012600261
def xround (a b : Int) : Int := IntKind.u64.wrap (rotl (IntKind.u64.wrap (a + IntKind.u64.wrap (b * XP2))) 31 * XP1)
def xmix (h : Int) : Int :=
  let a := IntKind.u64.wrap (bits .xor .u64 h (h / 8589934592) * XP2)
  let b := IntKind.u64.wrap (bits .xor .u64 a (a / 536870912) * XP3)
  bits .xor .u64 b (b / 4294967296)
set_option maxHeartbeats 1000000 in
set_option maxRecDepth 10000 in
theorem rot_1 (x : Int) (w : World) : Calls Tryz.prog 91 #[.int .u64 x, .int .i64 1] w fun e w' => e = .returned (.int .u64 (rotl x 1)) ∧ w = w' := by
  have hb : bits .and .u64 1 63 = 1 := by decide
  go_enter Tryz.func91, Tryz.ntmps91
  go_wp2
  go_ret
  exact ⟨rfl, rfl⟩
set_option maxHeartbeats 1000000 in
set_option maxRecDepth 10000 in
theorem rot_7 (x : Int) (w : World) : Calls Tryz.prog 91 #[.int .u64 x, .int .i64 7] w fun e w' => e = .returned (.int .u64 (rotl x 7)) ∧ w = w' := by
  have hb : bits .and .u64 7 63 = 7 := by decide
  go_enter Tryz.func91, Tryz.ntmps91
  go_wp2
  go_ret
  exact ⟨rfl, rfl⟩
set_option maxHeartbeats 1000000 in
set_option maxRecDepth 10000 in
theorem rot_11 (x : Int) (w : World) : Calls Tryz.prog 91 #[.int .u64 x, .int .i64 11] w fun e w' => e = .returned (.int .u64 (rotl x 11)) ∧ w = w' := by
  have hb : bits .and .u64 11 63 = 11 := by decide
  go_enter Tryz.func91, Tryz.ntmps91
  go_wp2
  go_ret
  exact ⟨rfl, rfl⟩
set_option maxHeartbeats 1000000 in
set_option maxRecDepth 10000 in
theorem rot_12 (x : Int) (w : World) : Calls Tryz.prog 91 #[.int .u64 x, .int .i64 12] w fun e w' => e = .returned (.int .u64 (rotl x 12)) ∧ w = w' := by
  have hb : bits .and .u64 12 63 = 12 := by decide
  go_enter Tryz.func91, Tryz.ntmps91
  go_wp2
  go_ret
  exact ⟨rfl, rfl⟩
set_option maxHeartbeats 1000000 in
set_option maxRecDepth 10000 in
theorem rot_18 (x : Int) (w : World) : Calls Tryz.prog 91 #[.int .u64 x, .int .i64 18] w fun e w' => e = .returned (.int .u64 (rotl x 18)) ∧ w = w' := by
  have hb : bits .and .u64 18 63 = 18 := by decide
  go_enter Tryz.func91, Tryz.ntmps91
  go_wp2
  go_ret
  exact ⟨rfl, rfl⟩
set_option maxHeartbeats 1000000 in
set_option maxRecDepth 10000 in
theorem rot_23 (x : Int) (w : World) : Calls Tryz.prog 91 #[.int .u64 x, .int .i64 23] w fun e w' => e = .returned (.int .u64 (rotl x 23)) ∧ w = w' := by
  have hb : bits .and .u64 23 63 = 23 := by decide
  go_enter Tryz.func91, Tryz.ntmps91
  go_wp2
  go_ret
  exact ⟨rfl, rfl⟩
set_option maxHeartbeats 1000000 in
set_option maxRecDepth 10000 in
theorem rot_27 (x : Int) (w : World) : Calls Tryz.prog 91 #[.int .u64 x, .int .i64 27] w fun e w' => e = .returned (.int .u64 (rotl x 27)) ∧ w = w' := by
  have hb : bits .and .u64 27 63 = 27 := by decide
  go_enter Tryz.func91, Tryz.ntmps91
  go_wp2
  go_ret
  exact ⟨rfl, rfl⟩
set_option maxHeartbeats 1000000 in
set_option maxRecDepth 10000 in
theorem rot_31 (x : Int) (w : World) : Calls Tryz.prog 91 #[.int .u64 x, .int .i64 31] w fun e w' => e = .returned (.int .u64 (rotl x 31)) ∧ w = w' := by
  have hb : bits .and .u64 31 63 = 31 := by decide
  go_enter Tryz.func91, Tryz.ntmps91
  go_wp2
  go_ret
  exact ⟨rfl, rfl⟩
set_option maxHeartbeats 1000000 in
set_option maxRecDepth 10000 in
theorem xround_any (a b : Int) (w : World) : Calls Tryz.prog 92 #[.int .u64 a, .int .u64 b] w fun e w' => e = .returned (.int .u64 (xround a b)) ∧ w = w' := by
  go_enter Tryz.func92, Tryz.ntmps92
  go_wp2_with (first | (go_at_call 91; refine (rot_31 _ _).mono ?_; rintro e w' ⟨rfl, rfl⟩))
  go_ret
  exact ⟨rfl, rfl⟩
set_option maxHeartbeats 1000000 in
set_option maxRecDepth 10000 in
theorem xmix_any (a : Nat) (w : World) : Calls Tryz.prog 93 #[.int .u64 a] w fun e w' => e = .returned (.int .u64 (xmix a)) ∧ w = w' := by
  go_enter Tryz.func93, Tryz.ntmps93
  go_wp2
  go_ret
  exact ⟨rfl, rfl⟩

def xt8 (h : Int) (n : Nat) : Int := IntKind.u64.wrap (IntKind.u64.wrap (rotl (bits .xor .u64 h (xround 0 n)) 27 * XP1) + XP4)
def xt4 (h : Int) (n : Nat) : Int := IntKind.u64.wrap (IntKind.u64.wrap (rotl (bits .xor .u64 h (IntKind.u64.wrap ((n : Int) * XP1))) 23 * XP2) + XP3)
def xt1 (h : Int) (b : UInt8) : Int := IntKind.u64.wrap (rotl (bits .xor .u64 h (IntKind.u64.wrap (IntKind.u64.wrap (b.toNat : Int) * XP5))) 11 * XP1)
def xtail4 (h : Int) : Bs → Int
  | b0 :: b1 :: b2 :: b3 :: rest => rest.foldl xt1 (xt4 h (leNum [b0, b1, b2, b3]))
  | l => l.foldl xt1 h
def xtail (h : Int) : Bs → Int
  | b0 :: b1 :: b2 :: b3 :: b4 :: b5 :: b6 :: b7 :: rest => xtail (xt8 h (leNum [b0, b1, b2, b3, b4, b5, b6, b7])) rest
  | l => xtail4 h l
theorem xtail_few (h : Int) (l : Bs) (hl : l.length < 8) : xtail h l = xtail4 h l := by
  match l, hl with
  | [], _ => rfl
  | [_], _ => rfl
  | [_, _], _ => rfl
  | [_, _, _], _ => rfl
  | [_, _, _, _], _ => rfl
  | [_, _, _, _, _], _ => rfl
  | [_, _, _, _, _, _], _ => rfl
  | [_, _, _, _, _, _, _], _ => rfl
theorem xtail_more (h : Int) (l : Bs) (hl : 8 ≤ l.length) : xtail h l = xtail (xt8 h (leNum ((l.drop 0).take 8))) (l.drop 8) := by
  match l, hl with
  | b0 :: b1 :: b2 :: b3 :: b4 :: b5 :: b6 :: b7 :: rest, _ => rfl
theorem fold_take {α β : Type} (f : β → α → β) (a : β) (l : List α) (k : Nat) (c : α) (h : l[k]? = some c) : (l.take (k + 1)).foldl f a = f ((l.take k).foldl f a) c := by
  rw [List.take_add_one, h, List.foldl_append]; rfl
theorem xtail4_few (h : Int) (l : Bs) (hl : l.length < 4) : xtail4 h l = l.foldl xt1 h := by
  match l, hl with
  | [], _ => rfl
  | [_], _ => rfl
  | [_, _], _ => rfl
  | [_, _, _], _ => rfl
theorem or32 (b0 b1 b2 b3 : UInt8) :
    bits .or .u64 (bits .or .u64 (bits .or .u64 (IntKind.u64.wrap (b0.toNat : Int)) (IntKind.u64.wrap (IntKind.u64.wrap (b1.toNat : Int) * 256))) (IntKind.u64.wrap (IntKind.u64.wrap (b2.toNat : Int) * 65536))) (IntKind.u64.wrap (IntKind.u64.wrap (b3.toNat : Int) * 16777216))
      = ((leNum [b0, b1, b2, b3] : Nat) : Int) := by
  have h0 := b0.toNat_lt; have h1 := b1.toNat_lt; have h2 := b2.toNat_lt; have h3 := b3.toNat_lt
  have e0 : IntKind.u64.wrap (b0.toNat : Int) = ((b0.toNat : Nat) : Int) := by rw [IntKind.wrap_u64]; omega
  rw [e0]
  have s1 := or_step b0.toNat b1 8 (by omega) (by omega); rw [show ((2 ^ 8 : Nat) : Int) = 256 from rfl] at s1; rw [s1]
  have s2 := or_step (b0.toNat + b1.toNat * 2 ^ 8) b2 16 (by omega) (by omega); rw [show ((2 ^ 16 : Nat) : Int) = 65536 from rfl] at s2; rw [s2]
  have s3 := or_step _ b3 24 (show b0.toNat + b1.toNat * 2 ^ 8 + b2.toNat * 2 ^ 16 < _ by omega) (by omega); rw [show ((2 ^ 24 : Nat) : Int) = 16777216 from rfl] at s3; rw [s3]
  congr 1
  simp only [leNum]
  omega
set_option maxHeartbeats 1000000 in
set_option maxRecDepth 10000 in
theorem xxh_tail (h : Int) (bs : Bs) (hl : bs.length ≤ 140737488355328) (w : World) : Calls Tryz.prog 107 #[.int .u64 h, str bs] w fun e w' => e = .returned (.int .u64 (xtail h bs)) ∧ Below w.heap.size w w' := by
  unfold str
  go_enter Tryz.func107, Tryz.ntmps107
  go_wp2
  go_loopw [0, 1] (fun x s wr => ∃ (h' : Int) (l : Bs), x = .int .u64 h' ∧ s = .string ⟨l.toArray⟩ ∧ l.length ≤ bs.length ∧ xtail h' l = xtail h bs ∧ Below w.heap.size w wr) (fun _ s _ => vlen s)
  case atStart => exact ⟨h, bs, rfl, rfl, Nat.le_refl _, rfl, Below.refl _ _⟩
  case round =>
    obtain ⟨h', l, rfl, rfl, hll, hx, hB⟩ := hrel
    have Hx := Lib.hid hx; clear hx
    by_cases h8 : 8 ≤ l.length
    · go_wp2_with (first | (go_at_call 121; refine (GetWord_ok l 0 _ (by omega) (by omega)).mono ?_; rintro e w1 ⟨rfl, hB1⟩) | (go_at_call 91; refine (rot_27 _ _).mono ?_; rintro e w2 ⟨rfl, rfl⟩) | (go_at_call 92; refine (xround_any _ _ _).mono ?_; rintro e w2 ⟨rfl, rfl⟩))
      refine ⟨⟨_, l.drop 8, rfl, by rw [ext_drop], by simp; omega, by rw [← Hx.out, xtail_more h' l h8]; rfl, bthen hB hB1⟩, ?_⟩
      rw [ext_drop]
      simp [vlen, ByteArray.size]; omega
    · by_cases h4 : 4 ≤ l.length
      · obtain ⟨b0, b1, b2, b3, rest, hd⟩ : ∃ b0 b1 b2 b3 rest, l = b0 :: b1 :: b2 :: b3 :: rest := by
          match l, h4 with
          | b0 :: b1 :: b2 :: b3 :: rest, _ => exact ⟨b0, b1, b2, b3, rest, rfl⟩
        have hr : rest.length < 4 := by rw [hd] at h8; simp at h8; omega
        have Hd := Lib.hid hd; clear hd
        have r0 := idx l 0 b0 (by omega) (by rw [Hd.out]; rfl)
        have r1 := idx l 1 b1 (by omega) (by rw [Hd.out]; rfl)
        have r2 := idx l 2 b2 (by omega) (by rw [Hd.out]; rfl)
        have r3 := idx l 3 b3 (by omega) (by rw [Hd.out]; rfl)
        go_wp2
        go_quiet (fail)
        have hcv := conv_b rest
        have hex : ByteArray.extract ⟨l.toArray⟩ 4 l.length = ⟨rest.toArray⟩ := by rw [ext_drop, Hd.out]; rfl
        go_wp2_with (first | (go_at_call 91; refine (rot_23 _ _).mono ?_; rintro e w2 ⟨rfl, rfl⟩))

        go_loop [0, 62] (fun x i => ∃ k : Nat, k ≤ rest.length ∧ i = .int .i64 k ∧ x = .int .u64 (List.foldl xt1 (xt4 h' (leNum [b0, b1, b2, b3])) (rest.take k))) (fun _ i => rest.length - (intOf i).toNat)
        case atStart => exact ⟨0, Nat.zero_le _, rfl, by rw [or32]; rfl⟩
        case round =>
          obtain ⟨k, hk, rfl, rfl⟩ := hrel
          by_cases hlt : k < rest.length
          · have hgk : rest[k]? = some rest[k] := List.getElem?_eq_getElem hlt
            have hck : (Lib.bytesWorld (wr.drewN nq) 5 ⟨rest.toArray⟩).cell? ⟨wr.heap.size, k, none⟩ = _ := bw_cell rest (wr.drewN nq) k rest[k] hgk
            have Hg := Lib.hid hgk; clear hgk
            generalize rest[k] = ck at hck Hg
            go_wp2_with (first | (go_at_call 91; refine (rot_11 _ _).mono ?_; rintro e w2 ⟨rfl, rfl⟩))
            go_round
            case rel => exact ⟨k + 1, by omega, by go_num, by rw [fold_take _ _ _ _ _ Hg.out]; rfl⟩
            case measure => simp [intOf]; omega
          · obtain rfl : k = rest.length := by omega
            go_wp2
            go_ret
            exact ⟨congrArg (fun x => Ending.returned (.int .u64 x)) (by rw [← Hx.out, xtail_few _ _ (by omega)]; rw [Hd.out]; rfl), bw_below (below_drewN hB _) hB.size _⟩
      · obtain ⟨rest, hd⟩ : ∃ rest, rest = l := ⟨_, rfl⟩
        subst hd
        have hcv := conv_b rest
        go_wp2
        go_loop [0, 62] (fun x i => ∃ k : Nat, k ≤ rest.length ∧ i = .int .i64 k ∧ x = .int .u64 (List.foldl xt1 (h') (rest.take k))) (fun _ i => rest.length - (intOf i).toNat)
        case atStart => exact ⟨0, Nat.zero_le _, rfl, rfl⟩
        case round =>
          obtain ⟨k, hk, rfl, rfl⟩ := hrel
          by_cases hlt : k < rest.length
          · have hgk : rest[k]? = some rest[k] := List.getElem?_eq_getElem hlt
            have hck := bw_cell rest wr k rest[k] hgk
            have Hg := Lib.hid hgk; clear hgk
            generalize rest[k] = ck at hck Hg
            go_wp2_with (first | (go_at_call 91; refine (rot_11 _ _).mono ?_; rintro e w2 ⟨rfl, rfl⟩))
            go_round
            case rel => exact ⟨k + 1, by omega, by go_num, by rw [fold_take _ _ _ _ _ Hg.out]; rfl⟩
            case measure => simp [intOf]; omega
          · obtain rfl : k = rest.length := by omega
            go_wp2
            go_ret
            exact ⟨congrArg (fun x => Ending.returned (.int .u64 x)) (by rw [← Hx.out, xtail_few _ _ (by omega)]; exact (xtail4_few _ _ (by omega)).symm), bw_below hB hB.size _⟩

set_option maxHeartbeats 1000000 in
set_option maxRecDepth 10000 in
theorem state_tail (h : Int) (bs : Bs) (hl : bs.length ≤ 140737488355328) (w : World) : Calls Tryz.prog 94 #[.int .u64 h, str bs] w fun e w' => e = .returned (.int .u64 (xtail h bs)) ∧ Below w.heap.size w w' := by
  unfold str
  go_enter Tryz.func94, Tryz.ntmps94
  go_wp2
  go_loopw [0, 1] (fun x s wr => ∃ (h' : Int) (l : Bs), x = .int .u64 h' ∧ s = .string ⟨l.toArray⟩ ∧ l.length ≤ bs.length ∧ xtail h' l = xtail h bs ∧ Below w.heap.size w wr) (fun _ s _ => vlen s)
  case atStart => exact ⟨h, bs, rfl, rfl, Nat.le_refl _, rfl, Below.refl _ _⟩
  case round =>
    obtain ⟨h', l, rfl, rfl, hll, hx, hB⟩ := hrel
    have Hx := Lib.hid hx; clear hx
    by_cases h8 : 8 ≤ l.length
    · go_wp2_with (first | (go_at_call 121; refine (GetWord_ok l 0 _ (by omega) (by omega)).mono ?_; rintro e w1 ⟨rfl, hB1⟩) | (go_at_call 91; refine (rot_27 _ _).mono ?_; rintro e w2 ⟨rfl, rfl⟩) | (go_at_call 92; refine (xround_any _ _ _).mono ?_; rintro e w2 ⟨rfl, rfl⟩))
      refine ⟨⟨_, l.drop 8, rfl, by rw [ext_drop], by simp; omega, by rw [← Hx.out, xtail_more h' l h8]; rfl, bthen hB hB1⟩, ?_⟩
      rw [ext_drop]
      simp [vlen, ByteArray.size]; omega
    · by_cases h4 : 4 ≤ l.length
      · obtain ⟨b0, b1, b2, b3, rest, hd⟩ : ∃ b0 b1 b2 b3 rest, l = b0 :: b1 :: b2 :: b3 :: rest := by
          match l, h4 with
          | b0 :: b1 :: b2 :: b3 :: rest, _ => exact ⟨b0, b1, b2, b3, rest, rfl⟩
        have hr : rest.length < 4 := by rw [hd] at h8; simp at h8; omega
        have Hd := Lib.hid hd; clear hd
        have r0 := idx l 0 b0 (by omega) (by rw [Hd.out]; rfl)
        have r1 := idx l 1 b1 (by omega) (by rw [Hd.out]; rfl)
        have r2 := idx l 2 b2 (by omega) (by rw [Hd.out]; rfl)
        have r3 := idx l 3 b3 (by omega) (by rw [Hd.out]; rfl)
        go_wp2
        go_quiet (fail)
        have hcv := conv_b rest
        have hex : ByteArray.extract ⟨l.toArray⟩ 4 l.length = ⟨rest.toArray⟩ := by rw [ext_drop, Hd.out]; rfl
        go_wp2_with (first | (go_at_call 91; refine (rot_23 _ _).mono ?_; rintro e w2 ⟨rfl, rfl⟩))

        go_loop [0, 62] (fun x i => ∃ k : Nat, k ≤ rest.length ∧ i = .int .i64 k ∧ x = .int .u64 (List.foldl xt1 (xt4 h' (leNum [b0, b1, b2, b3])) (rest.take k))) (fun _ i => rest.length - (intOf i).toNat)
        case atStart => exact ⟨0, Nat.zero_le _, rfl, by rw [or32]; rfl⟩
        case round =>
          obtain ⟨k, hk, rfl, rfl⟩ := hrel
          by_cases hlt : k < rest.length
          · have hgk : rest[k]? = some rest[k] := List.getElem?_eq_getElem hlt
            have hck : (Lib.bytesWorld (wr.drewN nq) 5 ⟨rest.toArray⟩).cell? ⟨wr.heap.size, k, none⟩ = _ := bw_cell rest (wr.drewN nq) k rest[k] hgk
            have Hg := Lib.hid hgk; clear hgk
            generalize rest[k] = ck at hck Hg
            go_wp2_with (first | (go_at_call 91; refine (rot_11 _ _).mono ?_; rintro e w2 ⟨rfl, rfl⟩))
            go_round
            case rel => exact ⟨k + 1, by omega, by go_num, by rw [fold_take _ _ _ _ _ Hg.out]; rfl⟩
            case measure => simp [intOf]; omega
          · obtain rfl : k = rest.length := by omega
            go_wp2
            go_ret
            exact ⟨congrArg (fun x => Ending.returned (.int .u64 x)) (by rw [← Hx.out, xtail_few _ _ (by omega)]; rw [Hd.out]; rfl), bw_below (below_drewN hB _) hB.size _⟩
      · obtain ⟨rest, hd⟩ : ∃ rest, rest = l := ⟨_, rfl⟩
        subst hd
        have hcv := conv_b rest
        go_wp2
        go_loop [0, 62] (fun x i => ∃ k : Nat, k ≤ rest.length ∧ i = .int .i64 k ∧ x = .int .u64 (List.foldl xt1 (h') (rest.take k))) (fun _ i => rest.length - (intOf i).toNat)
        case atStart => exact ⟨0, Nat.zero_le _, rfl, rfl⟩
        case round =>
          obtain ⟨k, hk, rfl, rfl⟩ := hrel
          by_cases hlt : k < rest.length
          · have hgk : rest[k]? = some rest[k] := List.getElem?_eq_getElem hlt
            have hck := bw_cell rest wr k rest[k] hgk
            have Hg := Lib.hid hgk; clear hgk
            generalize rest[k] = ck at hck Hg
            go_wp2_with (first | (go_at_call 91; refine (rot_11 _ _).mono ?_; rintro e w2 ⟨rfl, rfl⟩))
            go_round
            case rel => exact ⟨k + 1, by omega, by go_num, by rw [fold_take _ _ _ _ _ Hg.out]; rfl⟩
            case measure => simp [intOf]; omega
          · obtain rfl : k = rest.length := by omega
            go_wp2
            go_ret
            exact ⟨congrArg (fun x => Ending.returned (.int .u64 x)) (by rw [← Hx.out, xtail_few _ _ (by omega)]; exact (xtail4_few _ _ (by omega)).symm), bw_below hB hB.size _⟩

end Go.Proofs.YtaaanoklhiomlaaGreat
