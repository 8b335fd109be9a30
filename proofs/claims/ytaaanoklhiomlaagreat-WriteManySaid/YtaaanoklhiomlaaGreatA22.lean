import Derived.Test.YtaaanoklhiomlaaGreatA21
import Derived.Test.YtaaanoklhiomlaaGreatR3
import Derived.Outline
set_option linter.unusedVariables false
set_option linter.unusedSimpArgs false
namespace Go.Proofs.YtaaanoklhiomlaaGreat
open Go.RowKit
open Wr
/-- a string's text is one with itself. -/
theorem str_eq (a : Bs) (W : World) : (binOp .eql 9 (str a) (str a)).run Tryz.prog W = .ok (.bool true) W := by
  unfold str
  go_simp
theorem eqGuard_str (s t : Bs) (W : World) : (eqGuard .eql 9 (.tmp 25) (.tmp 28) (str s) (str t)).run Tryz.prog W = .ok () W := by
  unfold str
  go_simp
/-- the end of a writer that has nothing that is not told. -/
theorem Close_told {w : World} {g : Nat} {F : Nat → Prop} {o : Opt} {outB : Bs} {p : Option Addr} {out l : Value} {s : Nat} {v : Value} {xs : List Int} (hI : WI w g F o outB xs [] xs.length false p out l s v) (hlen : outB.length ≤ 10000000000000) (hx : xs.length ≤ 65536) :
    Calls Tryz.prog 30 #[.pointer (some ⟨g, 0, none⟩)] w fun e w' => e = .returned (.int .i64 0) ∧ ∃ p' out' l' v', WI w' g (fun i => F i ∨ w.heap.size ≤ i) o (outB ++ endB o xs) xs [] xs.length true p' out' l' s v' ∧ Keep F w w' :=
  Close_some hI ((flush_none hI).mono fun e w' ⟨he, hw⟩ => ⟨he, p, out, l, v, by rw [← hw]; exact hI, by rw [← hw]; exact Keep.refl _ _⟩) (fun _ _ h => h) hlen hx
theorem headB_len (o : Opt) (h : o.Ok) : (headB o).length ≤ 26 ∧ headB o ≠ [] := by
  have := vput_len 9 o.block.toNat (by have := h.b2; omega)
  exact ⟨by simp [headB, word8_length]; omega, by simp [headB]⟩
set_option maxHeartbeats 4000000 in
set_option maxRecDepth 10000 in
theorem awake25 (w : World) : Calls Tryz.prog 29 #[] w fun e w' => e = .returned (.bool true) ∧ Below w.heap.size w w' := by
  have ho : ∀ W, Calls Tryz.prog 21 #[.int .u8 3, .int .u8 2, .int .u8 0, .int .u8 4, .int .u64 7] W fun e w' => e = .returned (.agg #[.int .i64 4, .int .i64 9, .int .i64 7, .int .i64 4, .int .u64 7]) ∧ Below W.heap.size W w' := fun W => law_Options 3 2 0 4 7 (by omega) (by omega) (by omega) (by omega) W
  have hn : ∀ W, Calls Tryz.prog 27 #[.agg #[.int .i64 4, .int .i64 9, .int .i64 7, .int .i64 4, .int .u64 7]] W fun e w' => ∃ g s v, e = .returned (.tuple #[.pointer (some ⟨g, 0, none⟩), .int .i64 0]) ∧ W.heap.size ≤ g ∧ WI w' g (fun i => W.heap.size ≤ i) o1 (headB o1) [] [] 0 false (some ⟨g, 5, none⟩) v (.slice none 0 0) s (.slice none 0 0) ∧ Below W.heap.size W w' := fun W => New_WI o1 o1_ok (by decide) W
  have hp : ∀ W, Calls Tryz.prog 39 #[.agg #[.int .i64 4, .int .i64 9, .int .i64 7, .int .i64 4, .int .u64 7], .slice none 0 0] W fun e w' => e = .returned (.agg #[str (headB o1 ++ endB o1 []), .int .i64 0]) ∧ Below W.heap.size W w' := fun W => ref_PutFrame_nil o1 o1_ok (by decide) W
  have se := str_eq (headB o1 ++ endB o1 [])
  have hge := fun W => eqGuard_str (headB o1 ++ endB o1 []) (headB o1 ++ endB o1 []) W
  have hfd : ∀ (W : World) (t : Bs), (Instr.field 65 (.agg #[str t, .int .i64 0]) 0).run Tryz.prog W = .ok (str t) W := fun _ _ => by kernel_rfl
  have Ho := Lib.hid ho; clear ho
  have Hn := Lib.hid hn; clear hn
  have Hp := Lib.hid hp; clear hp
  go_enter Tryz.func29, Tryz.ntmps29
  go_wp2_with (first | (go_at_call 21; refine (Ho.out _).mono ?_; rintro e w1 ⟨rfl, hB1⟩) | (go_at_call 27; refine (Hn.out _).mono ?_; rintro e w2 ⟨g, s, v, rfl, hg, hI, hB2⟩) | (go_at_call 25; refine (law_Err _ _).mono ?_; rintro e w3 ⟨rfl, rfl⟩) | (go_at_call 30; refine (Close_told (xs := []) hI (by have := (headB_len o1 o1_ok).1; omega) (by simp)).mono ?_; rintro e w4 ⟨rfl, p4, out4, l4, v4, hI4, hK4⟩))
  have hob : Blk w2 w1.heap.size 27 #[.int .i64 4, .int .i64 9, .int .i64 7, .int .i64 4, .int .u64 7] := (Blk.new w1 27 #[.int .i64 4, .int .i64 9, .int .i64 7, .int .i64 4, .int .u64 7]).keep hB2
  have hob4 := hK4.blk hob (by simp)
  have hlt := hob4.lt
  have c0 := hob4.cell 0 (.int .i64 4) rfl; have c1 := hob4.cell 1 (.int .i64 9) rfl; have c2 := hob4.cell 2 (.int .i64 7) rfl; have c3 := hob4.cell 3 (.int .i64 4) rfl; have c4 := hob4.cell 4 (.int .u64 7) rfl
  have hne : headB o1 ++ endB o1 [] ≠ [] := by simp [endB]
  go_region_with (first | (go_at_call 25; refine (law_Err _ _).mono ?_; rintro e w5 ⟨rfl, rfl⟩) | (go_at_call 34; refine (Out_some (hI4.keep (Keep.refl (fun _ => False) _).drew (fun _ _ e => e)) hne).mono ?_; rintro e w5 ⟨rfl, hI5, hK5⟩; have hob5 := hK5.blk hob4.drew (by have := hob.lt; simp; omega); have lt5 := hob5.lt; have d0 := hob5.cell 0 (.int .i64 4) rfl; have d1 := hob5.cell 1 (.int .i64 9) rfl; have d2 := hob5.cell 2 (.int .i64 7) rfl; have d3 := hob5.cell 3 (.int .i64 4) rfl; have d4 := hob5.cell 4 (.int .u64 7) rfl) | (go_at_call 39; refine (Hp.out _).mono ?_; rintro e w6 ⟨rfl, hB6⟩))
  all_goals
    go_wp2
    go_ret
    have b1 : Below w.heap.size w w1 := hB1
    have b2 : Below w.heap.size w w2 := bthen (balloc b1 _) hB2
    have z1 := hB1.size
    have z2 : w1.heap.size + 1 ≤ w2.heap.size := by have := hB2.size; simpa using this
    have b4 : Below w.heap.size w w4 := b2.trans (hK4.below (fun i h => by simp at h; omega) (by omega))
    have z4 := hK4.size
    have hZ : ∀ i, ((w1.alloc (.cells #[.int .i64 4, .int .i64 9, .int .i64 7, .int .i64 4, .int .u64 7] 27)).heap.size ≤ i ∨ w2.heap.size ≤ i) → w.heap.size ≤ i := fun i h => by
      rcases h with h | h
      · simp at h; omega
      · omega
    have b5 : Below w.heap.size w w5 := (b4.drew).trans (hK5.below hZ (by have := b4.size; simp; omega))
    first | exact ⟨rfl, bthen b5 hB6⟩ | exact ⟨rfl, bthen b5.drew hB6⟩
end Go.Proofs.YtaaanoklhiomlaaGreat
