import Derived.Test.YtaaanoklhiomlaaGreatA13
set_option linter.unusedVariables false
set_option linter.unusedSimpArgs false
namespace Go.Proofs.YtaaanoklhiomlaaGreat
open Go.RowKit
open Wr
set_option maxHeartbeats 1000000 in
set_option maxRecDepth 10000 in
theorem cPut_of (o : Opt) (hw : o.way ≤ 3) (A : Option Addr) (c n : Nat) (r : Value) (xs : List Value) (hp : ∀ W, Rd W A xs → Calls Tryz.prog 53 #[.int .i64 o.way, o.val, .slice A n c] W fun e w' => e = .returned (.tuple #[r, .int .i64 0]) ∧ Below W.heap.size W w') (w : World) (hr : Rd w A xs) : Calls Tryz.prog 23 #[o.val, .slice A n c] w fun e w' => e = .returned (.tuple #[r, .int .i64 0]) ∧ Below w.heap.size w w' := by
  unfold Opt.val at hp ⊢
  have Hp := Lib.hid hp; clear hp
  have h4 : (o.way == 4) = false := by simp; omega
  go_enter Tryz.func23, Tryz.ntmps23
  go_wp2_with (first | (go_at_call 53; refine (Hp.out _ ?_).mono ?_; (exact (hr.below (balloc (Below.refl _ _) _))); rintro e w1 ⟨rfl, hB1⟩))
  go_ret2
  exact ⟨rfl, bthen (balloc (Below.refl _ _) _) hB1⟩
end Go.Proofs.YtaaanoklhiomlaaGreat
