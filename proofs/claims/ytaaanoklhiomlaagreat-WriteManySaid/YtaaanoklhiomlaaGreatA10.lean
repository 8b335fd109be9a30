import Derived.Test.YtaaanoklhiomlaaGreatA9
set_option linter.unusedVariables false
set_option linter.unusedSimpArgs false
namespace Go.Proofs.YtaaanoklhiomlaaGreat
open Go.RowKit
open Wr
structure Opt where
  block : Int
  limit : Int
  log : Int
  way : Int
  seed : Nat
def Opt.val (o : Opt) : Value := .agg #[.int .i64 o.block, .int .i64 o.limit, .int .i64 o.log, .int .i64 o.way, .int .u64 (o.seed : Int)]
structure Opt.Ok (o : Opt) : Prop where
  b1 : 1 ≤ o.block
  b2 : o.block ≤ 4096
  l1 : 7 ≤ o.limit
  l2 : o.limit ≤ 15
  g1 : 7 ≤ o.log
  g2 : o.log ≤ 12
  w1 : 0 ≤ o.way
  w2 : o.way ≤ 4
set_option maxHeartbeats 1000000 in
set_option maxRecDepth 10000 in
theorem May_yes (o : Opt) (h : o.Ok) (w : World) : Calls Tryz.prog 56 #[o.val] w fun e w' => e = .returned (.bool true) ∧ Below w.heap.size w w' := by
  obtain ⟨b1, b2, l1, l2, g1, g2, w1, w2⟩ := h
  unfold Opt.val
  go_enter Tryz.func56, Tryz.ntmps56
  go_wp2
  go_ret
  exact ⟨rfl, (Below.refl _ _).alloc (Nat.le_refl _) _⟩
theorem bad_opt (o : Opt) (h : ¬ o.Ok) : o.block < 1 ∨ (1 ≤ o.block ∧ 4096 < o.block) ∨ (1 ≤ o.block ∧ o.block ≤ 4096 ∧ o.limit < 7) ∨ (1 ≤ o.block ∧ o.block ≤ 4096 ∧ 7 ≤ o.limit ∧ 15 < o.limit)
    ∨ (1 ≤ o.block ∧ o.block ≤ 4096 ∧ 7 ≤ o.limit ∧ o.limit ≤ 15 ∧ o.log < 7) ∨ (1 ≤ o.block ∧ o.block ≤ 4096 ∧ 7 ≤ o.limit ∧ o.limit ≤ 15 ∧ 7 ≤ o.log ∧ 12 < o.log)
    ∨ (1 ≤ o.block ∧ o.block ≤ 4096 ∧ 7 ≤ o.limit ∧ o.limit ≤ 15 ∧ 7 ≤ o.log ∧ o.log ≤ 12 ∧ o.way < 0) ∨ (1 ≤ o.block ∧ o.block ≤ 4096 ∧ 7 ≤ o.limit ∧ o.limit ≤ 15 ∧ 7 ≤ o.log ∧ o.log ≤ 12 ∧ 0 ≤ o.way ∧ 4 < o.way) := by
  have h' : ¬ (1 ≤ o.block ∧ o.block ≤ 4096 ∧ 7 ≤ o.limit ∧ o.limit ≤ 15 ∧ 7 ≤ o.log ∧ o.log ≤ 12 ∧ 0 ≤ o.way ∧ o.way ≤ 4) := fun ⟨a, b, c, d, e, f, g, i⟩ => h ⟨a, b, c, d, e, f, g, i⟩
  omega
set_option maxHeartbeats 4000000 in
set_option maxRecDepth 10000 in
theorem May_no (o : Opt) (h : ¬ o.Ok) (w : World) : Calls Tryz.prog 56 #[o.val] w fun e w' => e = .returned (.bool false) ∧ Below w.heap.size w w' := by
  unfold Opt.val
  rcases bad_opt o h with h | ⟨h1, h⟩ | ⟨h1, h2, h⟩ | ⟨h1, h2, h3, h⟩ | ⟨h1, h2, h3, h4, h⟩ | ⟨h1, h2, h3, h4, h5, h⟩ | ⟨h1, h2, h3, h4, h5, h6, h⟩ | ⟨h1, h2, h3, h4, h5, h6, h7, h⟩
  all_goals
    go_enter Tryz.func56, Tryz.ntmps56
    go_wp2
    go_ret
    first | exact ⟨rfl, (Below.refl _ _).alloc (Nat.le_refl _) _⟩ | exact ⟨congrArg (fun b => Ending.returned (.bool b)) (decide_eq_false (by omega)), (Below.refl _ _).alloc (Nat.le_refl _) _⟩
end Go.Proofs.YtaaanoklhiomlaaGreat
