import Derived.Test.YtaaanoklhiomlaaGreatA12
set_option linter.unusedVariables false
set_option linter.unusedSimpArgs false
namespace Go.Proofs.YtaaanoklhiomlaaGreat
open Go.RowKit
open Wr
def Opt.cells (o : Opt) : List Value := [.int .i64 o.block, .int .i64 o.limit, .int .i64 o.log, .int .i64 o.way, .int .u64 (o.seed : Int)]
def ldr (o : Opt) (l : Value) : Value := .agg #[.int .i64 o.block, .int .i64 o.limit, .int .i64 o.log, .int .i64 o.way, .int .u64 (o.seed : Int), l]
set_option maxHeartbeats 1000000 in
set_option maxRecDepth 10000 in
theorem loader_plain (o : Opt) (A : Option Addr) (c : Nat) (xs : List Int) (w : World) (hr : Rd w A (i64s xs)) (hl : xs.length ≤ 1000000) : Calls Tryz.prog 84 #[ldr o (.slice A xs.length c)] w fun e w' => e = .returned (.tuple #[str (plainB xs), .int .i64 0]) ∧ Below w.heap.size w w' := by
  have h := fun W hr => plain_Put A c xs W hr hl
  have H := Lib.hid h; clear h
  clear hl
  unfold ldr
  go_enter Tryz.func84, Tryz.ntmps84
  go_wp2_with (go_at_call 77; refine (H.out _ (hr.below (Below.alloc (Below.refl _ _) (Nat.le_refl _) _))).mono ?_; rintro e w1 ⟨rfl, hB1⟩)
  go_ret2
  exact ⟨rfl, bthen (balloc (Below.refl _ _) _) hB1⟩
theorem in_yes (n a b : Int) (h0 : a ≤ n) (h3 : n ≤ b) (w : World) : Calls Tryz.prog 83 #[.int .i64 n, .int .i64 a, .int .i64 b] w fun e w' => e = .returned (.bool true) ∧ w = w' := by
  go_enter Tryz.func83, Tryz.ntmps83
  go_wp2
  go_ret
  exact ⟨rfl, rfl⟩
theorem isWay_yes (n : Int) (h0 : 0 ≤ n) (h3 : n ≤ 3) (w : World) : Calls Tryz.prog 82 #[.int .i64 n] w fun e w' => e = .returned (.bool true) ∧ w = w' := by
  go_enter Tryz.func82, Tryz.ntmps82
  go_wp2
  go_ret
  exact ⟨rfl, rfl⟩
set_option maxHeartbeats 1000000 in
set_option maxRecDepth 10000 in
theorem Load_of0 (o : Opt) (h : o.Ok) (A : Option Addr) (c : Nat) (xs : List Int) (s : Bs) (en : Int) (hp : ∀ W, Rd W A (i64s xs) → Calls Tryz.prog 84 #[ldr o (.slice A xs.length c)] W fun e w' => e = .returned (.tuple #[str s, .int .i64 en]) ∧ Below W.heap.size W w') (w : World) (hr : Rd w A (i64s xs)) (h1 : 1 ≤ xs.length) (hl : xs.length ≤ 4096) : Calls Tryz.prog 54 #[.int .i64 0, o.val, .slice A xs.length c] w fun e w' => e = .returned (.tuple #[str s, .int .i64 en]) ∧ Below w.heap.size w w' := by
  have hm := fun w => May_yes o h w
  unfold ldr at hp
  unfold Opt.val at hm ⊢
  have Hm := Lib.hid hm; clear hm
  have Hp := Lib.hid hp; clear hp
  have sf : ∀ (W : World) (a : Addr) (n : Nat), (store a (.func (.func n) #[] #[])).run Tryz.prog W = stored Tryz.prog W a (.func (.func n) #[] #[]) _ := fun W a n => run_store Tryz.prog W a _ _ rfl
  go_enter Tryz.func54, Tryz.ntmps54
  go_wp2_with (first | (go_at_call 56; refine (Hm.out _).mono ?_; rintro e w1 ⟨rfl, hB1⟩) | (go_at_call 82; refine (isWay_yes _ (by omega) (by omega) _).mono ?_; rintro e w2 ⟨rfl, rfl⟩) | (go_at_call 83; refine (in_yes _ _ _ (by omega) (by omega) _).mono ?_; rintro e w2 ⟨rfl, rfl⟩))
  have hb0 := (Blk.new w 27 #[.int .i64 o.block, .int .i64 o.limit, .int .i64 o.log, .int .i64 o.way, .int .u64 (o.seed : Int)]).keep hB1
  have c0 := hb0.cell 0 (.int .i64 o.block) rfl
  have c1 := hb0.cell 1 (.int .i64 o.limit) rfl
  have c2 := hb0.cell 2 (.int .i64 o.log) rfl
  have c3 := hb0.cell 3 (.int .i64 o.way) rfl
  have c4 := hb0.cell 4 (.int .u64 (o.seed : Int)) rfl
  have hlt := hb0.lt
  have b1 : Below w.heap.size w w1 := bthen (balloc (Below.refl _ _) _) hB1
  have hr1 := (hr.below b1)
  clear hb0
  go_region_with (go_at_call 84; refine (Hp.out _ ?_).mono ?_; (exact (hr1.below (balloc (Below.refl _ _) _)).drew); rintro e w2 ⟨rfl, hB2⟩)
  all_goals
    go_wp2
    go_ret2
    exact ⟨rfl, bthen (balloc b1 _).drew hB2⟩
set_option maxHeartbeats 1000000 in
set_option maxRecDepth 10000 in
theorem Load_of1 (o : Opt) (h : o.Ok) (A : Option Addr) (c : Nat) (xs : List Int) (s : Bs) (en : Int) (hp : ∀ W, Rd W A (i64s xs) → Calls Tryz.prog 85 #[ldr o (.slice A xs.length c)] W fun e w' => e = .returned (.tuple #[str s, .int .i64 en]) ∧ Below W.heap.size W w') (w : World) (hr : Rd w A (i64s xs)) (h1 : 1 ≤ xs.length) (hl : xs.length ≤ 4096) : Calls Tryz.prog 54 #[.int .i64 1, o.val, .slice A xs.length c] w fun e w' => e = .returned (.tuple #[str s, .int .i64 en]) ∧ Below w.heap.size w w' := by
  have hm := fun w => May_yes o h w
  unfold ldr at hp
  unfold Opt.val at hm ⊢
  have Hm := Lib.hid hm; clear hm
  have Hp := Lib.hid hp; clear hp
  have sf : ∀ (W : World) (a : Addr) (n : Nat), (store a (.func (.func n) #[] #[])).run Tryz.prog W = stored Tryz.prog W a (.func (.func n) #[] #[]) _ := fun W a n => run_store Tryz.prog W a _ _ rfl
  go_enter Tryz.func54, Tryz.ntmps54
  go_wp2_with (first | (go_at_call 56; refine (Hm.out _).mono ?_; rintro e w1 ⟨rfl, hB1⟩) | (go_at_call 82; refine (isWay_yes _ (by omega) (by omega) _).mono ?_; rintro e w2 ⟨rfl, rfl⟩) | (go_at_call 83; refine (in_yes _ _ _ (by omega) (by omega) _).mono ?_; rintro e w2 ⟨rfl, rfl⟩))
  have hb0 := (Blk.new w 27 #[.int .i64 o.block, .int .i64 o.limit, .int .i64 o.log, .int .i64 o.way, .int .u64 (o.seed : Int)]).keep hB1
  have c0 := hb0.cell 0 (.int .i64 o.block) rfl
  have c1 := hb0.cell 1 (.int .i64 o.limit) rfl
  have c2 := hb0.cell 2 (.int .i64 o.log) rfl
  have c3 := hb0.cell 3 (.int .i64 o.way) rfl
  have c4 := hb0.cell 4 (.int .u64 (o.seed : Int)) rfl
  have hlt := hb0.lt
  have b1 : Below w.heap.size w w1 := bthen (balloc (Below.refl _ _) _) hB1
  have hr1 := (hr.below b1)
  clear hb0
  go_region_with (go_at_call 85; refine (Hp.out _ ?_).mono ?_; (exact (hr1.below (balloc (Below.refl _ _) _)).drew); rintro e w2 ⟨rfl, hB2⟩)
  all_goals
    go_wp2
    go_ret2
    exact ⟨rfl, bthen (balloc b1 _).drew hB2⟩
set_option maxHeartbeats 1000000 in
set_option maxRecDepth 10000 in
theorem Load_of2 (o : Opt) (h : o.Ok) (A : Option Addr) (c : Nat) (xs : List Int) (s : Bs) (en : Int) (hp : ∀ W, Rd W A (i64s xs) → Calls Tryz.prog 86 #[ldr o (.slice A xs.length c)] W fun e w' => e = .returned (.tuple #[str s, .int .i64 en]) ∧ Below W.heap.size W w') (w : World) (hr : Rd w A (i64s xs)) (h1 : 1 ≤ xs.length) (hl : xs.length ≤ 4096) : Calls Tryz.prog 54 #[.int .i64 2, o.val, .slice A xs.length c] w fun e w' => e = .returned (.tuple #[str s, .int .i64 en]) ∧ Below w.heap.size w w' := by
  have hm := fun w => May_yes o h w
  unfold ldr at hp
  unfold Opt.val at hm ⊢
  have Hm := Lib.hid hm; clear hm
  have Hp := Lib.hid hp; clear hp
  have sf : ∀ (W : World) (a : Addr) (n : Nat), (store a (.func (.func n) #[] #[])).run Tryz.prog W = stored Tryz.prog W a (.func (.func n) #[] #[]) _ := fun W a n => run_store Tryz.prog W a _ _ rfl
  go_enter Tryz.func54, Tryz.ntmps54
  go_wp2_with (first | (go_at_call 56; refine (Hm.out _).mono ?_; rintro e w1 ⟨rfl, hB1⟩) | (go_at_call 82; refine (isWay_yes _ (by omega) (by omega) _).mono ?_; rintro e w2 ⟨rfl, rfl⟩) | (go_at_call 83; refine (in_yes _ _ _ (by omega) (by omega) _).mono ?_; rintro e w2 ⟨rfl, rfl⟩))
  have hb0 := (Blk.new w 27 #[.int .i64 o.block, .int .i64 o.limit, .int .i64 o.log, .int .i64 o.way, .int .u64 (o.seed : Int)]).keep hB1
  have c0 := hb0.cell 0 (.int .i64 o.block) rfl
  have c1 := hb0.cell 1 (.int .i64 o.limit) rfl
  have c2 := hb0.cell 2 (.int .i64 o.log) rfl
  have c3 := hb0.cell 3 (.int .i64 o.way) rfl
  have c4 := hb0.cell 4 (.int .u64 (o.seed : Int)) rfl
  have hlt := hb0.lt
  have b1 : Below w.heap.size w w1 := bthen (balloc (Below.refl _ _) _) hB1
  have hr1 := (hr.below b1)
  clear hb0
  go_region_with (go_at_call 86; refine (Hp.out _ ?_).mono ?_; (exact (hr1.below (balloc (Below.refl _ _) _)).drew); rintro e w2 ⟨rfl, hB2⟩)
  all_goals
    go_wp2
    go_ret2
    exact ⟨rfl, bthen (balloc b1 _).drew hB2⟩
set_option maxHeartbeats 1000000 in
set_option maxRecDepth 10000 in
theorem Load_of3 (o : Opt) (h : o.Ok) (A : Option Addr) (c : Nat) (xs : List Int) (s : Bs) (en : Int) (hp : ∀ W, Rd W A (i64s xs) → Calls Tryz.prog 87 #[ldr o (.slice A xs.length c)] W fun e w' => e = .returned (.tuple #[str s, .int .i64 en]) ∧ Below W.heap.size W w') (w : World) (hr : Rd w A (i64s xs)) (h1 : 1 ≤ xs.length) (hl : xs.length ≤ 4096) : Calls Tryz.prog 54 #[.int .i64 3, o.val, .slice A xs.length c] w fun e w' => e = .returned (.tuple #[str s, .int .i64 en]) ∧ Below w.heap.size w w' := by
  have hm := fun w => May_yes o h w
  unfold ldr at hp
  unfold Opt.val at hm ⊢
  have Hm := Lib.hid hm; clear hm
  have Hp := Lib.hid hp; clear hp
  have sf : ∀ (W : World) (a : Addr) (n : Nat), (store a (.func (.func n) #[] #[])).run Tryz.prog W = stored Tryz.prog W a (.func (.func n) #[] #[]) _ := fun W a n => run_store Tryz.prog W a _ _ rfl
  go_enter Tryz.func54, Tryz.ntmps54
  go_wp2_with (first | (go_at_call 56; refine (Hm.out _).mono ?_; rintro e w1 ⟨rfl, hB1⟩) | (go_at_call 82; refine (isWay_yes _ (by omega) (by omega) _).mono ?_; rintro e w2 ⟨rfl, rfl⟩) | (go_at_call 83; refine (in_yes _ _ _ (by omega) (by omega) _).mono ?_; rintro e w2 ⟨rfl, rfl⟩))
  have hb0 := (Blk.new w 27 #[.int .i64 o.block, .int .i64 o.limit, .int .i64 o.log, .int .i64 o.way, .int .u64 (o.seed : Int)]).keep hB1
  have c0 := hb0.cell 0 (.int .i64 o.block) rfl
  have c1 := hb0.cell 1 (.int .i64 o.limit) rfl
  have c2 := hb0.cell 2 (.int .i64 o.log) rfl
  have c3 := hb0.cell 3 (.int .i64 o.way) rfl
  have c4 := hb0.cell 4 (.int .u64 (o.seed : Int)) rfl
  have hlt := hb0.lt
  have b1 : Below w.heap.size w w1 := bthen (balloc (Below.refl _ _) _) hB1
  have hr1 := (hr.below b1)
  clear hb0
  go_region_with (go_at_call 87; refine (Hp.out _ ?_).mono ?_; (exact (hr1.below (balloc (Below.refl _ _) _)).drew); rintro e w2 ⟨rfl, hB2⟩)
  all_goals
    go_wp2
    go_ret2
    exact ⟨rfl, bthen (balloc b1 _).drew hB2⟩
theorem Load_plain (o : Opt) (h : o.Ok) (A : Option Addr) (c : Nat) (xs : List Int) (w : World) (hr : Rd w A (i64s xs)) (h1 : 1 ≤ xs.length) (hl : xs.length ≤ 4096) : Calls Tryz.prog 54 #[.int .i64 0, o.val, .slice A xs.length c] w fun e w' => e = .returned (.tuple #[str (plainB xs), .int .i64 0]) ∧ Below w.heap.size w w' :=
  Load_of0 o h A c xs _ _ (fun W hr => loader_plain o A c xs W hr (by omega)) w hr h1 hl
end Go.Proofs.YtaaanoklhiomlaaGreat
