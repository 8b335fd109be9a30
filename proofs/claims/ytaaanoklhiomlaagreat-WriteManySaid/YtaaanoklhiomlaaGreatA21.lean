import Derived.Test.YtaaanoklhiomlaaGreatA20
import Derived.Outline
set_option linter.unusedVariables false
set_option linter.unusedSimpArgs false
namespace Go.Proofs.YtaaanoklhiomlaaGreat
open Go.RowKit
open Wr
set_option maxHeartbeats 1000000 in
set_option maxRecDepth 10000 in
theorem Write_limit {g : Nat} {F : Nat → Prop} {o : Opt} {outB : Bs} {told cur : List Int} {n : Nat} {p : Option Addr} {out l : Value} {s : Nat} {v : Value} {w : World} (hI : WI w g F o outB told cur n false p out l s v) (A : Option Addr) (k c : Nat) (hn : n ≤ 65536) (h : 65536 < n + k) :
    Calls Tryz.prog 32 #[.pointer (some ⟨g, 0, none⟩), .slice A k c] w fun e w' => e = .returned (.int .i64 5) ∧ w = w' := by
  have hb := hI.blk
  have c8 := hb.cell 8 (.int .i64 n) rfl
  have c10 := hb.cell 10 (.bool false) rfl
  have e1 : decide ((65536 : Int) - (n : Nat) < (k : Nat)) = true := by simp; omega
  go_enter Tryz.func32, Tryz.ntmps32
  go_wp2
  go_ret
  exact ⟨rfl, rfl⟩
set_option maxHeartbeats 1000000 in
set_option maxRecDepth 10000 in
theorem Write_done {g : Nat} {F : Nat → Prop} {o : Opt} {outB : Bs} {told cur : List Int} {n : Int} {p : Option Addr} {out l : Value} {s : Nat} {v : Value} {w : World} (hI : WI w g F o outB told cur n true p out l s v) (A : Option Addr) (k c : Nat) :
    Calls Tryz.prog 32 #[.pointer (some ⟨g, 0, none⟩), .slice A k c] w fun e w' => e = .returned (.int .i64 7) ∧ w = w' := by
  have hb := hI.blk
  have c10 := hb.cell 10 (.bool true) rfl
  go_enter Tryz.func32, Tryz.ntmps32
  go_wp2
  go_ret
  exact ⟨rfl, rfl⟩
set_option maxHeartbeats 1000000 in
set_option maxRecDepth 10000 in
theorem Close_done {g : Nat} {F : Nat → Prop} {o : Opt} {outB : Bs} {told cur : List Int} {n : Int} {p : Option Addr} {out l : Value} {s : Nat} {v : Value} {w : World} (hI : WI w g F o outB told cur n true p out l s v) :
    Calls Tryz.prog 30 #[.pointer (some ⟨g, 0, none⟩)] w fun e w' => e = .returned (.int .i64 7) ∧ w = w' := by
  have hb := hI.blk
  have c10 := hb.cell 10 (.bool true) rfl
  go_enter Tryz.func30, Tryz.ntmps30
  go_wp2
  go_ret
  exact ⟨rfl, rfl⟩
theorem law_Err (n : Int) (w : World) : Calls Tryz.prog 25 #[.int .i64 n] w fun e w' => e = .returned (.int .i64 n) ∧ w = w' := by
  go_enter Tryz.func25, Tryz.ntmps25
  go_wp2
  go_ret
  exact ⟨rfl, rfl⟩
/-- a writer that was just made. -/
theorem New_WI (o : Opt) (h : o.Ok) (hs : o.seed < 2 ^ 64) (w : World) : Calls Tryz.prog 27 #[o.val] w fun e w' => ∃ g s v, e = .returned (.tuple #[.pointer (some ⟨g, 0, none⟩), .int .i64 0]) ∧ w.heap.size ≤ g ∧ WI w' g (fun i => w.heap.size ≤ i) o (headB o) [] [] 0 false (some ⟨g, 5, none⟩) v (.slice none 0 0) s (.slice none 0 0) ∧ Below w.heap.size w w' := by
  refine (New_yes o h hs w).mono ?_
  rintro e w' ⟨g, s, v, rfl, hg, hb, ho, hv, hs1, hst, hB⟩
  have e0 : xrun (lanes0 (o.seed : Int)) (plainB []) = (lanes0 (o.seed : Int), []) := xrun_few _ _ (by simp [plainB])
  refine ⟨g, s, v, rfl, hg, ⟨hb, .inr rfl, ho, World.ownsRow_nil _ _ _ _, ?_, ?_, ?_, hg, hs1, hv, fun b e => (no_own e.symm).elim, fun b e => (no_own e.symm).elim, fun b e => (no_own e.symm).elim⟩, hB⟩
  · rw [e0]; exact hst
  · rw [e0]; exact World.ownsRow_nil _ _ _ _
  · intro b _ e; exact (no_own e.symm).elim
def o1 : Opt := ⟨4, 9, 7, 4, 7⟩
theorem o1_ok : o1.Ok := ⟨by decide, by decide, by decide, by decide, by decide, by decide, by decide, by decide⟩
set_option maxHeartbeats 1000000 in
set_option maxRecDepth 10000 in
theorem law_Options (a b c d : Nat) (seed : Nat) (ha : a < 256) (hb : b < 256) (hc : c < 256) (hd : d < 256) (w : World) : Calls Tryz.prog 21 #[.int .u8 (a : Int), .int .u8 (b : Int), .int .u8 (c : Int), .int .u8 (d : Int), .int .u64 (seed : Int)] w fun e w' => e = .returned (Opt.val ⟨1 + (a : Int) % 30, 7 + (b : Int) % 9, 7 + (c : Int) % 6, (d : Int) % 5, seed⟩) ∧ Below w.heap.size w w' := by
  go_enter Tryz.func21, Tryz.ntmps21
  go_wp2
  exact bodyPost_ret (v := Opt.val ⟨1 + (a : Int) % 30, 7 + (b : Int) % 9, 7 + (c : Int) % 6, (d : Int) % 5, seed⟩) (by simp [results, Tryz.results21, go_sem, Opt.val]) rfl ⟨rfl, (Below.refl _ _).alloc (Nat.le_refl _) _⟩
end Go.Proofs.YtaaanoklhiomlaaGreat
