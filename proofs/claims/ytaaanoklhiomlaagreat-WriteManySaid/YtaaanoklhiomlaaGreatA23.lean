import Derived.Test.YtaaanoklhiomlaaGreatA22
set_option linter.unusedVariables false
set_option linter.unusedSimpArgs false
namespace Go.Proofs.YtaaanoklhiomlaaGreat
open Go.RowKit
open Wr
def om : Opt := ⟨4096, 7, 7, 0, 0⟩
theorem om_ok : om.Ok := ⟨by decide, by decide, by decide, by decide, by decide, by decide, by decide, by decide⟩
def blkP (c : List Int) : Bs := blockB 0 0 c (plainB c)
theorem plain_cPut (cur : List Int) (h1 : 1 ≤ cur.length) (h2 : cur.length ≤ 4096) (W : World) (A : Option Addr) (c : Nat) (hr : Rd W A (i64s cur)) :
    Calls Tryz.prog 23 #[om.val, .slice A cur.length c] W fun e w' => e = .returned (.tuple #[str (blkP cur), .int .i64 0]) ∧ Below W.heap.size W w' :=
  cPut_of om (by decide) A c cur.length (str (blkP cur)) (i64s cur) (fun W hr => Put_of 0 (by omega) om (by decide) A c cur (plainB cur) (by rw [plainB_length]; omega) (fun W hr => Load_plain om om_ok A c cur W hr h1 h2) W hr h1 h2) W hr
/-- noughts that were just made. -/
theorem make64 (x : Int) (n : Nat) (hx : x = n) (hn : n ≤ 1000000) (W : World) : (Instr.makeSlice 24 (.int .i64 x) (.int .i64 x)).run Tryz.prog W = .ok (.slice (some ⟨W.heap.size, 0, none⟩) n n) (W.alloc (.cells (madeCells #[.int .i64 0] n) 2)) := by
  obtain ⟨i0, hi0, hz0, hz1, hz2⟩ := info_parts i_i64
  subst hx
  have := run_make (P := Tryz.prog) W 24 2 i0 (.int .i64 0) Tryz.underlying24 hi0 hz0 .i64 .i64 (n : Int) (n : Int) (by omega) (by omega) (by rw [hz2]; omega) (by omega)
  rw [this, hz1]
  simp
  rfl
theorem made_rd (W : World) (n : Nat) : Rd (W.alloc (.cells (madeCells #[.int .i64 0] n) 2)) (some ⟨W.heap.size, 0, none⟩) (i64s (List.replicate n 0)) := by
  intro _
  refine ⟨_, rfl, by simp, fun j u hu => ?_⟩
  have ha : (⟨W.heap.size, 0, none⟩ : Addr).add j = ⟨W.heap.size, 0 + j, none⟩ := by unfold Addr.add; split <;> simp_all
  rw [ha, Nat.zero_add, cell_of_row _ _ _ _ _ _ (heap_alloc_new W _)]
  have hl := toList_madeCells_one (.int .i64 0) n
  rw [← hu, i64s, List.map_replicate, ← hl]
  simp
/-- how long what is told of noughts is. -/
theorem outs_plain_len : ∀ (k : Nat) (xs : List Int), xs.length = 4096 * k → 32768 * k ≤ (outs blkP 4096 xs).length
  | 0, _, _ => by omega
  | k + 1, xs, h => by
    rw [outs_more blkP 4096 xs (by omega) (by omega), List.length_append]
    have := outs_plain_len k (xs.drop 4096) (by simp; omega)
    have h2 : 32768 ≤ (blkP (xs.take 4096)).length := by
      unfold blkP blockB
      simp only [List.length_append, plainB_length, List.length_take]
      omega
    omega
theorem blkP_len (c : List Int) (h : c.length = 4096) : (blkP c).length ≤ 10000000 := by
  have v1 := vput_len 9 c.length (by omega)
  have v2 := vput_len 9 (plainB c).length (by rw [plainB_length]; omega)
  unfold blkP blockB
  simp only [List.length_append, plainB_length, word8_length, List.length_singleton] at v2 ⊢
  omega
theorem told_all (xs : List Int) (h : xs.length = 65536) : told 4096 xs = xs ∧ left 4096 xs = [] := by
  unfold told left
  rw [h]
  exact ⟨List.take_of_length_le (by omega), List.drop_eq_nil_of_le (by omega)⟩
end Go.Proofs.YtaaanoklhiomlaaGreat
