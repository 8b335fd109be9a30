import Derived.Test.YtaaanoklhiomlaaGreatA16
set_option linter.unusedVariables false
set_option linter.unusedSimpArgs false
namespace Go.Proofs.YtaaanoklhiomlaaGreat
open Go.RowKit
open Wr
set_option maxHeartbeats 1000000 in
set_option maxRecDepth 10000 in
theorem flush_none {g : Nat} {F : Nat → Prop} {o : Opt} {outB : Bs} {told : List Int} {n : Int} {done : Bool} {p : Option Addr} {out l : Value} {s : Nat} {v : Value} {w : World} (hI : WI w g F o outB told [] n done p out l s v) :
    Calls Tryz.prog 60 #[.pointer (some ⟨g, 0, none⟩)] w fun e w' => e = .returned (.tuple #[]) ∧ w = w' := by
  obtain ⟨A, c, rfl⟩ := own_slice hI.lrow
  have c7 := hI.blk.cell 7 (.slice A ([] : List Int).length c) rfl
  go_enter Tryz.func60, Tryz.ntmps60
  go_wp2
  exact bodyPost_ret (results_none rfl _ _ _) rfl ⟨rfl, rfl⟩
set_option maxHeartbeats 1000000 in
set_option maxRecDepth 10000 in
theorem Out_some {g : Nat} {F : Nat → Prop} {o : Opt} {outB : Bs} {told cur : List Int} {n : Int} {done : Bool} {p : Option Addr} {out l : Value} {s : Nat} {v : Value} {w : World} (hI : WI w g F o outB told cur n done p out l s v) (h0 : outB ≠ []) :
    Calls Tryz.prog 34 #[.pointer (some ⟨g, 0, none⟩)] w fun e w' => e = .returned (str outB) ∧ WI w' g F o outB told cur n done p out l s v ∧ Keep F w w' := by
  have hb := hI.blk
  go_enter Tryz.func34, Tryz.ntmps34
  go_wp2_with (go_at_call 64; refine (bld5_String g _ out outB _ hb rfl hI.orow h0).mono ?_; rintro e w1 ⟨rfl, hb1, ho1, hK1⟩)
  go_ret
  have hno : ∀ i, some i = out.ownBlock → F i := fun i e => hI.fo i e.symm
  refine ⟨rfl, ⟨hb1, hI.pp, ho1, hK1.row hI.lrow (fun k hk e => (hI.neo k hk).1 e.symm), hK1.blk hI.sblk (fun e => own_blk_neF hI.orow hI.sblk (by decide) e.symm), hK1.row hI.srow (fun k hk e => hI.ne k e.symm hk), hI.ne, hI.fg, hI.fs, hI.fo, hI.fl, hI.fv, hI.neo⟩, hK1.mono (fun i _ e => hno i e)⟩
theorem Out_nil (w : World) : Calls Tryz.prog 34 #[.pointer none] w fun e w' => e = .returned (str []) ∧ w = w' := by
  go_enter Tryz.func34, Tryz.ntmps34
  go_wp2
  go_ret
  exact ⟨rfl, rfl⟩
theorem Write_nil (v : Value) (w : World) : Calls Tryz.prog 32 #[.pointer none, v] w fun e w' => e = .returned (.int .i64 6) ∧ Below w.heap.size w w' := by
  go_enter Tryz.func32, Tryz.ntmps32
  go_wp2
  go_ret
  exact ⟨rfl, Below.refl _ _⟩
theorem Close_nil (w : World) : Calls Tryz.prog 30 #[.pointer none] w fun e w' => e = .returned (.int .i64 6) ∧ Below w.heap.size w w' := by
  go_enter Tryz.func30, Tryz.ntmps30
  go_wp2
  go_ret
  exact ⟨rfl, Below.refl _ _⟩
end Go.Proofs.YtaaanoklhiomlaaGreat
