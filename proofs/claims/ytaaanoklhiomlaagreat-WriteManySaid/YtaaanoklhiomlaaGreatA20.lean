import Derived.Test.YtaaanoklhiomlaaGreatA19
import Derived.Outline
import Derived.Deep.RegionHeldLaw
set_option linter.unusedVariables false
set_option linter.unusedSimpArgs false
namespace Go.Proofs.YtaaanoklhiomlaaGreat
open Go.RowKit
open Wr
/-- a string is written by a writer, some worlds on. -/
theorem ws_at {W0 W : World} {g : Nat} {F : Nat → Prop} {o : Opt} {outB : Bs} {told cur : List Int} {n : Int} {done : Bool} {p : Option Addr} {out l : Value} {s : Nat} {v : Value} (t : Bs) (hI : WI W0 g F o outB told cur n done p out l s v) (hc : Below W0.heap.size W0 W) (hlen : outB.length + t.length ≤ 140737488355328) :
    Calls Tryz.prog 58 #[.pointer (some ⟨g, 5, none⟩), str t] W fun e w' => e = .returned (.tuple #[.int .i64 t.length, .nilIface]) ∧ ∃ p' out', WI w' g (fun i => F i ∨ W0.heap.size ≤ i) o (outB ++ t) told cur n done p' out' l s v ∧ Keep F W0 w' := by
  have hK := Keep.of_below (S := fun _ => False) hc
  have hI1 := hI.keep hK (fun _ _ e => e)
  refine (bld5_WriteString t g _ out p outB W hI1.blk (by kernel_rfl) rfl hI1.pp rfl hI1.orow hlen).mono ?_
  rintro e w' ⟨rfl, v', hb, ho, hh, hK2⟩
  have hne : ∀ k, v'.ownBlock = some k → k < W0.heap.size ∨ W.heap.size ≤ k := by
    intro k hk
    rcases hh with e | e
    · exact .inl (hI.orow.lt k (by rw [← e]; exact hk)).2
    · exact .inr (e k hk)
  have z : W0.heap.size ≤ W.heap.size := hc.size
  have hKF : Keep F W0 w' := (hK.mono (S := F) (fun _ _ e => e.elim)).trans hK2 (fun i hi e => e.elim (fun e => by subst e; exact hI.fg) (fun e => hI.fo i e.symm))
  have hlb : l.ownBlock ≠ some g := own_blk_ne hI1.lrow hI1.blk (by decide)
  have hvb : v.ownBlock ≠ some g := own_blk_ne hI1.srow hI1.blk (by decide)
  refine ⟨rfl, some ⟨g, 5, none⟩, v', ⟨hb, .inr rfl, ho, hK2.row hI1.lrow ?_, hK2.blk hI1.sblk ?_, hK2.row hI1.srow ?_, ?_, .inl hI.fg, .inl hI.fs, ?_, fun b e => .inl (hI.fl b e), fun b e => .inl (hI.fv b e), ?_⟩, hKF⟩
  · rintro k hk (e | e)
    · exact hlb (by rw [← e]; exact hk)
    · exact (hI.neo k hk).1 e.symm
  · rintro (e | e)
    · exact hI.blk.ne_ hI.sblk (by decide) e.symm
    · exact own_blk_neF hI1.orow hI1.sblk (by decide) e.symm
  · rintro k hk (e | e)
    · exact hvb (by rw [← e]; exact hk)
    · exact hI.ne k e.symm hk
  · intro b hb hv
    rcases hh with e | e
    · exact hI.ne b (by rw [← e]; exact hb) hv
    · have := e b hb; have := (hI.srow.lt b hv).2; omega
  · intro b hb
    rcases hh with e | e
    · exact .inl (hI.fo b (by rw [← e]; exact hb))
    · exact .inr (by have := e b hb; omega)
  · intro b hb
    refine ⟨fun ho2 => ?_, (hI.neo b hb).2⟩
    rcases hh with e | e
    · exact (hI.neo b hb).1 (by rw [← e]; exact ho2)
    · have := e b ho2; have := (hI.lrow.lt b hb).2; omega
theorem sum_at {W0 W : World} {g : Nat} {F : Nat → Prop} {o : Opt} {outB : Bs} {told cur : List Int} {n : Int} {done : Bool} {p : Option Addr} {out l : Value} {s : Nat} {v : Value} (hI : WI W0 g F o outB told cur n done p out l s v) (hc : Below W0.heap.size W0 W) (hlen : told.length ≤ 1000000) :
    Calls Tryz.prog 63 #[.pointer (some ⟨s, 0, none⟩)] W fun e w' => e = .returned (.int .u64 (xsumN o.seed (plainB told) : Int)) ∧ Below W.heap.size W w' := by
  have hI1 := hI.keep (Keep.of_below (S := fun _ => False) hc) (fun _ _ e => e)
  rw [← xsumN_eq]
  exact st_Sum s o.seed (plainB told) v W hI1.sblk hI1.srow (by rw [plainB_length]; omega)
def endB (o : Opt) (xs : List Int) : Bs := [255] ++ vput xs.length ++ word8 (xsumN o.seed (plainB xs))
/-- a writer that is closed. -/
theorem close_fin {w5 : World} {g : Nat} {F : Nat → Prop} {o : Opt} {outB : Bs} {told cur : List Int} {n : Int} {p : Option Addr} {out l : Value} {s : Nat} {v : Value} (hI : WI w5 g F o outB told cur n false p out l s v) (hg : F g) :
    WI (w5.setCell ⟨g, 10, none⟩ (.bool true)) g F o outB told cur n true p out l s v ∧ Keep F w5 (w5.setCell ⟨g, 10, none⟩ (.bool true)) := by
  have hk : Keep (fun i => i = g) w5 (w5.setCell ⟨g, 10, none⟩ (.bool true)) := (Keep.refl (fun i => i = g) w5).setCell ⟨g, 10, none⟩ (fun _ => rfl) _
  refine ⟨⟨?_, hI.pp, hk.rowF hI.orow (fun k hk e => own_blk_neF hI.orow hI.blk (by decide) (by rw [← e]; exact hk)), hk.row hI.lrow (fun k hk e => own_blk_ne hI.lrow hI.blk (by decide) (by rw [← e]; exact hk)), hk.blk hI.sblk (fun e => hI.blk.ne_ hI.sblk (by decide) e.symm), hk.row hI.srow (fun k hk e => own_blk_ne hI.srow hI.blk (by decide) (by rw [← e]; exact hk)), hI.ne, hI.fg, hI.fs, hI.fo, hI.fl, hI.fv, hI.neo⟩, (Keep.refl F w5).setCell _ (fun _ => hg) _⟩
  have := hI.blk.set_ 10 (.bool true)
  simpa [wrc] using this
theorem held2 {w w' : World} {a0 a1 : Addr} {v0 v1 : Value} (hB : Below w.heap.size w w') (h : w.cell? a0 = some v0 ∧ w.cell? a1 = some v1) : w'.cell? a0 = some v0 ∧ w'.cell? a1 = some v1 :=
  ⟨cell_later hB h.1, cell_later hB h.2⟩
set_option maxHeartbeats 4000000 in
set_option maxRecDepth 10000 in
theorem Close_some {w : World} {g : Nat} {F : Nat → Prop} {o : Opt} {outB : Bs} {told cur : List Int} {p : Option Addr} {out l : Value} {s : Nat} {v : Value} {xs : List Int} (hI : WI w g F o outB told cur xs.length false p out l s v) {F1 : Nat → Prop} {outB1 : Bs}
    (hfl : Calls Tryz.prog 60 #[.pointer (some ⟨g, 0, none⟩)] w fun e w' => e = .returned (.tuple #[]) ∧ ∃ p' out' l' v', WI w' g F1 o outB1 xs [] xs.length false p' out' l' s v' ∧ Keep F w w') (hF1 : ∀ i, i < w.heap.size → F1 i → F i) (hlen : outB1.length ≤ 10000000000000) (hx : xs.length ≤ 65536) :
    Calls Tryz.prog 30 #[.pointer (some ⟨g, 0, none⟩)] w fun e w' => e = .returned (.int .i64 0) ∧ ∃ p' out' l' v', WI w' g (fun i => F1 i ∨ w.heap.size ≤ i) o (outB1 ++ endB o xs) xs [] xs.length true p' out' l' s v' ∧ Keep F w w' := by
  have c10 := hI.blk.cell 10 (.bool false) rfl
  have hlt := hI.blk.lt
  have HF := Lib.hid hfl; clear hfl
  have cvb : ∀ (W : World) (g : Nat), Blk W g 5 #[.int .u8 255] → (convert 69 9 (.slice (some ⟨g, 0, none⟩) 1 1)).run Tryz.prog W = .ok (str [b8 255]) W := fun W g h => conv1 255 (by omega) W g h
  have cv := fun W : World => cvb _ _ (Blk.new W 5 #[.int .u8 255])
  have cvd := fun W : World => cvb _ _ (Blk.new W 5 #[.int .u8 255]).drew
  have Hc := Lib.hid cvb; clear cvb
  have ex : IntKind.u64.wrap (xs.length : Int) = (xs.length : Int) := by rw [IntKind.wrap_u64]; omega
  have hx64 : xs.length < 2 ^ 64 := by omega
  have Hx64 := Lib.hid hx64; clear hx64
  have l1 : (vput xs.length).length ≤ 10 := vput_len 9 _ (by omega)
  obtain ⟨t1, ht1⟩ : ∃ t1 : Bs, [b8 255] ++ vput xs.length = t1 := ⟨_, rfl⟩
  have hl1 : t1.length ≤ 11 := by rw [← ht1]; simp; omega
  have a1 : ∀ W, (binOp .add 9 (str [b8 255]) (str (vput xs.length))).run Tryz.prog W = .ok (str t1) W := fun W => by rw [← ht1]; exact str_add _ _ (by simp; omega) W
  have a2 : ∀ W, (binOp .add 9 (str t1) (str (word8 (xsumN o.seed (plainB xs))))).run Tryz.prog W = .ok (str (endB o xs)) W := fun W => by
    rw [show endB o xs = t1 ++ word8 (xsumN o.seed (plainB xs)) by rw [← ht1]; rfl]; exact str_add _ _ (by simp [word8_length]; omega) W
  have hel : outB1.length + (endB o xs).length ≤ 140737488355328 := by
    have : (endB o xs).length = t1.length + 8 := by rw [show endB o xs = t1 ++ word8 (xsumN o.seed (plainB xs)) by rw [← ht1]; rfl]; simp [word8_length]
    omega
  clear ht1 l1 hl1 hlen
  go_enter Tryz.func30, Tryz.ntmps30
  go_wp2_with (go_at_call 60; refine HF.out.mono ?_; rintro e w1 ⟨rfl, p1, out1, l', v1, hI1, hK1⟩)
  have hb1 := hI1.blk
  have c8 := hb1.cell 8 (.int .i64 xs.length) rfl
  have c9 := hb1.cell 9 (.pointer (some ⟨s, 0, none⟩)) rfl
  have hlt1 := hb1.lt
  go_region_held_law (fun w' => w'.cell? ⟨g, 8, none⟩ = some (.int .i64 xs.length) ∧ w'.cell? ⟨g, 9, none⟩ = some (.pointer (some ⟨s, 0, none⟩)))
   (first | exact d58 | exact held2 hB2 (by assumption) | exact held2 hB3 (by assumption) | exact held2 hB4 (by assumption) | go_keep)
   (first
    | (go_at_call 61; refine (vint_Put _ Hx64.out _).mono ?_; rintro e w2 ⟨rfl, hB2⟩; (first | (with_reducible (have hk2 := (Blk.new _ 5 #[.int .u8 255]).drew.keep hB2; have cv2 := Hc.out _ _ hk2; try simp only [drew_size] at cv2)) | (with_reducible (have hk2 := (Blk.new _ 5 #[.int .u8 255]).keep hB2; have cv2 := Hc.out _ _ hk2)) | skip))
    | (go_at_call 63; refine (sum_at hI1 ?_ (by omega)).mono ?_; (repeat (first | exact Below.refl _ _ | refine Below.drew ?_ | refine balloc ?_ _ | refine bthen ?_ (by assumption))); rintro e w3 ⟨rfl, hB3⟩; (first | (with_reducible (have hk3 := (Blk.new _ 5 #[.int .u8 255]).drew.keep hB3; have cv3 := Hc.out _ _ hk3; try simp only [drew_size] at cv3)) | (with_reducible (have hk3 := (Blk.new _ 5 #[.int .u8 255]).keep hB3; have cv3 := Hc.out _ _ hk3)) | (with_reducible (have hk3 := hk2.keep hB3; have cv3 := Hc.out _ _ hk3)) | skip))
    | (go_at_call 62; refine (vint_Word _ (xsumN_lt _ _) _).mono ?_; rintro e w4 ⟨rfl, hB4⟩; (first | (with_reducible (have hk4 := (Blk.new _ 5 #[.int .u8 255]).drew.keep hB4; have cv4 := Hc.out _ _ hk4; try simp only [drew_size] at cv4)) | (with_reducible (have hk4 := (Blk.new _ 5 #[.int .u8 255]).keep hB4; have cv4 := Hc.out _ _ hk4)) | (with_reducible (have hk4 := hk3.keep hB4; have cv4 := Hc.out _ _ hk4)) | skip))
    | (go_at_call 58; refine (ws_at (endB o xs) hI1 ?_ hel).mono ?_; (repeat (first | exact Below.refl _ _ | refine Below.drew ?_ | refine balloc ?_ _ | refine bthen ?_ (by assumption))); rintro e w5 ⟨rfl, p5, out5, hI5, hK5⟩; have d58 : w5.cell? ⟨g, 8, none⟩ = some (.int .i64 xs.length) ∧ w5.cell? ⟨g, 9, none⟩ = some (.pointer (some ⟨s, 0, none⟩)) := ⟨hI5.blk.cell 8 _ rfl, hI5.blk.cell 9 _ rfl⟩))
  all_goals
    have e10 := hI5.blk.cell 10 (.bool false) rfl
    have f10 := hI5.blk.frozen 10
    go_wp2
    go_ret
    obtain ⟨hI6, hK6⟩ := close_fin hI5 (.inl hI1.fg)
    refine ⟨rfl, p5, out5, l', v1, hI6.mono (fun i e => e.elim .inl (fun h => .inr (Nat.le_trans hK1.size h))), ?_⟩
    exact (hK1.trans hK5 hF1).trans hK6 (fun i hi e => e.elim (hF1 i hi) (fun h => absurd h (by have := hK1.size; omega)))
end Go.Proofs.YtaaanoklhiomlaaGreat
