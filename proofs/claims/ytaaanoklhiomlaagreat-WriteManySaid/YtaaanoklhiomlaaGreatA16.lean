import Derived.Test.YtaaanoklhiomlaaGreatA15
import Derived.Test.YtaaanoklhiomlaaGreatA14
import Derived.Test.YtaaanoklhiomlaaGreatA7
import Derived.Test.YtaaanoklhiomlaaGreatA8
set_option linter.unusedVariables false
set_option linter.unusedSimpArgs false
namespace Go.Proofs.YtaaanoklhiomlaaGreat
open Go.RowKit
open Wr
/-- a writer that was told 'told' and has 'cur' not yet told on. 'F': the blocks that are its own. -/
structure WI (W : World) (g : Nat) (F : Nat → Prop) (o : Opt) (outB : Bs) (told cur : List Int) (n : Int) (done : Bool) (p : Option Addr) (out l : Value) (s : Nat) (v : Value) : Prop where
  blk : Blk W g 106 (wrc o p out l n s done)
  pp : p = none ∨ p = some ⟨g, 5, none⟩
  orow : W.ownsRowF 0 5 1 out outB.length (u8s outB)
  lrow : W.ownsRow 0 2 1 l cur.length (i64s cur)
  sblk : Blk W s 153 (stc o.seed (xrun (lanes0 o.seed) (plainB told)).1 v (plainB told).length)
  srow : W.ownsRow 0 5 1 v (xrun (lanes0 o.seed) (plainB told)).2.length (u8s (xrun (lanes0 o.seed) (plainB told)).2)
  ne : ∀ b, out.ownBlock = some b → v.ownBlock ≠ some b
  fg : F g
  fs : F s
  fo : ∀ b, out.ownBlock = some b → F b
  fl : ∀ b, l.ownBlock = some b → F b
  fv : ∀ b, v.ownBlock = some b → F b
  neo : ∀ b, l.ownBlock = some b → out.ownBlock ≠ some b ∧ v.ownBlock ≠ some b
theorem WI.keep {W W' : World} {g : Nat} {F S : Nat → Prop} {o : Opt} {outB : Bs} {told cur : List Int} {n : Int} {done : Bool} {p : Option Addr} {out l : Value} {s : Nat} {v : Value} (h : WI W g F o outB told cur n done p out l s v) (hk : Keep S W W') (hd : ∀ i, F i → ¬ S i) : WI W' g F o outB told cur n done p out l s v :=
  ⟨hk.blk h.blk (hd _ h.fg), h.pp, hk.rowF h.orow (fun k hk => hd _ (h.fo k hk)), hk.row h.lrow (fun k hk => hd _ (h.fl k hk)), hk.blk h.sblk (hd _ h.fs), hk.row h.srow (fun k hk => hd _ (h.fv k hk)), h.ne, h.fg, h.fs, h.fo, h.fl, h.fv, h.neo⟩
theorem WI.mono {W : World} {g : Nat} {F F' : Nat → Prop} {o : Opt} {outB : Bs} {told cur : List Int} {n : Int} {done : Bool} {p : Option Addr} {out l : Value} {s : Nat} {v : Value} (h : WI W g F o outB told cur n done p out l s v) (hf : ∀ i, F i → F' i) : WI W g F' o outB told cur n done p out l s v :=
  ⟨h.blk, h.pp, h.orow, h.lrow, h.sblk, h.srow, h.ne, hf _ h.fg, hf _ h.fs, fun b e => hf _ (h.fo b e), fun b e => hf _ (h.fl b e), fun b e => hf _ (h.fv b e), h.neo⟩
/-- what stands behind a flush, from what its calls have done. -/
theorem flush_fin {w w1 w2 w3 w4 : World} {g : Nat} {F : Nat → Prop} {o : Opt} {outB blkB : Bs} {told cur : List Int} {n : Int} {done : Bool} {p : Option Addr} {out out' l v v' : Value} {s : Nat} (hI : WI w g F o outB told cur n done p out l s v)
    (hK1 : Keep (fun _ => False) w w1) (hb2 : Blk w2 g 106 (wrc o (some ⟨g, 5, none⟩) out' l n s done)) (ho2 : w2.ownsRowF 0 5 1 out' (outB ++ blkB).length (u8s (outB ++ blkB))) (hh2 : out'.ownBlock = out.ownBlock ∨ ∀ k, out'.ownBlock = some k → w1.heap.size ≤ k) (hK2 : Keep (fun i => i = g ∨ some i = out.ownBlock) w1 w2)
    (hK3 : Keep (fun _ => False) w2 w3) (hb4 : Blk w4 s 153 (stc o.seed (xrun (lanes0 o.seed) (plainB told ++ plainB cur)).1 v' (plainB told ++ plainB cur).length)) (hv4 : w4.ownsRow 0 5 1 v' (xrun (lanes0 o.seed) (plainB told ++ plainB cur)).2.length (u8s (xrun (lanes0 o.seed) (plainB told ++ plainB cur)).2)) (hh4 : v'.ownBlock = v.ownBlock ∨ ∀ k, v'.ownBlock = some k → w3.heap.size ≤ k) (hK4 : Keep (fun i => i = s ∨ some i = v.ownBlock) w3 w4) :
    ∃ p' out' v', WI (w4.setCell ⟨g, 7, none⟩ (.slice none 0 0)) g (fun i => F i ∨ w.heap.size ≤ i) o (outB ++ blkB) (told ++ cur) [] n done p' out' (.slice none 0 0) s v' ∧ Keep F w (w4.setCell ⟨g, 7, none⟩ (.slice none 0 0)) := by
  have z1 : w.heap.size ≤ w1.heap.size := hK1.size
  have z2 : w1.heap.size ≤ w2.heap.size := hK2.size
  have z3 : w2.heap.size ≤ w3.heap.size := hK3.size
  have hg := hI.blk.lt
  have hsl := hI.sblk.lt
  have hgs : g ≠ s := hI.blk.ne_ hI.sblk (by decide)
  have ho3 := hK3.rowF ho2 (fun _ _ e => e)
  have hb3 := hK3.blk hb2 (fun e => e)
  have hgv : v.ownBlock ≠ some g := own_blk_ne hI.srow hI.blk (by decide)
  have hvl : ∀ k, v.ownBlock = some k → k < w.heap.size := fun k hk => (hI.srow.lt k hk).2
  have hs3 : Blk w3 s 153 (stc o.seed (xrun (lanes0 o.seed) (plainB told)).1 v (plainB told).length) := hK3.blk (hK2.blk (hK1.blk hI.sblk (fun e => e)) (by
    rintro (e | e)
    · exact hgs e.symm
    · exact own_blk_neF hI.orow hI.sblk (by decide) e.symm)) (fun e => e)
  have hos : out'.ownBlock ≠ some s := own_blk_neF ho3 hs3 (by decide)
  have hov : ∀ k, out'.ownBlock = some k → v.ownBlock ≠ some k := by
    intro k hk hv
    rcases hh2 with e | e
    · exact hI.ne k (by rw [← e]; exact hk) hv
    · have := e k hk; have := hvl k hv; omega
  have ho4 := hK4.rowF ho3 (fun k hk e => by
    rcases e with e | e
    · exact hos (by rw [← e]; exact hk)
    · exact hov k hk e.symm)
  have hb4g := hK4.blk hb3 (by
    rintro (e | e)
    · exact hgs e
    · exact hgv e.symm)
  have hset : Keep (fun i => i = g) w4 (w4.setCell ⟨g, 7, none⟩ (.slice none 0 0)) := (Keep.refl (fun i => i = g) w4).setCell ⟨g, 7, none⟩ (fun _ => rfl) _
  have hog : out'.ownBlock ≠ some g := own_blk_neF ho4 hb4g (by decide)
  have hvg : v'.ownBlock ≠ some g := own_blk_ne hv4 hb4g (by decide)
  refine ⟨some ⟨g, 5, none⟩, out', v', ⟨hb4g.set_ 7 _, .inr rfl, hset.rowF ho4 (fun k hk e => hog (by rw [← e]; exact hk)), World.ownsRow_nil _ _ _ _, ?_, ?_, ?_, .inl hI.fg, .inl hI.fs, ?_, ?_, ?_, ?_⟩, ?_⟩
  · rw [plainB_append]; exact hset.blk hb4 (fun e => hgs e.symm)
  · rw [plainB_append]; exact hset.row hv4 (fun k hk e => hvg (by rw [← e]; exact hk))
  · intro b hb hv
    rcases hh4 with e | e
    · exact hov b hb (by rw [← e]; exact hv)
    · have := e b hv; have := (ho3.lt b hb).2; omega
  · intro b hb
    rcases hh2 with e | e
    · exact .inl (hI.fo b (by rw [← e]; exact hb))
    · exact .inr (by have := e b hb; omega)
  · intro b hb; exact (no_own hb.symm).elim
  · intro b hb
    rcases hh4 with e | e
    · exact .inl (hI.fv b (by rw [← e]; exact hb))
    · exact .inr (by have := e b hb; omega)
  · intro b hb; exact (no_own hb.symm).elim
  · refine ((((hK1.mono (S := F) (fun _ _ e => e.elim)).trans hK2 ?_).trans hK3 (fun _ _ e => e.elim)).trans hK4 ?_).setCell _ (fun _ => hI.fg) _
    · rintro i hi (e | e)
      · subst e; exact hI.fg
      · exact hI.fo i e.symm
    · rintro i hi (e | e)
      · subst e; exact hI.fs
      · exact hI.fv i e.symm
set_option maxHeartbeats 4000000 in
set_option maxRecDepth 10000 in
theorem flush_some (o : Opt) (blkB : Bs) (hbl : blkB.length ≤ 10000000) (g : Nat) (F : Nat → Prop) (outB : Bs) (told cur : List Int) (n : Int) (done : Bool) (p : Option Addr) (out l : Value) (s : Nat) (v : Value) (w : World) (hI : WI w g F o outB told cur n done p out l s v)
    (hp : ∀ W A c, Rd W A (i64s cur) → Calls Tryz.prog 23 #[o.val, .slice A cur.length c] W fun e w' => e = .returned (.tuple #[str blkB, .int .i64 0]) ∧ Below W.heap.size W w') (h1 : 1 ≤ cur.length) (h2 : cur.length ≤ 4096) (ho : outB.length ≤ 10000000000000) (ht : told.length ≤ 1000000) :
    Calls Tryz.prog 60 #[.pointer (some ⟨g, 0, none⟩)] w fun e w' => e = .returned (.tuple #[]) ∧ ∃ p' out' v', WI w' g (fun i => F i ∨ w.heap.size ≤ i) o (outB ++ blkB) (told ++ cur) [] n done p' out' (.slice none 0 0) s v' ∧ Keep F w w' := by
  obtain ⟨A, c, rfl⟩ := own_slice hI.lrow
  have hb := hI.blk
  have hr : Rd w A (i64s cur) := Rd.of_own hI.lrow
  have c0 := hb.cell 0 (.int .i64 o.block) rfl; have c1 := hb.cell 1 (.int .i64 o.limit) rfl; have c2 := hb.cell 2 (.int .i64 o.log) rfl; have c3 := hb.cell 3 (.int .i64 o.way) rfl; have c4 := hb.cell 4 (.int .u64 (o.seed : Int)) rfl
  have c7 := hb.cell 7 (.slice A cur.length c) rfl
  have hlt := hb.lt
  unfold Opt.val at hp
  have Hp := Lib.hid hp; clear hp
  have e0 : ((cur.length : Int) == 0) = false := by rw [beq_eq_false_iff_ne]; omega
  have hlen : (plainB told).length + (plainB cur).length ≤ 140737488355328 := by rw [plainB_length, plainB_length]; omega
  go_enter Tryz.func60, Tryz.ntmps60
  go_wp2
  go_region_with (go_at_call 23; refine (Hp.out _ _ _ ?_).mono ?_; (exact hr.drew); rintro e w1 ⟨rfl, hB1⟩)
  all_goals
    have hb1 := hb.drew.keep hB1
    have hK1 : Keep (fun _ => False) w w1 := (Keep.refl _ _).drew.trans (Keep.of_below (S := fun _ => False) hB1) (fun _ _ e => e)
    have ho1 := hK1.rowF hI.orow (fun _ _ e => e)
    have hl1 := hK1.row hI.lrow (fun _ _ e => e)
    have hs1 := hK1.blk hI.sblk (fun e => e)
    have hv1 := hK1.row hI.srow (fun _ _ e => e)
    go_wp2_with (first | (go_at_call 58; refine (bld5_WriteString blkB g _ out p outB _ hb1 (by kernel_rfl) rfl hI.pp rfl ho1 (by omega)).mono ?_; rintro e w2 ⟨rfl, out', hb2, ho2, hh2, hK2⟩))
    have hd1 := hI
    have c9 := hb2.cell 9 (.pointer (some ⟨s, 0, none⟩)) rfl
    have c7' := hb2.cell 7 (.slice A cur.length c) rfl
    have hs2 := hK2.blk hs1 (by
      rintro (e | e)
      · exact hI.blk.ne_ hI.sblk (by decide) e.symm
      · exact own_blk_neF hI.orow hI.sblk (by decide) e.symm)
    have hv2 := hK2.row hv1 (by
      rintro k hk (e | e)
      · exact own_blk_ne hI.srow hI.blk (by decide) (by rw [← e]; exact hk)
      · exact hI.ne k e.symm hk)
    have hl2 := hK2.row hl1 (by
      rintro k hk (e | e)
      · exact own_blk_ne hI.lrow hI.blk (by decide) (by rw [← e]; exact hk)
      · exact (hI.neo k hk).1 e.symm)
    have hr2 : Rd w2 A (i64s cur) := Rd.of_own hl2
    have f7 := hb2.frozen 7
    have hgnot : ¬ (g = s ∨ some g = v.ownBlock) := by
      rintro (e | e)
      · exact hI.blk.ne_ hI.sblk (by decide) e
      · exact own_blk_ne hI.srow hI.blk (by decide) e.symm
    go_region_with (first | (go_at_call 77; refine (plain_Put _ _ cur _ ?_ (Nat.le_trans h2 (by decide))).mono ?_; (exact hr2.drew); rintro e w3 ⟨rfl, hB3⟩; have c9' := (hb2.drew.keep hB3).cell 9 (.pointer (some ⟨s, 0, none⟩)) rfl; have hK3 : Keep (fun _ => False) w2 w3 := (Keep.refl _ _).drew.trans (Keep.of_below (S := fun _ => False) hB3) (fun _ _ e => e); have hs3 := hK3.blk hs2 (fun e => e); have hv3 := hK3.row hv2 (fun _ _ e => e)) | (go_at_call 90; refine (st_Write (plainB cur) s o.seed (plainB told) v _ hs3 hv3 hlen).mono ?_; rintro e w4 ⟨rfl, v', hb4, hv4, hh4, hK4⟩))
    all_goals
      have hb4g := hK4.blk (hK3.blk hb2 (fun e => e)) hgnot
      have c7'' := hb4g.cell 7 (.slice A cur.length c) rfl
      have f7'' := hb4g.frozen 7
      go_wp2
      go_end0
      exact ⟨rfl, flush_fin hI hK1 hb2 ho2 hh2 hK2 hK3 hb4 hv4 hh4 hK4⟩
end Go.Proofs.YtaaanoklhiomlaaGreat
