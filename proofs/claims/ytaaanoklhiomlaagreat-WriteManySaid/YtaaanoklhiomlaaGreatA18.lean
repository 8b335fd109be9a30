import Derived.Test.YtaaanoklhiomlaaGreatA17
import Derived.Test.YtaaanoklhiomlaaGreatPure6
set_option linter.unusedVariables false
set_option linter.unusedSimpArgs false
namespace Go.Proofs.YtaaanoklhiomlaaGreat
open Go.RowKit
open Wr
theorem app_fin {w wr W w1 : World} {g gg cap cl m : Nat} {F : Nat → Prop} {o : Opt} {outB : Bs} {told cur r : List Int} {n : Int} {done : Bool} {p L : Option Addr} {out v : Value} {s : Nat} (hI : WI wr g F o outB told cur n done p out (.slice L cur.length cl) s v)
    (hKW : Keep (fun _ => False) wr W) (hm : m = (cur ++ r).length) (hown : w1.ownsRow 0 2 1 (.slice (some ⟨gg, 0, none⟩) m cap) m (i64s (cur ++ r))) (hg1 : W.drew.grownBy w1 (Value.slice L cur.length cl).ownBlock)
    (hat : (Value.slice L cur.length cl).ownBlock = some gg ∨ gg = W.drew.heap.size) (hz : w.heap.size ≤ wr.heap.size) :
    WI (w1.setCell ⟨g, 7, none⟩ (.slice (some ⟨gg, 0, none⟩) m cap)) g (fun i => F i ∨ w.heap.size ≤ i) o outB told (cur ++ r) n done p out (.slice (some ⟨gg, 0, none⟩) m cap) s v ∧ Keep F wr (w1.setCell ⟨g, 7, none⟩ (.slice (some ⟨gg, 0, none⟩) m cap)) := by
  subst hm
  have hK0 : Keep (fun i => some i = (Value.slice L cur.length cl).ownBlock) wr w1 := (hKW.drew.mono (S := fun i => some i = (Value.slice L cur.length cl).ownBlock) (fun _ _ e => e.elim)).trans (Keep.of_grown hg1) (fun _ _ e => e)
  have zW : wr.heap.size ≤ W.heap.size := hKW.size
  have hb1 := hK0.blk hI.blk (fun e => own_blk_ne hI.lrow hI.blk (by decide) e.symm)
  have hs1 := hK0.blk hI.sblk (fun e => own_blk_ne hI.lrow hI.sblk (by decide) e.symm)
  have ho1 := hK0.rowF hI.orow (fun k hk e => (hI.neo k e.symm).1 hk)
  have hv1 := hK0.row hI.srow (fun k hk e => (hI.neo k e.symm).2 hk)
  have hset : Keep (fun i => i = g) w1 (w1.setCell ⟨g, 7, none⟩ (.slice (some ⟨gg, 0, none⟩) (cur ++ r).length cap)) := (Keep.refl (fun i => i = g) w1).setCell ⟨g, 7, none⟩ (fun _ => rfl) _
  have hng : gg ≠ g := fun e => own_blk_ne hown hb1 (by decide) (by rw [e]; rfl)
  have hgg : ∀ b, (Value.slice (some ⟨gg, 0, none⟩) (cur ++ r).length cap).ownBlock = some b → b = gg := fun b e => by simpa [Value.ownBlock] using e.symm
  have hF : F gg ∨ wr.heap.size ≤ gg := hat.elim (fun e => .inl (hI.fl gg e)) (fun e => .inr (by rw [e]; exact zW))
  refine ⟨⟨hb1.set_ 7 _, hI.pp, hset.rowF ho1 (fun k hk e => own_blk_neF ho1 hb1 (by decide) (by rw [← e]; exact hk)), hset.row hown (fun k hk e => hng (by rw [← hgg k hk]; exact e)), hset.blk hs1 (fun e => hI.blk.ne_ hI.sblk (by decide) e.symm), hset.row hv1 (fun k hk e => own_blk_ne hv1 hb1 (by decide) (by rw [← e]; exact hk)), hI.ne, .inl hI.fg, .inl hI.fs, fun b e => .inl (hI.fo b e), fun b e => ?_, fun b e => .inl (hI.fv b e), fun b e => ?_⟩, ?_⟩
  · rw [hgg b e]; exact hF.elim .inl (fun h => .inr (Nat.le_trans hz h))
  · rw [hgg b e]
    rcases hat with h | h
    · exact hI.neo gg h
    · have hge : W.heap.size = gg := h.symm
      refine ⟨fun e => ?_, fun e => ?_⟩
      · have := (hI.orow.lt gg e).2; omega
      · have := (hI.srow.lt gg e).2; omega
  · exact (hK0.mono (S := F) (fun i _ e => hI.fl i e.symm)).setCell _ (fun _ => hI.fg) _
end Go.Proofs.YtaaanoklhiomlaaGreat
