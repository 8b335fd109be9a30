import Derived.Test.YtaaanoklhiomlaaGreatA6
set_option linter.unusedVariables false
set_option linter.unusedSimpArgs false

namespace Go.Proofs.YtaaanoklhiomlaaGreat
open Go.RowKit
open Wr
theorem cut_c (r s' tk r2 : Bs) (ht : tk.length = 32 - r.length) (hs : s' = tk ++ r2) : ByteArray.extract ⟨s'.toArray⟩ 0 (32 - r.length) = ⟨tk.toArray⟩ := by
  rw [← ht, ext_take, hs, List.take_left]
theorem cut_d (r s' tk r2 : Bs) (ht : tk.length = 32 - r.length) (hs : s' = tk ++ r2) : ByteArray.extract ⟨s'.toArray⟩ (32 - r.length) s'.length = ⟨r2.toArray⟩ := by
  rw [← ht, ext_drop, hs, List.drop_left]
theorem ownBlock_len (A : Option Addr) (n m c : Nat) : (Value.slice A n c).ownBlock = (Value.slice A m c).ownBlock := by cases A <;> rfl
set_option maxHeartbeats 1000000 in
set_option maxRecDepth 10000 in
theorem st_Write (s : Bs) (g : Nat) (seed : Int) (all : Bs) (v : Value) (w : World) (hb0 : Blk w g 153 (stc seed (xrun (lanes0 seed) all).1 v all.length)) (hown0 : w.ownsRow 0 5 1 v (xrun (lanes0 seed) all).2.length (u8s (xrun (lanes0 seed) all).2)) (hlen : all.length + s.length ≤ 140737488355328) : Calls Tryz.prog 90 #[.pointer (some ⟨g, 0, none⟩), str s] w fun e w' => e = .returned (.tuple #[]) ∧ ∃ v', Blk w' g 153 (stc seed (xrun (lanes0 seed) (all ++ s)).1 v' (all ++ s).length) ∧ w'.ownsRow 0 5 1 v' (xrun (lanes0 seed) (all ++ s)).2.length (u8s (xrun (lanes0 seed) (all ++ s)).2) ∧ (v'.ownBlock = v.ownBlock ∨ ∀ k, v'.ownBlock = some k → w.heap.size ≤ k) ∧ Keep (fun i => i = g ∨ some i = v.ownBlock) w w' := by
  unfold str
  obtain ⟨i0, hi0, hz0, hz1, hz2⟩ := info_parts i_u8
  have c6 := hb0.cell 6 (.int .i64 all.length) rfl; have f6 := hb0.frozen 6
  go_enter Tryz.func90, Tryz.ntmps90
  go_wp2
  go_loopw [1] (fun sv wr => ∃ (d s' : Bs) (v' : Value), sv = .string ⟨s'.toArray⟩ ∧ d ++ s' = s ∧ Blk wr g 153 (stc seed (xrun (lanes0 seed) (all ++ d)).1 v' ((all.length : Int) + s.length)) ∧ wr.ownsRow 0 5 1 v' (xrun (lanes0 seed) (all ++ d)).2.length (u8s (xrun (lanes0 seed) (all ++ d)).2) ∧ (v'.ownBlock = v.ownBlock ∨ ∀ k, v'.ownBlock = some k → w.heap.size ≤ k) ∧ Keep (fun i => i = g ∨ some i = v.ownBlock) w wr) (fun sv _ => vlen sv)
  case atStart => exact ⟨[], s, v, rfl, rfl, by rw [List.append_nil]; exact hb0.set_ 6 _, by rw [List.append_nil]; exact (Keep.setCell (S := fun i => i = g) (Keep.refl _ w) ⟨g, 6, none⟩ (fun _ => rfl) _).row hown0 (fun k hk e => own_blk_ne hown0 hb0 (by decide) (by subst e; exact hk)), .inl rfl, (Keep.refl _ _).setCell ⟨g, 6, none⟩ (fun _ => .inl rfl) _⟩
  case round =>
    obtain ⟨d, s', v', rfl, hd, hb, hown, hhat, hK⟩ := hrel
    have Hd := Lib.hid hd; clear hd
    obtain ⟨x, r, hxr⟩ : ∃ x r, xrun (lanes0 seed) (all ++ d) = (x, r) := ⟨_, _, rfl⟩
    rw [hxr] at hb hown
    have hr32 : r.length < 32 := by have := (xrun_rest (lanes0 seed) (all ++ d)).1; rw [hxr] at this; exact this
    have Hx := Lib.hid hxr; clear hxr
    simp only [] at hb hown
    obtain ⟨A, cp, rfl⟩ := own_slice hown
    have c5 := hb.cell 5 (.slice A r.length cp) rfl
    have hrl : r.length ≤ all.length + d.length := by have := (xrun_rest (lanes0 seed) (all ++ d)).2; rw [Hx.out] at this; simpa using this
    have hnb : some g ≠ (Value.slice A r.length cp).ownBlock := fun e => own_blk_ne hown hb (by decide) e.symm
    have h63 : r.length + (⟨s'.toArray⟩ : ByteArray).size ≤ maxLen := by have := congrArg List.length Hd.out; simp at this; unfold maxLen; simp [ByteArray.size]; omega
    have hby : r.length + (⟨s'.toArray⟩ : ByteArray).size ≤ 140737488355328 := by have := congrArg List.length Hd.out; simp at this; simp [ByteArray.size]; omega
    by_cases he : s' = []
    · subst he
      go_wp2
      go_end0
      have hds : d = s := by have := Hd.out; simpa using this
      subst hds
      exact ⟨rfl, _, by rw [Hx.out]; simpa using hb, by rw [Hx.out]; exact hown, hhat, hK⟩
    · have hne : s'.isEmpty = false := by cases s' <;> simp_all
      rcases (show r.length + s'.length < 32 ∨ r.length + s'.length = 32 ∨ 32 < r.length + s'.length by omega) with h32 | h32 | h32
      · have hm : s'.length ≤ 32 - r.length := by omega
        have ht : ((r.length : Int) + (s'.length : Int) == 32) = false := by simp; omega
        go_wp2
        go_region_law (refine step_app_str rfl (.tmp 34) (.tmp 37) 69 9 rfl 5 i0 Tryz.underlying69 Tryz.underlying9 hi0 hz0 hz1 hz2 (.slice A r.length cp) _ (u8s r) hown.drew rfl ⟨(s').toArray⟩ (by rw [ext_take, List.take_length]; rfl) h63 hby ?_; intro v1 w1 hown1 hg1 hat1; obtain ⟨A1, cp1, rfl⟩ := own_slice hown1; have hb1 := hb.drew.grown hg1 hnb; have c5b := hb1.cell 5 _ rfl; have f5b := hb1.frozen 5)
        have hus : u8s r ++ Lib.strCells ⟨(s').toArray⟩ = u8s (r ++ s') := by rw [u8s_append]; rfl
        have hsz : (⟨(s').toArray⟩ : ByteArray).size = (s').length := rfl
        rw [hus, hsz] at hown1
        have hK1 : Keep (fun i => i = g ∨ some i = v.ownBlock) w w1 := hK.drew.trans (Keep.of_grown hg1) (fun i hi e => hhat.elim (fun h => .inr (e.trans h)) (fun h => absurd (h i e.symm) (by omega)))
        have hat2 : (Value.slice A1 (r.length + (s').length) cp1).ownBlock = v.ownBlock ∨ ∀ k, (Value.slice A1 (r.length + (s').length) cp1).ownBlock = some k → w.heap.size ≤ k := by
          rcases hat1 with h | h
          · rcases hhat with h' | h'
            · exact .inl (h.trans h')
            · exact .inr fun k hk => h' k (h.symm.trans hk)
          · exact .inr fun k hk => Nat.le_trans hK.size (h k hk)
        have hown2 : (w1.setCell ⟨g, 5, none⟩ (.slice A1 (r.length + (s').length) cp1)).ownsRow 0 5 1 (.slice A1 (r.length + (s').length) cp1) (r.length + (s').length) (u8s (r ++ s')) :=
          (Keep.setCell (S := fun i => i = g) (Keep.refl _ w1) ⟨g, 5, none⟩ (fun _ => rfl) _).row hown1 (fun k hk e => own_blk_ne hown1 hb1 (by decide) (by subst e; exact hk))
        have hb2 := hb1.set_ 5 (.slice A1 (r.length + (s').length) cp1)
        have hK2 := hK1.setCell ⟨g, 5, none⟩ (fun _ => .inl rfl) (.slice A1 (r.length + (s').length) cp1)
        clear hus hsz hat1 hown1 hg1
        go_wp2
        go_roundw
        case rel =>
          refine ⟨d ++ s', [], _, rfl, by rw [List.append_nil]; exact Hd.out, ?_, ?_, hat2, hK2⟩
          · rw [← List.append_assoc, xrun_app, Hx.out, xrun_few _ _ (by simp; omega)]; exact hb2
          · rw [← List.append_assoc, xrun_app, Hx.out, xrun_few _ _ (by simp; omega)]; simpa using hown2
        case measure => have hp : 0 < s'.length := List.length_pos_iff.2 he; simpa [vlen, ByteArray.size] using hp

      · have hm : s'.length ≤ 32 - r.length := by omega
        have ht : ((r.length : Int) + (s'.length : Int) == 32) = true := by simp; omega
        have H32 := Lib.hid h32; clear h32
        go_wp2
        go_region_law (refine step_app_str rfl (.tmp 34) (.tmp 37) 69 9 rfl 5 i0 Tryz.underlying69 Tryz.underlying9 hi0 hz0 hz1 hz2 (.slice A r.length cp) _ (u8s r) hown.drew rfl ⟨(s').toArray⟩ (by rw [ext_take, List.take_length]; rfl) h63 hby ?_; intro v1 w1 hown1 hg1 hat1; obtain ⟨A1, cp1, rfl⟩ := own_slice hown1; have hb1 := hb.drew.grown hg1 hnb; have c5b := hb1.cell 5 _ rfl; have f5b := hb1.frozen 5)
        have hus : u8s r ++ Lib.strCells ⟨(s').toArray⟩ = u8s (r ++ s') := by rw [u8s_append]; rfl
        have hsz : (⟨(s').toArray⟩ : ByteArray).size = (s').length := rfl
        rw [hus, hsz] at hown1
        have hK1 : Keep (fun i => i = g ∨ some i = v.ownBlock) w w1 := hK.drew.trans (Keep.of_grown hg1) (fun i hi e => hhat.elim (fun h => .inr (e.trans h)) (fun h => absurd (h i e.symm) (by omega)))
        have hat2 : (Value.slice A1 (r.length + (s').length) cp1).ownBlock = v.ownBlock ∨ ∀ k, (Value.slice A1 (r.length + (s').length) cp1).ownBlock = some k → w.heap.size ≤ k := by
          rcases hat1 with h | h
          · rcases hhat with h' | h'
            · exact .inl (h.trans h')
            · exact .inr fun k hk => h' k (h.symm.trans hk)
          · exact .inr fun k hk => Nat.le_trans hK.size (h k hk)
        have hown2 : (w1.setCell ⟨g, 5, none⟩ (.slice A1 (r.length + (s').length) cp1)).ownsRow 0 5 1 (.slice A1 (r.length + (s').length) cp1) (r.length + (s').length) (u8s (r ++ s')) :=
          (Keep.setCell (S := fun i => i = g) (Keep.refl _ w1) ⟨g, 5, none⟩ (fun _ => rfl) _).row hown1 (fun k hk e => own_blk_ne hown1 hb1 (by decide) (by subst e; exact hk))
        have hb2 := hb1.set_ 5 (.slice A1 (r.length + (s').length) cp1)
        have hK2 := hK1.setCell ⟨g, 5, none⟩ (fun _ => .inl rfl) (.slice A1 (r.length + (s').length) cp1)
        clear hus hsz hat1 hown1 hg1
        have hcv := own_str hown2
        go_wp2_with (first | (go_at_call 120; refine (st_step g seed x _ _ (r ++ s') (by have := H32.out; simp; omega) (by have := H32.out; simp; omega) _ hb2).mono ?_; rintro e w3 ⟨rfl, hb3, hK3⟩; have c5d := hb3.cell 5 (.slice A1 (r.length + (s').length) cp1) rfl; have f5d := hb3.frozen 5))
        have hx2 : xrun (lanes0 seed) (all ++ (d ++ s')) = (x.step (r ++ s'), []) := by
          have hl := H32.out
          rw [← List.append_assoc, xrun_app, Hx.out, xrun_more _ _ (by simp; omega), List.drop_of_length_le (by simp; omega), xrun_few _ _ (by simp)]
        refine ⟨⟨d ++ s', [], _, rfl, by rw [List.append_nil]; exact Hd.out, by rw [hx2]; exact hb3.set_ 5 _, ?_, ?_, (hK2.trans hK3 (fun _ _ e => .inl e)).setCell ⟨g, 5, none⟩ (fun _ => .inl rfl) _⟩, ?_⟩
        · rw [hx2]
          exact own_zero ((Keep.setCell (S := fun i => i = g) (Keep.refl _ w3) ⟨g, 5, none⟩ (fun _ => rfl) _).row (hK3.row hown2 (fun k hk e => own_blk_ne hown2 hb2 (by decide) (by subst e; exact hk))) (fun k hk e => own_blk_ne hown2 hb2 (by decide) (by subst e; exact hk)))
        · rw [ownBlock_len A1 0 (r.length + (s').length) cp1]; exact hat2
        · have hp : 0 < s'.length := List.length_pos_iff.2 he; simpa [vlen, ByteArray.size] using hp

      · obtain ⟨tk, r2, hs2, htk⟩ : ∃ tk r2, s' = tk ++ r2 ∧ tk.length = 32 - r.length := ⟨s'.take (32 - r.length), s'.drop (32 - r.length), (List.take_append_drop _ _).symm, by simp; omega⟩
        have ht : ((r.length : Int) + (tk.length : Int) == 32) = true := by simp; omega
        have h63c : r.length + (⟨tk.toArray⟩ : ByteArray).size ≤ maxLen := by unfold maxLen; simp [ByteArray.size]; omega
        have hbyc : r.length + (⟨tk.toArray⟩ : ByteArray).size ≤ 140737488355328 := by simp [ByteArray.size]; omega
        have hk1 : (0 : Int) ≤ 32 - (r.length : Int) := by omega
        have hk2 : (32 : Int) - (r.length : Int) ≤ (s'.length : Int) := by omega
        have hk4 : (r.length : Int) ≤ 32 := by omega
        have hk3 : ¬ ((s'.length : Int) ≤ 32 - (r.length : Int)) := by omega
        have Hs := Lib.hid hs2; clear hs2
        have Ht := Lib.hid htk; clear htk
        go_wp2
        go_region_law (refine step_app_str rfl (.tmp 34) (.tmp 37) 69 9 rfl 5 i0 Tryz.underlying69 Tryz.underlying9 hi0 hz0 hz1 hz2 (.slice A r.length cp) _ (u8s r) hown.drew rfl ⟨(tk).toArray⟩ (by first | exact congrArg Value.string (cut_c r s' tk r2 Ht.out Hs.out) | (trace_state; fail)) h63c hbyc ?_; intro v1 w1 hown1 hg1 hat1; obtain ⟨A1, cp1, rfl⟩ := own_slice hown1; have hb1 := hb.drew.grown hg1 hnb; have c5b := hb1.cell 5 _ rfl; have f5b := hb1.frozen 5)
        have hus : u8s r ++ Lib.strCells ⟨(tk).toArray⟩ = u8s (r ++ tk) := by rw [u8s_append]; rfl
        have hsz : (⟨(tk).toArray⟩ : ByteArray).size = (tk).length := rfl
        rw [hus, hsz] at hown1
        have hK1 : Keep (fun i => i = g ∨ some i = v.ownBlock) w w1 := hK.drew.trans (Keep.of_grown hg1) (fun i hi e => hhat.elim (fun h => .inr (e.trans h)) (fun h => absurd (h i e.symm) (by omega)))
        have hat2 : (Value.slice A1 (r.length + (tk).length) cp1).ownBlock = v.ownBlock ∨ ∀ k, (Value.slice A1 (r.length + (tk).length) cp1).ownBlock = some k → w.heap.size ≤ k := by
          rcases hat1 with h | h
          · rcases hhat with h' | h'
            · exact .inl (h.trans h')
            · exact .inr fun k hk => h' k (h.symm.trans hk)
          · exact .inr fun k hk => Nat.le_trans hK.size (h k hk)
        have hown2 : (w1.setCell ⟨g, 5, none⟩ (.slice A1 (r.length + (tk).length) cp1)).ownsRow 0 5 1 (.slice A1 (r.length + (tk).length) cp1) (r.length + (tk).length) (u8s (r ++ tk)) :=
          (Keep.setCell (S := fun i => i = g) (Keep.refl _ w1) ⟨g, 5, none⟩ (fun _ => rfl) _).row hown1 (fun k hk e => own_blk_ne hown1 hb1 (by decide) (by subst e; exact hk))
        have hb2 := hb1.set_ 5 (.slice A1 (r.length + (tk).length) cp1)
        have hK2 := hK1.setCell ⟨g, 5, none⟩ (fun _ => .inl rfl) (.slice A1 (r.length + (tk).length) cp1)
        clear hus hsz hat1 hown1 hg1
        have hcv := own_str hown2
        go_wp2_with (first | (go_at_call 120; refine (st_step g seed x _ _ (r ++ tk) (by have := Ht.out; simp; omega) (by have := Ht.out; simp; omega) _ hb2).mono ?_; rintro e w3 ⟨rfl, hb3, hK3⟩; have c5d := hb3.cell 5 (.slice A1 (r.length + (tk).length) cp1) rfl; have f5d := hb3.frozen 5))
        have hx2 : xrun (lanes0 seed) (all ++ (d ++ tk)) = (x.step (r ++ tk), []) := by
          have hl := Ht.out
          rw [← List.append_assoc, xrun_app, Hx.out, xrun_more _ _ (by simp; omega), List.drop_of_length_le (by simp; omega), xrun_few _ _ (by simp)]
        refine ⟨⟨d ++ tk, r2, _, congrArg Value.string (cut_d r s' tk r2 Ht.out Hs.out), by rw [← Hd.out, Hs.out, List.append_assoc], by rw [hx2]; exact hb3.set_ 5 _, ?_, ?_, (hK2.trans hK3 (fun _ _ e => .inl e)).setCell ⟨g, 5, none⟩ (fun _ => .inl rfl) _⟩, ?_⟩
        · rw [hx2]
          exact own_zero ((Keep.setCell (S := fun i => i = g) (Keep.refl _ w3) ⟨g, 5, none⟩ (fun _ => rfl) _).row (hK3.row hown2 (fun k hk e => own_blk_ne hown2 hb2 (by decide) (by subst e; exact hk))) (fun k hk e => own_blk_ne hown2 hb2 (by decide) (by subst e; exact hk)))
        · rw [ownBlock_len A1 0 (r.length + (tk).length) cp1]; exact hat2
        · rw [cut_d r s' tk r2 Ht.out Hs.out]; have e1 := congrArg List.length Hs.out; have e2 := Ht.out; simp at e1; simp [vlen, ByteArray.size]; omega
end Go.Proofs.YtaaanoklhiomlaaGreat
