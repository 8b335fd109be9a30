import Derived.Test.YtaaanoklhiomlaaGreatA4
set_option linter.unusedVariables false
set_option linter.unusedSimpArgs false

namespace Go.Proofs.YtaaanoklhiomlaaGreat
open Go.RowKit
open Wr

set_option maxHeartbeats 1000000 in
set_option maxRecDepth 10000 in
theorem bld0_WriteString_none (s : Bs) (g : Nat) (cs : Array Value) (v : Value) (p : Option Addr) (bs : Bs) (w : World) (hb : Blk w g 104 cs) (hsz : cs.size = (Tryz.prog.cellsOf 104)) (hp : cs[0]? = some (.pointer p)) (hv : cs[1]? = some v) (hown : w.ownsRowF 0 5 1 v bs.length (u8s bs)) (hpn : p = none) (hlen : bs.length + s.length ≤ 140737488355328) :
    Calls Tryz.prog 58 #[.pointer (some ⟨g, 0, none⟩), str s] w fun e w' => e = .returned (.tuple #[.int .i64 s.length, .nilIface]) ∧ ∃ v', Blk w' g 104 ((cs.setIfInBounds 0 (.pointer (some ⟨g, 0, none⟩))).setIfInBounds 1 v') ∧ w'.ownsRowF 0 5 1 v' (bs ++ s).length (u8s (bs ++ s)) ∧ (v'.ownBlock = v.ownBlock ∨ ∀ k, v'.ownBlock = some k → w.heap.size ≤ k) ∧ Keep (fun i => i = g ∨ some i = v.ownBlock) w w' := by
  subst hpn
  obtain ⟨i0, hi0, hz0, hz1, hz2⟩ := info_parts i_u8
  unfold str
  have c0 := hb.cell 0 _ hp; have c1 := hb.cell 1 _ hv; have f0 := hb.frozen 0; have f1 := hb.frozen 1
  have hshape : w.shape? g = some (104, Tryz.prog.cellsOf 104) := by unfold Blk at hb; simp [World.shape?, hb, hsz]
  obtain ⟨jT, hjT, hjs⟩ : ∃ j, Tryz.prog.info? 104 = some j ∧ j.size ≠ 0 := by obtain ⟨j, h1, h2⟩ := Option.map_eq_some_iff.1 (show (Tryz.prog.info? 104).map (·.size) = some 2 from by kernel_rfl); exact ⟨j, h1, by rw [h2]; decide⟩
  have hto := Lib.run_to_unsafe (P := Tryz.prog) (w := w) (src := 102) (dst := 184) ⟨g, 0, none⟩ Tryz.underlying102 Tryz.underlying184 hjT hjs hshape (of_decide_eq_true (by kernel_rfl))
  have hfrom := Lib.run_from_unsafe (P := Tryz.prog) (w := w) (src := 184) (dst := 102) ⟨g, 0, none⟩ Tryz.underlying184 Tryz.underlying102 hjT hshape (by kernel_rfl)
  have hno : (callFunc 119 #[.pointer (some ⟨g, 0, none⟩)]).run Tryz.prog w = .ok (.value (.pointer (some ⟨g, 0, none⟩))) w := by rw [run_callFunc_extern Tryz.func119 (by kernel_rfl) (by kernel_rfl) (by kernel_rfl) (e := Extern.AbiNoEscape.same) (by kernel_rfl), Lib.run_noEscape]; rfl
  clear hshape
  have h63 : bs.length + (⟨s.toArray⟩ : ByteArray).size ≤ maxLen := by unfold maxLen; simp [ByteArray.size]; omega
  have hlen' : bs.length + (⟨s.toArray⟩ : ByteArray).size ≤ 140737488355328 := by simpa [ByteArray.size] using hlen
  go_enter Tryz.func58, Tryz.ntmps58
  have hb1 := hb.set_ 0 (.pointer (some ⟨g, 0, none⟩))
  have hv1 : (cs.setIfInBounds 0 (.pointer (some ⟨g, 0, none⟩)))[1]? = some v := by rw [Array.getElem?_setIfInBounds_ne (by omega)]; exact hv
  have hown1 : (w.setCell ⟨g, 0, none⟩ (.pointer (some ⟨g, 0, none⟩))).ownsRowF 0 5 1 v bs.length (u8s bs) := (Keep.setCell (S := fun i => i = g) (Keep.refl _ w) ⟨g, 0, none⟩ (fun _ => rfl) _).rowF hown (fun k hk e => own_blk_neF hown hb (by decide) (by rw [hk, e]))
  have hnb : some g ≠ v.ownBlock := fun e => own_blk_neF hown hb (by decide) e.symm
  have Hv1 := Lib.hid hv1; clear hv1 hv hp
  go_wp2_with (first | (go_at_call 89; go_in) | (at_builtin; refine app_strF rfl (.tmp 12) (.tmp 13) 69 9 rfl 5 i0 Tryz.underlying69 Tryz.underlying9 hi0 hz0 hz1 hz2 v _ (u8s bs) hown1 rfl ⟨s.toArray⟩ rfl h63 hlen' ?_; intro v1 w1 hown2 hg1 hat; obtain ⟨A1, cp1, rfl⟩ := own_sliceF hown2; have hb2 := hb1.grown hg1 hnb; have c2 := hb2.cell 1 v Hv1.out; have f2 := hb2.frozen 1))
  go_ret2
  refine ⟨rfl, _, hb2.set_ 1 _, ?_, ?_, ?_⟩
  · have : (u8s bs ++ Lib.strCells ⟨s.toArray⟩) = u8s (bs ++ s) := by rw [u8s_append]; rfl
    rw [this] at hown2
    rw [List.length_append]
    exact (Keep.setCell (S := fun i => i = g) (Keep.refl _ w1) ⟨g, 1, none⟩ (fun _ => rfl) _).rowF hown2 (fun k hk e => own_blk_neF hown2 hb2 (by decide) (by subst e; exact hk))
  · exact hat.elim .inl fun h => .inr fun k hk => by have := h k hk; simpa using this
  · exact ((Keep.setCell (S := fun i => i = g ∨ some i = v.ownBlock) (Keep.refl _ w) ⟨g, 0, none⟩ (fun _ => .inl rfl) _).trans (Keep.of_grown hg1) (fun i _ h => .inr h)).setCell ⟨g, 1, none⟩ (fun _ => .inl rfl) _

set_option maxHeartbeats 1000000 in
set_option maxRecDepth 10000 in
theorem bld0_WriteString_self (s : Bs) (g : Nat) (cs : Array Value) (v : Value) (p : Option Addr) (bs : Bs) (w : World) (hb : Blk w g 104 cs) (hsz : cs.size = (Tryz.prog.cellsOf 104)) (hp : cs[0]? = some (.pointer p)) (hv : cs[1]? = some v) (hown : w.ownsRowF 0 5 1 v bs.length (u8s bs)) (hpn : p = some ⟨g, 0, none⟩) (hlen : bs.length + s.length ≤ 140737488355328) :
    Calls Tryz.prog 58 #[.pointer (some ⟨g, 0, none⟩), str s] w fun e w' => e = .returned (.tuple #[.int .i64 s.length, .nilIface]) ∧ ∃ v', Blk w' g 104 ((cs.setIfInBounds 0 (.pointer (some ⟨g, 0, none⟩))).setIfInBounds 1 v') ∧ w'.ownsRowF 0 5 1 v' (bs ++ s).length (u8s (bs ++ s)) ∧ (v'.ownBlock = v.ownBlock ∨ ∀ k, v'.ownBlock = some k → w.heap.size ≤ k) ∧ Keep (fun i => i = g ∨ some i = v.ownBlock) w w' := by
  subst hpn
  obtain ⟨i0, hi0, hz0, hz1, hz2⟩ := info_parts i_u8
  unfold str
  have c0 := hb.cell 0 _ hp; have c1 := hb.cell 1 _ hv; have f0 := hb.frozen 0; have f1 := hb.frozen 1
  have hshape : w.shape? g = some (104, Tryz.prog.cellsOf 104) := by unfold Blk at hb; simp [World.shape?, hb, hsz]
  obtain ⟨jT, hjT, hjs⟩ : ∃ j, Tryz.prog.info? 104 = some j ∧ j.size ≠ 0 := by obtain ⟨j, h1, h2⟩ := Option.map_eq_some_iff.1 (show (Tryz.prog.info? 104).map (·.size) = some 2 from by kernel_rfl); exact ⟨j, h1, by rw [h2]; decide⟩
  have hne := fun W => Lib.run_neq_ptr_same (P := Tryz.prog) (w := W) ⟨g, 0, none⟩ Tryz.underlying102 hjT
  clear hshape
  have h63 : bs.length + (⟨s.toArray⟩ : ByteArray).size ≤ maxLen := by unfold maxLen; simp [ByteArray.size]; omega
  have hlen' : bs.length + (⟨s.toArray⟩ : ByteArray).size ≤ 140737488355328 := by simpa [ByteArray.size] using hlen
  go_enter Tryz.func58, Tryz.ntmps58
  have hcs : cs.setIfInBounds 0 (.pointer (some ⟨g, 0, none⟩)) = cs := set_same hp
  have hb1 : Blk w g 104 (cs.setIfInBounds 0 (.pointer (some ⟨g, 0, none⟩))) := by rw [hcs]; exact hb
  have hv1 : (cs.setIfInBounds 0 (.pointer (some ⟨g, 0, none⟩)))[1]? = some v := by rw [hcs]; exact hv
  have hown1 := hown
  clear hcs
  have hnb : some g ≠ v.ownBlock := fun e => own_blk_neF hown hb (by decide) e.symm
  have Hv1 := Lib.hid hv1; clear hv1 hv hp
  go_wp2_with (first | (go_at_call 89; go_in) | (at_builtin; refine app_strF rfl (.tmp 12) (.tmp 13) 69 9 rfl 5 i0 Tryz.underlying69 Tryz.underlying9 hi0 hz0 hz1 hz2 v _ (u8s bs) hown1 rfl ⟨s.toArray⟩ rfl h63 hlen' ?_; intro v1 w1 hown2 hg1 hat; obtain ⟨A1, cp1, rfl⟩ := own_sliceF hown2; have hb2 := hb1.grown hg1 hnb; have c2 := hb2.cell 1 v Hv1.out; have f2 := hb2.frozen 1))
  go_ret2
  refine ⟨rfl, _, hb2.set_ 1 _, ?_, ?_, ?_⟩
  · have : (u8s bs ++ Lib.strCells ⟨s.toArray⟩) = u8s (bs ++ s) := by rw [u8s_append]; rfl
    rw [this] at hown2
    rw [List.length_append]
    exact (Keep.setCell (S := fun i => i = g) (Keep.refl _ w1) ⟨g, 1, none⟩ (fun _ => rfl) _).rowF hown2 (fun k hk e => own_blk_neF hown2 hb2 (by decide) (by subst e; exact hk))
  · exact hat.elim .inl fun h => .inr fun k hk => by have := h k hk; simpa using this
  · exact ((Keep.of_grown hg1).mono (S := fun i => i = g ∨ some i = v.ownBlock) (fun i _ h => .inr h)).setCell ⟨g, 1, none⟩ (fun _ => .inl rfl) _

theorem bld0_WriteString (s : Bs) (g : Nat) (cs : Array Value) (v : Value) (p : Option Addr) (bs : Bs) (w : World) (hb : Blk w g 104 cs) (hsz : cs.size = (Tryz.prog.cellsOf 104)) (hp : cs[0]? = some (.pointer p)) (hpp : p = none ∨ p = some ⟨g, 0, none⟩) (hv : cs[1]? = some v) (hown : w.ownsRowF 0 5 1 v bs.length (u8s bs)) (hlen : bs.length + s.length ≤ 140737488355328) :
    Calls Tryz.prog 58 #[.pointer (some ⟨g, 0, none⟩), str s] w fun e w' => e = .returned (.tuple #[.int .i64 s.length, .nilIface]) ∧ ∃ v', Blk w' g 104 ((cs.setIfInBounds 0 (.pointer (some ⟨g, 0, none⟩))).setIfInBounds 1 v') ∧ w'.ownsRowF 0 5 1 v' (bs ++ s).length (u8s (bs ++ s)) ∧ (v'.ownBlock = v.ownBlock ∨ ∀ k, v'.ownBlock = some k → w.heap.size ≤ k) ∧ Keep (fun i => i = g ∨ some i = v.ownBlock) w w' :=
  hpp.elim (fun h => bld0_WriteString_none s g cs v p bs w hb hsz hp hv hown h hlen) (fun h => bld0_WriteString_self s g cs v p bs w hb hsz hp hv hown h hlen)
set_option maxHeartbeats 1000000 in
set_option maxRecDepth 10000 in
theorem bld0_String_nil (g : Nat) (cs : Array Value) (w : World) (hb : Blk w g 104 cs) (hv : cs[1]? = some (.slice none 0 0)) :
    Calls Tryz.prog 64 #[.pointer (some ⟨g, 0, none⟩)] w fun e w' => e = .returned (str []) ∧ Below w.heap.size w w' := by
  have c1 := hb.cell 1 _ hv
  have hSD := fun W => Lib.run_unsafeSliceData_nil (P := Tryz.prog) (w := W) #[69] 161 0 0
  have hUS := fun W => Lib.run_unsafeString_none (P := Tryz.prog) (w := W) 161 3 9 none
  go_enter Tryz.func64, Tryz.ntmps64
  go_wp2
  go_region
  all_goals (go_wp2; go_ret; exact ⟨rfl, (Below.refl _ _).drew⟩)
set_option maxHeartbeats 1000000 in
set_option maxRecDepth 10000 in
theorem bld0_String (g : Nat) (cs : Array Value) (v : Value) (bs : Bs) (w : World) (hb : Blk w g 104 cs) (hv : cs[1]? = some v) (hown : w.ownsRowF 0 5 1 v bs.length (u8s bs)) (h0 : bs ≠ []) :
    Calls Tryz.prog 64 #[.pointer (some ⟨g, 0, none⟩)] w fun e w' => e = .returned (str bs) ∧ Blk w' g 104 cs ∧ w'.ownsRowF 0 5 1 v bs.length (u8s bs) ∧ Keep (fun i => some i = v.ownBlock) w w' := by
  have hl0 : bs.length ≠ 0 := by simpa using h0
  obtain ⟨gr, cap, cur, fz, rfl, _, hg, hfz, hnc, hcm, hcs, htake⟩ : ∃ gr cap cur fz, v = .slice (some ⟨gr, 0, none⟩) bs.length cap ∧ 0 ≤ gr ∧ w.heap[gr]? = some (.cells cur 5 fz) ∧ fz.2 ≤ bs.length * 1 ∧ bs.length ≤ cap ∧ cap ≤ maxLen ∧ cur.size = cap * 1 ∧ cur.toList.take (bs.length * 1) = u8s bs := by
    rcases hown.2 with ⟨_, hz⟩ | ⟨g, cap, cur, fz, hv, r⟩
    · exact absurd hz hl0
    · exact ⟨g, cap, cur, fz, hv, r⟩
  have c1 := hb.cell 1 _ hv
  have hne : gr ≠ g := fun e => own_blk_neF hown hb (by decide) (by subst e; rfl)
  have hSD := fun W => Lib.run_unsafeSliceData_row (P := Tryz.prog) (w := W) #[69] 161 ⟨gr, 0, none⟩ bs.length cap (by omega)
  have hUS : (Builtin.unsafeString_ #[161, 3] 9 #[.pointer (some ⟨gr, 0, none⟩), .int .i64 bs.length]).run Tryz.prog w.drew = .ok (str bs) (w.drew.freeze ⟨gr, 0, none⟩ bs.length) := by
    refine Lib.run_unsafeString_row w.drew 161 3 9 5 Tryz.underlying161 i_u8z gr cur.size (by have hg' : w.drew.heap[gr]? = some (.cells cur 5 fz) := hg; simp [World.shape?, hg']) bs h0 (by omega) (by unfold maxLen at hcm; omega) ?_
    intro j x hx
    exact hown.cells (g := gr) rfl j (.int .u8 x.toNat) (by simp [u8s, hx])
  have hK : Keep (fun i => some i = (Value.slice (some ⟨gr, 0, none⟩) bs.length cap).ownBlock) w (w.drew.freeze ⟨gr, 0, none⟩ bs.length) := Keep.freeze (S := fun i => some i = (Value.slice (some ⟨gr, 0, none⟩) bs.length cap).ownBlock) (Keep.refl _ w).drew ⟨gr, 0, none⟩ (fun _ => rfl) _
  have hb2 := hK.blk hb (fun e => hne (by injection e with e; exact e.symm))
  have hO : (w.drew.freeze ⟨gr, 0, none⟩ bs.length).ownsRowF 0 5 1 (.slice (some ⟨gr, 0, none⟩) bs.length cap) bs.length (u8s bs) := by
    obtain ⟨lo, hi⟩ := fz
    refine ⟨hown.1, .inr ⟨gr, cap, cur, (if lo == hi then (0, 0 + bs.length) else (min lo 0, max hi (0 + bs.length))), rfl, Nat.zero_le _, ?_, ?_, hnc, hcm, hcs, htake⟩⟩
    · have hg' : w.drew.heap[gr]? = some (.cells cur 5 (lo, hi)) := hg
      unfold World.freeze
      rw [if_neg hl0]
      simp only [Array.getElem?_modify, if_true, hg', Option.map_some]
    · simp only at hfz
      split <;> simp <;> omega
  have HH := Lib.hid (And.intro hb2 (And.intro hO hK))
  clear hb2 hO hK hown hb hv hg hfz hcs htake
  go_enter Tryz.func64, Tryz.ntmps64
  go_wp2
  go_region
  all_goals (go_wp2; go_ret; exact ⟨rfl, HH.out⟩)

set_option maxHeartbeats 1000000 in
set_option maxRecDepth 10000 in
theorem bld5_WriteString_none (s : Bs) (g : Nat) (cs : Array Value) (v : Value) (p : Option Addr) (bs : Bs) (w : World) (hb : Blk w g 106 cs) (hsz : cs.size = (Tryz.prog.cellsOf 106)) (hp : cs[5]? = some (.pointer p)) (hv : cs[6]? = some v) (hown : w.ownsRowF 0 5 1 v bs.length (u8s bs)) (hpn : p = none) (hlen : bs.length + s.length ≤ 140737488355328) :
    Calls Tryz.prog 58 #[.pointer (some ⟨g, 5, none⟩), str s] w fun e w' => e = .returned (.tuple #[.int .i64 s.length, .nilIface]) ∧ ∃ v', Blk w' g 106 ((cs.setIfInBounds 5 (.pointer (some ⟨g, 5, none⟩))).setIfInBounds 6 v') ∧ w'.ownsRowF 0 5 1 v' (bs ++ s).length (u8s (bs ++ s)) ∧ (v'.ownBlock = v.ownBlock ∨ ∀ k, v'.ownBlock = some k → w.heap.size ≤ k) ∧ Keep (fun i => i = g ∨ some i = v.ownBlock) w w' := by
  subst hpn
  obtain ⟨i0, hi0, hz0, hz1, hz2⟩ := info_parts i_u8
  unfold str
  have c0 := hb.cell 5 _ hp; have c1 := hb.cell 6 _ hv; have f0 := hb.frozen 5; have f1 := hb.frozen 6
  have hshape : w.shape? g = some (106, Tryz.prog.cellsOf 106) := by unfold Blk at hb; simp [World.shape?, hb, hsz]
  obtain ⟨jT, hjT, hjs⟩ : ∃ j, Tryz.prog.info? 104 = some j ∧ j.size ≠ 0 := by obtain ⟨j, h1, h2⟩ := Option.map_eq_some_iff.1 (show (Tryz.prog.info? 104).map (·.size) = some 2 from by kernel_rfl); exact ⟨j, h1, by rw [h2]; decide⟩
  have hto := Lib.run_to_unsafe (P := Tryz.prog) (w := w) (src := 102) (dst := 184) ⟨g, 5, none⟩ Tryz.underlying102 Tryz.underlying184 hjT hjs hshape (of_decide_eq_true (by kernel_rfl))
  have hfrom := Lib.run_from_unsafe (P := Tryz.prog) (w := w) (src := 184) (dst := 102) ⟨g, 5, none⟩ Tryz.underlying184 Tryz.underlying102 hjT hshape (by kernel_rfl)
  have hno : (callFunc 119 #[.pointer (some ⟨g, 5, none⟩)]).run Tryz.prog w = .ok (.value (.pointer (some ⟨g, 5, none⟩))) w := by rw [run_callFunc_extern Tryz.func119 (by kernel_rfl) (by kernel_rfl) (by kernel_rfl) (e := Extern.AbiNoEscape.same) (by kernel_rfl), Lib.run_noEscape]; rfl
  clear hshape
  have h63 : bs.length + (⟨s.toArray⟩ : ByteArray).size ≤ maxLen := by unfold maxLen; simp [ByteArray.size]; omega
  have hlen' : bs.length + (⟨s.toArray⟩ : ByteArray).size ≤ 140737488355328 := by simpa [ByteArray.size] using hlen
  go_enter Tryz.func58, Tryz.ntmps58
  have hb1 := hb.set_ 5 (.pointer (some ⟨g, 5, none⟩))
  have hv1 : (cs.setIfInBounds 5 (.pointer (some ⟨g, 5, none⟩)))[6]? = some v := by rw [Array.getElem?_setIfInBounds_ne (by omega)]; exact hv
  have hown1 : (w.setCell ⟨g, 5, none⟩ (.pointer (some ⟨g, 5, none⟩))).ownsRowF 0 5 1 v bs.length (u8s bs) := (Keep.setCell (S := fun i => i = g) (Keep.refl _ w) ⟨g, 5, none⟩ (fun _ => rfl) _).rowF hown (fun k hk e => own_blk_neF hown hb (by decide) (by rw [hk, e]))
  have hnb : some g ≠ v.ownBlock := fun e => own_blk_neF hown hb (by decide) e.symm
  have Hv1 := Lib.hid hv1; clear hv1 hv hp
  go_wp2_with (first | (go_at_call 89; go_in) | (at_builtin; refine app_strF rfl (.tmp 12) (.tmp 13) 69 9 rfl 5 i0 Tryz.underlying69 Tryz.underlying9 hi0 hz0 hz1 hz2 v _ (u8s bs) hown1 rfl ⟨s.toArray⟩ rfl h63 hlen' ?_; intro v1 w1 hown2 hg1 hat; obtain ⟨A1, cp1, rfl⟩ := own_sliceF hown2; have hb2 := hb1.grown hg1 hnb; have c2 := hb2.cell 6 v Hv1.out; have f2 := hb2.frozen 6))
  go_ret2
  refine ⟨rfl, _, hb2.set_ 6 _, ?_, ?_, ?_⟩
  · have : (u8s bs ++ Lib.strCells ⟨s.toArray⟩) = u8s (bs ++ s) := by rw [u8s_append]; rfl
    rw [this] at hown2
    rw [List.length_append]
    exact (Keep.setCell (S := fun i => i = g) (Keep.refl _ w1) ⟨g, 6, none⟩ (fun _ => rfl) _).rowF hown2 (fun k hk e => own_blk_neF hown2 hb2 (by decide) (by subst e; exact hk))
  · exact hat.elim .inl fun h => .inr fun k hk => by have := h k hk; simpa using this
  · exact ((Keep.setCell (S := fun i => i = g ∨ some i = v.ownBlock) (Keep.refl _ w) ⟨g, 5, none⟩ (fun _ => .inl rfl) _).trans (Keep.of_grown hg1) (fun i _ h => .inr h)).setCell ⟨g, 6, none⟩ (fun _ => .inl rfl) _

set_option maxHeartbeats 1000000 in
set_option maxRecDepth 10000 in
theorem bld5_WriteString_self (s : Bs) (g : Nat) (cs : Array Value) (v : Value) (p : Option Addr) (bs : Bs) (w : World) (hb : Blk w g 106 cs) (hsz : cs.size = (Tryz.prog.cellsOf 106)) (hp : cs[5]? = some (.pointer p)) (hv : cs[6]? = some v) (hown : w.ownsRowF 0 5 1 v bs.length (u8s bs)) (hpn : p = some ⟨g, 5, none⟩) (hlen : bs.length + s.length ≤ 140737488355328) :
    Calls Tryz.prog 58 #[.pointer (some ⟨g, 5, none⟩), str s] w fun e w' => e = .returned (.tuple #[.int .i64 s.length, .nilIface]) ∧ ∃ v', Blk w' g 106 ((cs.setIfInBounds 5 (.pointer (some ⟨g, 5, none⟩))).setIfInBounds 6 v') ∧ w'.ownsRowF 0 5 1 v' (bs ++ s).length (u8s (bs ++ s)) ∧ (v'.ownBlock = v.ownBlock ∨ ∀ k, v'.ownBlock = some k → w.heap.size ≤ k) ∧ Keep (fun i => i = g ∨ some i = v.ownBlock) w w' := by
  subst hpn
  obtain ⟨i0, hi0, hz0, hz1, hz2⟩ := info_parts i_u8
  unfold str
  have c0 := hb.cell 5 _ hp; have c1 := hb.cell 6 _ hv; have f0 := hb.frozen 5; have f1 := hb.frozen 6
  have hshape : w.shape? g = some (106, Tryz.prog.cellsOf 106) := by unfold Blk at hb; simp [World.shape?, hb, hsz]
  obtain ⟨jT, hjT, hjs⟩ : ∃ j, Tryz.prog.info? 104 = some j ∧ j.size ≠ 0 := by obtain ⟨j, h1, h2⟩ := Option.map_eq_some_iff.1 (show (Tryz.prog.info? 104).map (·.size) = some 2 from by kernel_rfl); exact ⟨j, h1, by rw [h2]; decide⟩
  have hne := fun W => Lib.run_neq_ptr_same (P := Tryz.prog) (w := W) ⟨g, 5, none⟩ Tryz.underlying102 hjT
  clear hshape
  have h63 : bs.length + (⟨s.toArray⟩ : ByteArray).size ≤ maxLen := by unfold maxLen; simp [ByteArray.size]; omega
  have hlen' : bs.length + (⟨s.toArray⟩ : ByteArray).size ≤ 140737488355328 := by simpa [ByteArray.size] using hlen
  go_enter Tryz.func58, Tryz.ntmps58
  have hcs : cs.setIfInBounds 5 (.pointer (some ⟨g, 5, none⟩)) = cs := set_same hp
  have hb1 : Blk w g 106 (cs.setIfInBounds 5 (.pointer (some ⟨g, 5, none⟩))) := by rw [hcs]; exact hb
  have hv1 : (cs.setIfInBounds 5 (.pointer (some ⟨g, 5, none⟩)))[6]? = some v := by rw [hcs]; exact hv
  have hown1 := hown
  clear hcs
  have hnb : some g ≠ v.ownBlock := fun e => own_blk_neF hown hb (by decide) e.symm
  have Hv1 := Lib.hid hv1; clear hv1 hv hp
  go_wp2_with (first | (go_at_call 89; go_in) | (at_builtin; refine app_strF rfl (.tmp 12) (.tmp 13) 69 9 rfl 5 i0 Tryz.underlying69 Tryz.underlying9 hi0 hz0 hz1 hz2 v _ (u8s bs) hown1 rfl ⟨s.toArray⟩ rfl h63 hlen' ?_; intro v1 w1 hown2 hg1 hat; obtain ⟨A1, cp1, rfl⟩ := own_sliceF hown2; have hb2 := hb1.grown hg1 hnb; have c2 := hb2.cell 6 v Hv1.out; have f2 := hb2.frozen 6))
  go_ret2
  refine ⟨rfl, _, hb2.set_ 6 _, ?_, ?_, ?_⟩
  · have : (u8s bs ++ Lib.strCells ⟨s.toArray⟩) = u8s (bs ++ s) := by rw [u8s_append]; rfl
    rw [this] at hown2
    rw [List.length_append]
    exact (Keep.setCell (S := fun i => i = g) (Keep.refl _ w1) ⟨g, 6, none⟩ (fun _ => rfl) _).rowF hown2 (fun k hk e => own_blk_neF hown2 hb2 (by decide) (by subst e; exact hk))
  · exact hat.elim .inl fun h => .inr fun k hk => by have := h k hk; simpa using this
  · exact ((Keep.of_grown hg1).mono (S := fun i => i = g ∨ some i = v.ownBlock) (fun i _ h => .inr h)).setCell ⟨g, 6, none⟩ (fun _ => .inl rfl) _

theorem bld5_WriteString (s : Bs) (g : Nat) (cs : Array Value) (v : Value) (p : Option Addr) (bs : Bs) (w : World) (hb : Blk w g 106 cs) (hsz : cs.size = (Tryz.prog.cellsOf 106)) (hp : cs[5]? = some (.pointer p)) (hpp : p = none ∨ p = some ⟨g, 5, none⟩) (hv : cs[6]? = some v) (hown : w.ownsRowF 0 5 1 v bs.length (u8s bs)) (hlen : bs.length + s.length ≤ 140737488355328) :
    Calls Tryz.prog 58 #[.pointer (some ⟨g, 5, none⟩), str s] w fun e w' => e = .returned (.tuple #[.int .i64 s.length, .nilIface]) ∧ ∃ v', Blk w' g 106 ((cs.setIfInBounds 5 (.pointer (some ⟨g, 5, none⟩))).setIfInBounds 6 v') ∧ w'.ownsRowF 0 5 1 v' (bs ++ s).length (u8s (bs ++ s)) ∧ (v'.ownBlock = v.ownBlock ∨ ∀ k, v'.ownBlock = some k → w.heap.size ≤ k) ∧ Keep (fun i => i = g ∨ some i = v.ownBlock) w w' :=
  hpp.elim (fun h => bld5_WriteString_none s g cs v p bs w hb hsz hp hv hown h hlen) (fun h => bld5_WriteString_self s g cs v p bs w hb hsz hp hv hown h hlen)
set_option maxHeartbeats 1000000 in
set_option maxRecDepth 10000 in
theorem bld5_String_nil (g : Nat) (cs : Array Value) (w : World) (hb : Blk w g 106 cs) (hv : cs[6]? = some (.slice none 0 0)) :
    Calls Tryz.prog 64 #[.pointer (some ⟨g, 5, none⟩)] w fun e w' => e = .returned (str []) ∧ Below w.heap.size w w' := by
  have c1 := hb.cell 6 _ hv
  have hSD := fun W => Lib.run_unsafeSliceData_nil (P := Tryz.prog) (w := W) #[69] 161 0 0
  have hUS := fun W => Lib.run_unsafeString_none (P := Tryz.prog) (w := W) 161 3 9 none
  go_enter Tryz.func64, Tryz.ntmps64
  go_wp2
  go_region
  all_goals (go_wp2; go_ret; exact ⟨rfl, (Below.refl _ _).drew⟩)
set_option maxHeartbeats 1000000 in
set_option maxRecDepth 10000 in
theorem bld5_String (g : Nat) (cs : Array Value) (v : Value) (bs : Bs) (w : World) (hb : Blk w g 106 cs) (hv : cs[6]? = some v) (hown : w.ownsRowF 0 5 1 v bs.length (u8s bs)) (h0 : bs ≠ []) :
    Calls Tryz.prog 64 #[.pointer (some ⟨g, 5, none⟩)] w fun e w' => e = .returned (str bs) ∧ Blk w' g 106 cs ∧ w'.ownsRowF 0 5 1 v bs.length (u8s bs) ∧ Keep (fun i => some i = v.ownBlock) w w' := by
  have hl0 : bs.length ≠ 0 := by simpa using h0
  obtain ⟨gr, cap, cur, fz, rfl, _, hg, hfz, hnc, hcm, hcs, htake⟩ : ∃ gr cap cur fz, v = .slice (some ⟨gr, 0, none⟩) bs.length cap ∧ 0 ≤ gr ∧ w.heap[gr]? = some (.cells cur 5 fz) ∧ fz.2 ≤ bs.length * 1 ∧ bs.length ≤ cap ∧ cap ≤ maxLen ∧ cur.size = cap * 1 ∧ cur.toList.take (bs.length * 1) = u8s bs := by
    rcases hown.2 with ⟨_, hz⟩ | ⟨g, cap, cur, fz, hv, r⟩
    · exact absurd hz hl0
    · exact ⟨g, cap, cur, fz, hv, r⟩
  have c1 := hb.cell 6 _ hv
  have hne : gr ≠ g := fun e => own_blk_neF hown hb (by decide) (by subst e; rfl)
  have hSD := fun W => Lib.run_unsafeSliceData_row (P := Tryz.prog) (w := W) #[69] 161 ⟨gr, 0, none⟩ bs.length cap (by omega)
  have hUS : (Builtin.unsafeString_ #[161, 3] 9 #[.pointer (some ⟨gr, 0, none⟩), .int .i64 bs.length]).run Tryz.prog w.drew = .ok (str bs) (w.drew.freeze ⟨gr, 0, none⟩ bs.length) := by
    refine Lib.run_unsafeString_row w.drew 161 3 9 5 Tryz.underlying161 i_u8z gr cur.size (by have hg' : w.drew.heap[gr]? = some (.cells cur 5 fz) := hg; simp [World.shape?, hg']) bs h0 (by omega) (by unfold maxLen at hcm; omega) ?_
    intro j x hx
    exact hown.cells (g := gr) rfl j (.int .u8 x.toNat) (by simp [u8s, hx])
  have hK : Keep (fun i => some i = (Value.slice (some ⟨gr, 0, none⟩) bs.length cap).ownBlock) w (w.drew.freeze ⟨gr, 0, none⟩ bs.length) := Keep.freeze (S := fun i => some i = (Value.slice (some ⟨gr, 0, none⟩) bs.length cap).ownBlock) (Keep.refl _ w).drew ⟨gr, 0, none⟩ (fun _ => rfl) _
  have hb2 := hK.blk hb (fun e => hne (by injection e with e; exact e.symm))
  have hO : (w.drew.freeze ⟨gr, 0, none⟩ bs.length).ownsRowF 0 5 1 (.slice (some ⟨gr, 0, none⟩) bs.length cap) bs.length (u8s bs) := by
    obtain ⟨lo, hi⟩ := fz
    refine ⟨hown.1, .inr ⟨gr, cap, cur, (if lo == hi then (0, 0 + bs.length) else (min lo 0, max hi (0 + bs.length))), rfl, Nat.zero_le _, ?_, ?_, hnc, hcm, hcs, htake⟩⟩
    · have hg' : w.drew.heap[gr]? = some (.cells cur 5 (lo, hi)) := hg
      unfold World.freeze
      rw [if_neg hl0]
      simp only [Array.getElem?_modify, if_true, hg', Option.map_some]
    · simp only at hfz
      split <;> simp <;> omega
  have HH := Lib.hid (And.intro hb2 (And.intro hO hK))
  clear hb2 hO hK hown hb hv hg hfz hcs htake
  go_enter Tryz.func64, Tryz.ntmps64
  go_wp2
  go_region
  all_goals (go_wp2; go_ret; exact ⟨rfl, HH.out⟩)
end Go.Proofs.YtaaanoklhiomlaaGreat
