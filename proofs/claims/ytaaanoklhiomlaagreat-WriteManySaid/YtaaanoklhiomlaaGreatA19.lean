import Derived.Test.YtaaanoklhiomlaaGreatA17
import Derived.Test.YtaaanoklhiomlaaGreatA18
import Derived.Test.YtaaanoklhiomlaaGreatPure25
import Derived.Test.YtaaanoklhiomlaaGreatL2
import Derived.Outline
set_option linter.unusedVariables false
set_option linter.unusedSimpArgs false
namespace Go.Proofs.YtaaanoklhiomlaaGreat
open Go.RowKit
open Wr
theorem i_i64 : (Tryz.prog.info? 2).map (fun i => (i.zero, i.size, i.bytes)) = some (some (.int .i64 0), 1, 8) := by kernel_rfl
/-- a writer of all the numbers xs. -/
def WS (blk : List Int → Bs) (H : Bs) (W : World) (g : Nat) (F : Nat → Prop) (o : Opt) (B : Nat) (xs : List Int) (n : Int) (p : Option Addr) (out l : Value) (s : Nat) (v : Value) : Prop :=
  WI W g F o (H ++ outs blk B xs) (told B xs) (left B xs) n false p out l s v
def slen : Value → Nat
  | .slice _ n _ => n
  | _ => 0
theorem keepF {w wr w2 : World} {F : Nat → Prop} (h : Keep F w wr) (k : Keep (fun i => F i ∨ w.heap.size ≤ i) wr w2) : Keep F w w2 := h.trans k fun i hi e => e.elim id (fun h => by omega)
/-- what a round that does not fill the block leaves. -/
theorem round_few {blk : List Int → Bs} {H : Bs} {w w2 : World} {g : Nat} {F : Nat → Prop} {o : Opt} {B : Nat} {xs tk : List Int} {n : Int} {p : Option Addr} {out l : Value} {s : Nat} {v : Value}
    (h : WI w2 g (fun i => (F i ∨ w.heap.size ≤ i) ∨ w.heap.size ≤ i) o (H ++ outs blk B xs) (told B xs) (left B xs ++ tk) n false p out l s v) (hB : 1 ≤ B) (hf : (left B xs).length + tk.length < B) :
    WS blk H w2 g (fun i => F i ∨ w.heap.size ≤ i) o B (xs ++ tk) n p out l s v := by
  obtain ⟨e1, e2⟩ := add_few B xs tk hf
  unfold WS
  rw [outs_add_few blk B hB xs tk hf, e1, e2]
  exact h.mono fun i e => e.elim id .inr
/-- what a round that fills the block leaves, behind the flush. -/
theorem round_full {blk : List Int → Bs} {H : Bs} {w w2 w3 : World} {g : Nat} {F : Nat → Prop} {o : Opt} {B : Nat} {xs tk : List Int} {n : Int} {p : Option Addr} {out : Value} {s : Nat} {v : Value} (hw : w.heap.size ≤ w2.heap.size)
    (h : WI w3 g (fun i => ((F i ∨ w.heap.size ≤ i) ∨ w.heap.size ≤ i) ∨ w2.heap.size ≤ i) o (H ++ outs blk B xs ++ blk (left B xs ++ tk)) (told B xs ++ (left B xs ++ tk)) [] n false p out (.slice none 0 0) s v) (hB : 1 ≤ B) (hf : (left B xs).length + tk.length = B) :
    WS blk H w3 g (fun i => F i ∨ w.heap.size ≤ i) o B (xs ++ tk) n p out (.slice none 0 0) s v := by
  obtain ⟨e1, e2⟩ := add_full B hB xs tk hf
  unfold WS
  rw [outs_add_full blk B hB xs tk hf, e1, e2, ← List.append_assoc]
  refine h.mono fun i e => ?_
  rcases e with ((e | e) | e) | e
  · exact .inl e
  · exact .inr e
  · exact .inr e
  · exact .inr (by omega)
theorem rd_cut2 {w : World} {ad : Addr} {xs : List Value} {A2 : Option Addr} {k : Nat} (h : Rd w (some ad) xs) (hk : k ≤ xs.length) (hA : k = xs.length ∨ A2 = some (ad.add k)) : Rd w A2 (xs.drop k) := by
  intro hne
  rcases hA with hA | hA
  · exact absurd (List.drop_eq_nil_of_le (by omega)) hne
  · subst hA
    have := h.cut (cap := xs.length + k + 1) hk (by omega)
    rw [if_neg (by omega)] at this
    exact this hne
set_option maxHeartbeats 4000000 in
set_option maxRecDepth 10000 in
theorem Write_some (blk : List Int → Bs) (H : Bs) (B : Nat) (hB1 : 1 ≤ B) (hB2 : B ≤ 4096) (P : Int → Prop) (hbl : ∀ c, c.length = B → (∀ x, x ∈ c → P x) → (blk c).length ≤ 10000000) (hH : H.length ≤ 100) {g : Nat} {F : Nat → Prop} {o : Opt} (ho : o.block = B) {all : List Int} {p : Option Addr} {out l : Value} {s : Nat} {v : Value} {w : World}
    (hI : WS blk H w g F o B all all.length p out l s v) (A : Option Addr) (c : Nat) (xs : List Int) (hr : Rd w A (i64s xs)) (hA : ∀ ad, A = some ad → ¬ F ad.block ∧ ad.block < w.heap.size) (hc : xs.length ≤ c) (hn : all.length + xs.length ≤ 65536)
    (hP : ∀ x, x ∈ all ++ xs → P x) (hp : ∀ cur : List Int, cur.length = B → (∀ x, x ∈ cur → P x) → ∀ W A c, Rd W A (i64s cur) → Calls Tryz.prog 23 #[o.val, .slice A cur.length c] W fun e w' => e = .returned (.tuple #[str (blk cur), .int .i64 0]) ∧ Below W.heap.size W w') :
    Calls Tryz.prog 32 #[.pointer (some ⟨g, 0, none⟩), .slice A xs.length c] w fun e w' => e = .returned (.int .i64 0) ∧ ∃ p' out' l' v', WS blk H w' g (fun i => F i ∨ w.heap.size ≤ i) o B (all ++ xs) (all ++ xs).length p' out' l' s v' ∧ Keep F w w' := by
  have hb := hI.blk
  have c8 := hb.cell 8 (.int .i64 all.length) rfl
  have c10 := hb.cell 10 (.bool false) rfl
  have f8 := hb.frozen 8
  have Hp := Lib.hid hp; clear hp
  have Hbl := Lib.hid hbl; clear hbl
  have HA := Lib.hid hA; clear hA
  have HP := Lib.hid hP; clear hP
  have e1 : decide ((65536 : Int) - (all.length : Nat) < (xs.length : Nat)) = false := by simp; omega
  have hset : Keep F w (w.setCell ⟨g, 8, none⟩ (.int .i64 ((all.length : Int) + xs.length))) := (Keep.refl F w).setCell _ (fun _ => hI.fg) _
  have hWS0 : WS blk H (w.setCell ⟨g, 8, none⟩ (.int .i64 ((all.length : Int) + xs.length))) g (fun i => F i ∨ w.heap.size ≤ i) o B (all ++ []) (all.length + xs.length : Nat) p out l s v := by
    have hk : Keep (fun i => i = g) w (w.setCell ⟨g, 8, none⟩ (.int .i64 ((all.length : Int) + xs.length))) := (Keep.refl (fun i => i = g) w).setCell ⟨g, 8, none⟩ (fun _ => rfl) _
    rw [List.append_nil]
    refine ⟨?_, hI.pp, hk.rowF hI.orow (fun k hk e => own_blk_neF hI.orow hI.blk (by decide) (by rw [← e]; exact hk)), hk.row hI.lrow (fun k hk e => own_blk_ne hI.lrow hI.blk (by decide) (by rw [← e]; exact hk)), hk.blk hI.sblk (fun e => hI.blk.ne_ hI.sblk (by decide) e.symm), hk.row hI.srow (fun k hk e => own_blk_ne hI.srow hI.blk (by decide) (by rw [← e]; exact hk)), hI.ne, .inl hI.fg, .inl hI.fs, fun b e => .inl (hI.fo b e), fun b e => .inl (hI.fl b e), fun b e => .inl (hI.fv b e), hI.neo⟩
    have := hI.blk.set_ 8 (.int .i64 ((all.length : Int) + xs.length))
    simpa [wrc] using this
  have hr0 : Rd (w.setCell ⟨g, 8, none⟩ (.int .i64 ((all.length : Int) + xs.length))) A (i64s xs) := hr.keep hset (fun ad e => (HA.out ad e).1)
  have Hset := Lib.hid hset; clear hset
  have HWS0 := Lib.hid hWS0; clear hWS0
  have Hr0 := Lib.hid hr0; clear hr0
  go_enter Tryz.func32, Tryz.ntmps32
  go_wp2
  go_loopw [1] (fun sv wr => ∃ (d r : List Int) (n' : Nat) (A' : Option Addr) (c' : Nat) (p' : Option Addr) (out' l' v' : Value), sv = .slice A' n' c' ∧ Hid (r.length = n') ∧ Hid (d ++ r = xs) ∧ n' ≤ c' ∧ Rd wr A' (i64s r) ∧ (∀ ad, A' = some ad → ¬ F ad.block ∧ ad.block < w.heap.size) ∧ WS blk H wr g (fun i => F i ∨ w.heap.size ≤ i) o B (all ++ d) (all.length + xs.length : Nat) p' out' l' s v' ∧ Keep F w wr) (fun sv _ => slen sv)
  case atStart => exact ⟨[], xs, xs.length, A, c, p, out, l, v, rfl, rfl, rfl, hc, Hr0.out, HA.out, HWS0.out, Hset.out⟩
  case round =>
    obtain ⟨d, r, n', A', c', p', out', l', v', rfl, hrn, hd, hc', hr', hA', hI', hK⟩ := hrel
    obtain ⟨L, cl, rfl⟩ := own_slice hI'.lrow
    have hbr := hI'.blk
    have q0 := hbr.cell 0 (.int .i64 o.block) rfl
    have q7 := hbr.cell 7 (.slice L (left B (all ++ d)).length cl) rfl
    have g7 := hbr.frozen 7
    rw [ho] at q0
    obtain ⟨i0, hi0, hz0, hz1, hz2⟩ := info_parts i_i64
    have hlt := left_lt B hB1 (all ++ d)
    have hdl : d.length + n' = xs.length := by rw [← hd.out, ← hrn.out]; simp
    obtain ⟨nc, hnc⟩ : ∃ nc, (left B (all ++ d)).length = nc := ⟨_, rfl⟩
    have Hnc := Lib.hid hnc
    rw [hnc] at q7 hlt
    clear hnc
    rcases Nat.eq_zero_or_pos n' with he | he
    · subst he
      have hr0 : r = [] := List.length_eq_zero_iff.1 hrn.out
      subst hr0
      have hds : d = xs := by simpa using hd.out
      subst hds
      clear hd hrn
      go_wp2
      go_ret
      exact ⟨rfl, p', out', _, v', by simpa [WS] using hI', hK⟩
    · have e2 : decide ((0 : Int) < (n' : Nat)) = true := by simp; omega
      have hrl : (i64s r).length = n' := by rw [i64s_length]; exact hrn.out
      have hne : i64s r ≠ [] := by intro e; rw [e] at hrl; simp at hrl; omega
      obtain ⟨ad, rfl, _, hcell⟩ := hr' hne
      clear hne
      -- how many go
      have hk : ∃ k : Nat, 1 ≤ k ∧ k ≤ n' ∧ nc + k ≤ B ∧ ((k = n' ∧ nc + k < B ∧ (n' : Int) ≤ (B : Int) - nc) ∨ (k = n' ∧ Hid (nc + k = B) ∧ (n' : Int) ≤ (B : Int) - nc) ∨ ((B : Int) - nc = k ∧ Hid (nc + k = B) ∧ k < n')) := by
        rcases Nat.lt_trichotomy n' (B - nc) with h | h | h
        · exact ⟨n', by omega, by omega, by omega, .inl ⟨rfl, by omega, by omega⟩⟩
        · exact ⟨n', by omega, by omega, by omega, .inr (.inl ⟨rfl, (by omega : nc + n' = B), by omega⟩)⟩
        · exact ⟨B - nc, by omega, by omega, by omega, .inr (.inr ⟨by omega, (by omega : nc + (B - nc) = B), by omega⟩)⟩
      obtain ⟨k, hk1, hkn, hkB, hk⟩ := hk
      have htk : (i64s (r.take k)).length = k * 1 := by rw [i64s_length, List.length_take, hrn.out]; omega
      have hcut := (hr'.cut (k := k) (cap := c') (by rw [hrl]; exact hkn) (by rw [hrl]; exact hc'))
      have Htk := Lib.hid htk; clear htk
      have Hcut := Lib.hid hcut; clear hcut
      have hkc : k ≤ c' := by omega
      rcases hk with ⟨rfl, h2, h3⟩ | ⟨rfl, h2, h3⟩ | ⟨h1, h2, h3⟩
      all_goals
        go_wp2
        go_quiet (fail)
        go_wp2
        try (have H1 := Lib.hid h1; clear h1)
        refine gen_wpK ((Keep.refl (fun _ => False) wr).drewN _) (fun W hKW => ?_)
        have hlW := hKW.row hI'.lrow (fun _ _ e => e)
        have hbW := hKW.blk hbr (fun e => e)
        have k7 := hbW.cell 7 (.slice L (left B (all ++ d)).length cl) rfl
        rw [Hnc.out] at k7 hlW
        have f7 := hbW.frozen 7
        have hcW : ∀ j u, (i64s (r.take k))[j]? = some u → W.drew.cell? (ad.add j) = some u := by
          intro j u hu
          have hu2 : (i64s r)[j]? = some u := by
            rw [i64s, List.map_take, List.getElem?_take] at hu
            split at hu
            · exact hu
            · cases hu
          have hrW := hr'.keep hKW (fun _ _ e => e)
          obtain ⟨ad', h, _, hc2⟩ := hrW (by intro e; rw [e] at hu2; simp at hu2)
          cases h
          exact hc2 j u hu2
        have hnb : some g ≠ (Value.slice L nc cl).ownBlock := fun e => own_blk_ne hlW hbW (by decide) e.symm
        go_region_law (refine step_append_lies _ rfl (.tmp 56) (.tmp 59) 24 rfl 0 2 i0 (.int .i64 0) 1 8 Tryz.underlying24 hi0 hz0 hz1 hz2 rfl (by omega) (.slice L nc cl) nc (i64s (left B (all ++ d))) rfl hlW.drew ad k c' (i64s (r.take k)) rfl Htk.out hcW (by intro u hu; obtain ⟨x, _, rfl⟩ := List.mem_map.1 hu; rfl) (by omega) (by unfold maxLen; omega) (by omega) (Nat.zero_le _) _ rfl ?_; intro gg cap w1 hown1 hg1 hat1 hlt1; have hb1 := hbW.drew.grown hg1 hnb; have k7' := hb1.cell 7 (.slice L (left B (all ++ d)).length cl) rfl; have f7' := hb1.frozen 7)
        have hfin := app_fin (w := w) (r := r.take k) hI' hKW (m := nc + k) (by rw [List.length_append, Hnc.out]; have := Htk.out; rw [i64s_length] at this; omega) (by rw [i64s_append]; exact hown1) (by rw [Hnc.out]; exact hg1) (by rw [Hnc.out]; exact hat1) hK.size
        obtain ⟨hW2, hK2⟩ := hfin
        generalize (w1.setCell ⟨g, 7, none⟩ (.slice (some ⟨gg, 0, none⟩) (nc + k) cap)) = w2 at *
        have hb2 := hW2.blk
        have m0 := hb2.cell 0 (.int .i64 o.block) rfl
        have m7 := hb2.cell 7 (.slice (some ⟨gg, 0, none⟩) (nc + k) cap) rfl
        rw [ho] at m0
        clear hb1 k7' f7' k7 f7 q0 q7 g7 hcW hcell
        have HW2 := Lib.hid hW2; clear hW2
      · have e5 : ((nc : Int) + (k : Nat) == (B : Nat)) = false := by rw [beq_eq_false_iff_ne]; omega
        go_wp2
        all_goals
          go_quiet (fail)
          go_wp2
          go_roundw
          case measure => simp [slen]; omega
          case rel =>
            have htl : (left B (all ++ d)).length + (r.take k).length < B := by rw [Hnc.out]; have := Htk.out; rw [i64s_length] at this; omega
            have WSF := round_few (HW2.out.keep ((Keep.refl (fun _ => False) w2).drewN nq) (fun _ _ e => e)) hB1 htl
            have HKF := hK2.drewN nq
            have KF := keepF hK HKF
            generalize w2.drewN nq = WF at *
            have hrl2 : k ≤ (i64s r).length := by rw [hrl]; exact hkn
            have hrd : Rd WF _ (i64s r) := (hr'.keep HKF (fun ad' e hF => by
              obtain ⟨a1, a2⟩ := hA' ad' e
              rcases hF with hF | hF
              · exact a1 hF
              · omega))
            refine ⟨d ++ r.take k, r.drop k, _, _, _, p', out', (.slice (some ⟨gg, 0, none⟩) (nc + k) cap), v', rfl, ?_, ?_, ?_, ?_, ?_, ?_, ?_⟩
            · show (r.drop k).length = _
              rw [List.length_drop, hrn.out]; first | done | omega
            · show d ++ r.take k ++ r.drop k = xs
              rw [List.append_assoc, List.take_append_drop]; exact hd.out
            · omega
            · rw [i64s, List.map_drop]
              exact rd_cut2 hrd hrl2 (by first | exact .inr rfl | exact .inl (by rw [List.length_map, hrn.out]; first | done | omega))
            · intro ad' e
              first
                | exact hA' ad' e
                | (injection e with e; subst e; rw [block_of_add]; exact hA' ad rfl)
            · rw [← List.append_assoc]
              exact WSF
            · exact KF
      all_goals
        have e5 : ((nc : Int) + (k : Nat) == (B : Nat)) = true := by have := h2.out; rw [beq_iff_eq]; omega
        have hcl : (left B (all ++ d) ++ r.take k).length = B := by have := h2.out; rw [List.length_append, Hnc.out]; have := Htk.out; rw [i64s_length] at this; omega
        have hcP : ∀ x, x ∈ left B (all ++ d) ++ r.take k → P x := by
          intro x hx
          refine HP.out x ?_
          rw [← hd.out, ← List.append_assoc]
          rcases List.mem_append.1 hx with h | h
          · exact List.mem_append_left _ (List.mem_of_mem_drop h)
          · exact List.mem_append_right _ (List.mem_of_mem_take h)
        have hol : (H ++ outs blk B (all ++ d)).length ≤ 10000000000000 := by
          have := outs_len2 blk B 10000000 P Hbl.out _ (all ++ d) (Nat.le_refl _) (fun x hx => HP.out x (by rw [← hd.out, ← List.append_assoc]; exact List.mem_append_left _ hx))
          have h3 : (all ++ d).length ≤ 65536 := by rw [List.length_append]; omega
          rw [List.length_append]; omega
        have htl : (told B (all ++ d)).length ≤ 1000000 := by
          have : (told B (all ++ d)).length ≤ (all ++ d).length := by rw [told_length]; exact mul_div_le _ _
          rw [List.length_append] at this; omega
        have hfl := fun W' (hk : Keep (fun _ => False) w2 W') => flush_some o (blk (left B (all ++ d) ++ r.take k)) (Hbl.out _ hcl hcP) g _ _ _ _ _ _ _ _ _ s v' W' (HW2.out.keep hk (fun _ _ e => e)) (fun W A c h => Hp.out _ hcl hcP W A c h) (by omega) (by omega) hol htl
        have Hfl := Lib.hid hfl; clear hfl
        have Hcl := Lib.hid hcl; clear hcl
        clear hol htl hcP
        go_wp2
        all_goals
          go_quiet (fail)
          go_wp2_with (go_at_call 60; refine (Hfl.out _ ((Keep.refl (fun _ => False) w2).drewN _)).mono ?_; rintro e w3 ⟨rfl, p3, out3, v3, hW3, hK3⟩)
          go_roundw
          case measure => simp [slen]; omega
          case rel =>
            have htl : (left B (all ++ d)).length + (r.take k).length = B := by have := Hcl.out; rwa [List.length_append] at this
            have WSF := round_full (w := w) (Nat.le_trans hK.size hK2.size) hW3 hB1 htl
            have HKF : Keep (fun i => F i ∨ w.heap.size ≤ i) wr w3 := (hK2.drewN nq).trans hK3 (fun i _ e => e.elim id .inr)
            have KF := keepF hK HKF
            generalize w3 = WF at *
            have hrl2 : k ≤ (i64s r).length := by rw [hrl]; exact hkn
            have hrd : Rd WF _ (i64s r) := (hr'.keep HKF (fun ad' e hF => by
              obtain ⟨a1, a2⟩ := hA' ad' e
              rcases hF with hF | hF
              · exact a1 hF
              · omega))
            refine ⟨d ++ r.take k, r.drop k, _, _, _, p3, out3, (.slice none 0 0), v3, rfl, ?_, ?_, ?_, ?_, ?_, ?_, ?_⟩
            · show (r.drop k).length = _
              rw [List.length_drop, hrn.out]; first | done | omega
            · show d ++ r.take k ++ r.drop k = xs
              rw [List.append_assoc, List.take_append_drop]; exact hd.out
            · omega
            · rw [i64s, List.map_drop]
              exact rd_cut2 hrd hrl2 (by first | exact .inr rfl | exact .inl (by rw [List.length_map, hrn.out]; first | done | omega))
            · intro ad' e
              first
                | exact hA' ad' e
                | (injection e with e; subst e; rw [block_of_add]; exact hA' ad rfl)
            · rw [← List.append_assoc]
              exact WSF
            · exact KF
end Go.Proofs.YtaaanoklhiomlaaGreat
