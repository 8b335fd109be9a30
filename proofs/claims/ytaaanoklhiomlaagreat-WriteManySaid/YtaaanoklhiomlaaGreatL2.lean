import Derived.Test.YtaaanoklhiomlaaGreatL1
import Derived.Deep.QuietTactic
import Derived.BigQuiet
import Derived.Deep.Light
import Derived.Laws.EntriesVeiled
set_option linter.unusedVariables false
set_option linter.unusedSimpArgs false
namespace Go.Proofs.YtaaanoklhiomlaaGreat
open Go.RowKit
open Wr
section
variable {P : Program} {f : FuncId} {args : Array Value} {w : World} {v : Value}
/-- a call that turns nothing, in a quiet region. -/
theorem q_left (h : Calls P f args w fun e w' => e = .returned v ∧ w = w') : Calls P f args w fun e w' => e = .returned v ∧ ∃ m, w' = w.drewN m :=
  h.mono fun _ _ ⟨he, hm⟩ => ⟨he, 0, by subst hm; rfl⟩
theorem q_leftN {n : Nat} (h : Calls P f args (w.drewN n) fun e w' => e = .returned v ∧ w.drewN n = w') : Calls P f args (w.drewN n) fun e w'' => e = .returned v ∧ ∃ m, w'' = w.drewN m :=
  h.mono fun _ _ ⟨he, hm⟩ => ⟨he, n, hm.symm⟩
theorem q_add {a n : Nat} (h : Calls P f args (w.drewN (a + n)) fun e w' => e = .returned v ∧ w.drewN (a + n) = w') : Calls P f args (w.drewN (a + n)) fun e w'' => e = .returned v ∧ ∃ m, w'' = w.drewN (a + m) :=
  h.mono fun _ _ ⟨he, hm⟩ => ⟨he, n, hm.symm⟩
end
theorem gen_wpK {P : Program} {c : Code} {Q : Exit → Act → World → Prop} {a : Act} {S : Nat → Prop} {w W : World} (hB : Keep S w W) (h : ∀ W', Keep S w W' → Code.wp P c Q a W') : Code.wp P c Q a W := h W hB
theorem gen_wpB {P : Program} {c : Code} {Q : Exit → Act → World → Prop} {a : Act} {n : Nat} {w W : World} (hB : Below n w W) (h : ∀ W', Below n w W' → Code.wp P c Q a W') : Code.wp P c Q a W := h W hB
theorem kdrewN {S : Nat → Prop} {a b : World} (h : Keep S a b) (n : Nat) : Keep S a (b.drewN n) := h.drewN n
/-- append(v, y), y of one cell, v a row of one's own: the new row written out. -/
theorem app1L {P : Program} {ops : Array Oper} {rest : List Oper} {o : Oper} {a : Act} {Q : Exit → Act → World → Prop} {W : World} (base : Nat) (hgd : o.guard = none) (s x : Operand) (t e : TypeId) (z : Value) (bytes : Nat)
    (ho : o.op = .call { callee := .builtin .append, args := #[s, x], argTypes := #[t, t] })
    (ht : P.underlying t = some (.slice e)) (hinfo : (P.info? e).map (fun i => (i.zero, i.size, i.bytes)) = some (some z, 1, bytes)) (hz : z.cells.size = 1) (hb0 : 0 < bytes)
    (v : Value) (xs : List Value) (HO : W.ownsRow base e 1 v xs.length xs) (y : Value) (hs : a.eval s = v) (hx : a.eval x = .slice (some ⟨W.heap.size, 0, none⟩) 1 1) (h1 : y.oneCell' = true)
    (hbase : base ≤ W.heap.size) (hl : (xs.length + 1) * bytes ≤ 140737488355328) (ys : List Value) (hys : xs ++ [y] = ys) (n : Nat) (hn : ys.length = n)
    (h : ∀ gg cap w1, w1.ownsRow base e 1 (.slice (some ⟨gg, 0, none⟩) n cap) n ys → W.grownBy w1 v.ownBlock → (v.ownBlock = some gg ∨ W.heap.size ≤ gg) → wpList P ops Q rest (a.put o.dst (.slice (some ⟨gg, 0, none⟩) n cap)) w1) :
    wpList P ops Q (o :: rest) a (W.alloc (.cells #[y] e)) := by
  refine app1 base hgd s x t e z bytes ho ht hinfo hz hb0 v xs HO y hs hx h1 hbase hl fun v1 w1 hown hg hat => ?_
  subst hys
  have hn1 : 0 < (xs ++ [y]).length := by simp
  obtain ⟨gg, cap, rfl, _, _⟩ := World.ownsRow.form hown hn1
  subst hn
  refine h gg cap w1 hown hg ?_
  rcases hat with hat | ⟨b, hb, hge⟩
  · exact .inl hat.symm
  · simp only [Value.ownBlock, Option.some.injEq] at hb
    exact .inr (by omega)
theorem own_form {w : World} {base n : Nat} {e : TypeId} {size : Nat} {v : Value} {xs : List Value} (h : w.ownsRow base e size v n xs) (hn : 0 < n) : ∃ g cap, v = .slice (some ⟨g, 0, none⟩) n cap ∧ n ≤ cap ∧ g < w.heap.size ∧ base ≤ g := by
  rcases h.2 with ⟨rfl, rfl⟩ | ⟨g, cap, cur, rfl, hb, hh, hc, _⟩
  · omega
  · exact ⟨g, cap, rfl, hc, (Array.getElem?_eq_some_iff.1 hh).1, hb⟩
/-- one cell of a row of one's own is stored to. -/
theorem own_set {w : World} {base n c : Nat} {e : TypeId} {size g : Nat} {xs : List Value} (h : w.ownsRow base e size (.slice (some ⟨g, 0, none⟩) n c) n xs) (i : Nat) (u : Value) (hi : i < xs.length) : (w.setCell ⟨g, i, none⟩ u).ownsRow base e size (.slice (some ⟨g, 0, none⟩) n c) n (xs.set i u) := by
  refine ⟨by simpa using h.1, ?_⟩
  rcases h.2 with ⟨hv, _⟩ | ⟨g', cap, cur, hv, hb, hh, hc, hm, hs, ht⟩
  · cases hv
  · injection hv with h1 _ h2
    injection h1 with h1
    injection h1 with h1
    subst h1 h2
    have hlt : i < n * size := by rw [← h.1]; exact hi
    have hsz : n * size ≤ c * size := Nat.mul_le_mul_right _ hc
    refine .inr ⟨g, c, cur.setIfInBounds i u, rfl, hb, ?_, hc, hm, by simpa using hs, ?_⟩
    · simp [World.setCell, Array.getElem?_modify, hh]
    · rw [Array.toList_setIfInBounds, List.take_set, ht]
theorem own_cell {w : World} {base n c : Nat} {e : TypeId} {size g : Nat} {xs : List Value} (h : w.ownsRow base e size (.slice (some ⟨g, 0, none⟩) n c) n xs) (i : Nat) (u : Value) (hi : xs[i]? = some u) : w.cell? ⟨g, i, none⟩ = some u := by
  have := h.cells (g := g) rfl i u hi
  have ha : (⟨g, 0, none⟩ : Addr).add i = ⟨g, 0 + i, none⟩ := by unfold Addr.add; split <;> simp_all
  rw [ha, Nat.zero_add] at this
  exact this
theorem own_frozen {w : World} {base n c : Nat} {e : TypeId} {size g : Nat} {xs : List Value} (h : w.ownsRow base e size (.slice (some ⟨g, 0, none⟩) n c) n xs) (i : Nat) : w.frozen? ⟨g, i, none⟩ = false := by
  rcases h.2 with ⟨hv, _⟩ | ⟨g', cap, cur, hv, hb, hh, hc, hm, hs, ht⟩
  · cases hv
  · injection hv with h1 _ h2
    injection h1 with h1
    injection h1 with h1
    subst h1
    simp [World.frozen?, hh]
end Go.Proofs.YtaaanoklhiomlaaGreat
