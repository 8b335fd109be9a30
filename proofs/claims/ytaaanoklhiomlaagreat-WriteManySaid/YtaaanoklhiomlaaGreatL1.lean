import Derived.Test.YtaaanoklhiomlaaGreatProg
import Derived.WalkKit
import Derived.Handy
import Derived.WalkLawsBesides
import Derived.Below
import Derived.Laws.OwnMore
import Derived.Deep.AppendLies
import Derived.Deep.Draws
import Derived.Maps.AppendAt
import Derived.OwnWalk
import Derived.Lib.ConvBytes
import Derived.Lib.Hide
import Derived.Lib.SlBytesConst
import Derived.Lib.FrozenHead
import Derived.Lib.UnsafeStr
import Derived.Lib.Builder
import Derived.Deep.RegionWith
import Derived.Deep.RegionLaw
import Derived.Deep.QuietTactic
import Derived.BigQuiet
import Derived.BigRegion
import Derived.Deep.DeepCutAuto
import Derived.Test.YtaaanoklhiomlaaGreatPure4
set_option linter.unusedVariables false
set_option linter.unusedSimpArgs false
namespace Go.Proofs.YtaaanoklhiomlaaGreat
open Go.RowKit
open Wr (Bs b8)

theorem i_u8 : (Tryz.prog.info? 5).map (fun i => (i.zero, i.size, i.bytes)) = some (some (.int .u8 0), 1, 1) := by kernel_rfl

/-- Behind an append: the row's own block is the old one, or a new one. -/
def Hat (W : World) (v v1 : Value) : Prop := v1.ownBlock = v.ownBlock ∨ ∃ b, v1.ownBlock = some b ∧ W.heap.size ≤ b

theorem own_base {w : World} {base : Nat} {e : TypeId} {size n : Nat} {v : Value} {xs : List Value} (h : w.ownsRow base e size v n xs) : ∀ k, v.ownBlock = some k → base ≤ k := fun k hk => (h.lt k hk).1

section
variable {P : Program} {ops : Array Oper} {rest : List Oper} {o : Oper} {a : Act} {Q : Exit → Act → World → Prop}

/-- append(v, y), y of one cell, v a row of one's own. -/
theorem app1 {W : World} (base : Nat) (hgd : o.guard = none) (s x : Operand) (t e : TypeId) (z : Value) (bytes : Nat)
    (ho : o.op = .call { callee := .builtin .append, args := #[s, x], argTypes := #[t, t] })
    (ht : P.underlying t = some (.slice e)) (hinfo : (P.info? e).map (fun i => (i.zero, i.size, i.bytes)) = some (some z, 1, bytes)) (hz : z.cells.size = 1) (hb0 : 0 < bytes)
    (v : Value) (xs : List Value) (HO : W.ownsRow base e 1 v xs.length xs) (y : Value) (hs : a.eval s = v) (hx : a.eval x = .slice (some ⟨W.heap.size, 0, none⟩) 1 1) (h1 : y.oneCell' = true)
    (hbase : base ≤ W.heap.size) (hl : (xs.length + 1) * bytes ≤ 140737488355328)
    (h : ∀ v1 w1, w1.ownsRow base e 1 v1 (xs ++ [y]).length (xs ++ [y]) → W.grownBy w1 v.ownBlock → Hat W v v1 → wpList P ops Q rest (a.put o.dst v1) w1) :
    wpList P ops Q (o :: rest) a (W.alloc (.cells #[y] e)) := by
  obtain ⟨i0, hi, hzz⟩ := Option.map_eq_some_iff.1 hinfo
  simp only [Prod.mk.injEq] at hzz
  obtain ⟨hz0, hz1, hz2⟩ := hzz
  have hlen : xs.length + 1 ≤ 140737488355328 := Nat.le_trans (Nat.le_mul_of_pos_right _ hb0) hl
  refine wpList_append_own_at (W.alloc (.cells #[y] e)) hgd s x t ho base e i0 z 1 bytes ht hi hz0 hz1 hz2 hz (by omega) v xs.length xs hs (HO.alloc _) ⟨W.heap.size, 0, none⟩ 1 1 [y] hx rfl
    (World.news_of_block (cs := #[y]) (t := e) (fr := (0, 0)) (heap_alloc_new W _)) (by simpa using h1) (by simp only [maxLen]; omega) hl (by simp; omega) ?_
  intro v1 w1 hown hg _ hat
  refine h v1 w1 (by simpa using hown) (World.grownBy.trans (World.grownBy_alloc W _ _) hg) ?_
  rcases hat with hat | hat
  · exact .inl hat
  · exact .inr ⟨_, hat, by simp⟩
end

/-- bytes as cells. -/
def u8s (bs : Bs) : List Value := bs.map fun b => .int .u8 (b.toNat : Int)
/-- a text of bytes. -/
def str (bs : Bs) : Value := .string ⟨bs.toArray⟩
theorem u8s_length (bs : Bs) : (u8s bs).length = bs.length := by simp [u8s]
theorem u8s_append (a b : Bs) : u8s (a ++ b) = u8s a ++ u8s b := by simp [u8s]
theorem u8s_snoc (a : Bs) (x : Nat) (h : x < 256) : u8s a ++ [.int .u8 (x : Int)] = u8s (a ++ [b8 x]) := by
  rw [u8s_append]; simp [u8s, Wr.b8_toNat x h]

theorem strOfNums_map (l : Bs) : strOfNums (l.map fun b => (b.toNat : Int)) = ⟨l.toArray⟩ := by
  unfold strOfNums
  congr 2
  rw [List.map_map]
  refine (List.map_congr_left fun b _ => ?_).trans (List.map_id l)
  simp
/-- string(b) of a row of bytes of one's own. -/
theorem own_str {w : World} {base n : Nat} {v : Value} {bs : Bs} (h : w.ownsRow base 5 1 v n (u8s bs)) : (convert 69 9 v).run Tryz.prog w = .ok (str bs) w := by
  have hl : bs.length = n := by have := h.1; simp [u8s] at this; exact this
  rcases h.2 with ⟨rfl, rfl⟩ | ⟨g, cap, cur, rfl, _⟩
  · obtain rfl : bs = [] := List.eq_nil_of_length_eq_zero hl
    exact run_convert_bytes_nil w 69 5 Tryz.underlying69 Tryz.underlying5 0 0 9 Tryz.underlying9
  · have := run_convert_bytes_arg w 69 5 Tryz.underlying69 Tryz.underlying5 g 0 n cap (bs.map fun b => (b.toNat : Int)) (by simpa using hl) (fun i hi => ?_) 9 Tryz.underlying9
    · rw [this, strOfNums_map]; rfl
    · have hc := h.cells (g := g) rfl i (.int .u8 ((bs.map fun b => (b.toNat : Int)).getD i 0)) (by simp [u8s, List.getElem?_eq_getElem (show i < bs.length by omega)])
      have ha : (⟨g, 0, none⟩ : Addr).add i = ⟨g, 0 + i, none⟩ := by unfold Addr.add; split <;> simp_all
      rwa [ha] at hc

/-- string(b[:]) of a block of bytes that was just laid. -/
theorem conv_alloc (w : World) (bs : Bs) (T : TypeId) : (convert 69 9 (.slice (some ⟨w.heap.size, 0, none⟩) bs.length bs.length)).run Tryz.prog (w.alloc (.cells (u8s bs).toArray T)) = .ok (str bs) (w.alloc (.cells (u8s bs).toArray T)) := by
  have := run_convert_bytes_arg (P := Tryz.prog) (w.alloc (.cells (u8s bs).toArray T)) 69 5 Tryz.underlying69 Tryz.underlying5 w.heap.size 0 bs.length bs.length (bs.map fun b => (b.toNat : Int)) (by simp) (fun i hi => ?_) 9 Tryz.underlying9
  · rw [this, strOfNums_map]; rfl
  · rw [cell_of_row _ _ _ _ _ _ (heap_alloc_new w _)]
    simp [u8s, List.getElem?_eq_getElem (show i < bs.length by omega)]

theorem ext_any (bs : Bs) (a b : Nat) : ByteArray.extract ⟨bs.toArray⟩ a b = ⟨((bs.take b).drop a).toArray⟩ := by
  apply ByteArray.ext
  rw [ByteArray.data_extract]
  simp [List.drop_take]
theorem ext_drop (bs : Bs) (a : Nat) : ByteArray.extract ⟨bs.toArray⟩ a bs.length = ⟨(bs.drop a).toArray⟩ := by
  rw [ext_any, List.take_length]
theorem ext_take (bs : Bs) (b : Nat) : ByteArray.extract ⟨bs.toArray⟩ 0 b = ⟨(bs.take b).toArray⟩ := by
  rw [ext_any, List.drop_zero]

theorem idx (l : Bs) (i : Int) (b : UInt8) (h0 : 0 ≤ i) (h : l[i.toNat]? = some b) (W : World) : (Instr.index 9 (.string ⟨l.toArray⟩) (.int .i64 i)).run Tryz.prog W = .ok (.int .u8 (b.toNat : Int)) W := by
  obtain ⟨hl, hb⟩ := List.getElem?_eq_some_iff.1 h
  have hs : (⟨l.toArray⟩ : ByteArray).size = l.length := by simp [ByteArray.size]
  rw [run_index_string W 9 _ _ _ Tryz.underlying9, dif_pos (by rw [hs]; omega)]
  congr 3
  rw [← hb]
  rfl
theorem conv_b (r : Bs) (W : World) : (convert 9 69 (.string ⟨r.toArray⟩)).run Tryz.prog W = .ok (.slice (some ⟨W.heap.size, 0, none⟩) r.length (grownCap W r.length 0 5)) (Lib.bytesWorld W 5 ⟨r.toArray⟩) :=
  Lib.run_convert_string_bytes W 9 69 5 ⟨r.toArray⟩ Tryz.underlying9 Tryz.underlying69 Tryz.underlying5
theorem bw_cell (r : Bs) (W : World) (j : Nat) (b : UInt8) (h : r[j]? = some b) : (Lib.bytesWorld W 5 ⟨r.toArray⟩).cell? ⟨W.heap.size, j, none⟩ = some (.int .u8 (b.toNat : Int)) := by
  obtain ⟨hl, hb⟩ := List.getElem?_eq_some_iff.1 h
  rw [Lib.bytesWorld_cell W 5 ⟨r.toArray⟩ j hl]
  simp [h]
theorem bw_below {B : Nat} {w W : World} (h : Below B w W) (hB : B ≤ W.heap.size) (r : Bs) : Below B w (Lib.bytesWorld W 5 ⟨r.toArray⟩) :=
  h.trans ⟨rfl, rfl, rfl, by rw [Lib.bytesWorld_size]; omega, fun i hi => Lib.bytesWorld_at_old W 5 _ i (by omega)⟩
theorem below_drewN {B : Nat} {a w : World} (h : Below B a w) (n : Nat) : Below B a (w.drewN n) := ⟨h.os, h.tape, h.output, h.size, h.block⟩
/-- a block that is known whole; none of it is frozen. -/
def Blk (w : World) (g : Nat) (t : TypeId) (cs : Array Value) : Prop := w.heap[g]? = some (.cells cs t (0, 0))
section
variable {w w' : World} {g : Nat} {t : TypeId} {cs : Array Value}
theorem Blk.lt (h : Blk w g t cs) : g < w.heap.size := by
  rcases Nat.lt_or_ge g w.heap.size with hlt | hge
  · exact hlt
  · unfold Blk at h; rw [Array.getElem?_eq_none hge] at h; cases h
theorem Blk.cell (h : Blk w g t cs) (i : Nat) (v : Value) (hv : cs[i]? = some v) : w.cell? ⟨g, i, none⟩ = some v := (cell_of_row w g i cs t (0, 0) h).trans hv
theorem Blk.frozen (h : Blk w g t cs) (i : Nat) : w.frozen? ⟨g, i, none⟩ = false := by
  unfold Blk at h
  simp [World.frozen?, h]
theorem Blk.new (w : World) (t : TypeId) (cs : Array Value) : Blk (w.alloc (.cells cs t)) w.heap.size t cs := heap_alloc_new w _
theorem Blk.drew (h : Blk w g t cs) : Blk w.drew g t cs := h
theorem Blk.drewN (h : Blk w g t cs) (n : Nat) : Blk (w.drewN n) g t cs := h
theorem Blk.alloc (h : Blk w g t cs) (o : Obj) : Blk (w.alloc o) g t cs := (Below.heap_alloc w o g h.lt).trans h
theorem Blk.set_ (h : Blk w g t cs) (i : Nat) (u : Value) : Blk (w.setCell ⟨g, i, none⟩ u) g t (cs.setIfInBounds i u) := by
  unfold Blk at h ⊢
  simp [World.setCell, Array.getElem?_modify, h]
theorem Blk.far (h : Blk w g t cs) {p : Addr} (hp : g ≠ p.block) (u : Value) : Blk (w.setCell p u) g t cs := (Below.heap_setCell w p u g hp).trans h
theorem Blk.below {B : Nat} (h : Blk w g t cs) (hb : Below B w w') (hg : g < B) : Blk w' g t cs := (hb.block g hg).trans h
theorem Blk.keep (h : Blk w g t cs) (hb : Below w.heap.size w w') : Blk w' g t cs := (hb.block g h.lt).trans h
theorem Blk.grown {row : Option Nat} (h : Blk w g t cs) (hb : w.grownBy w' row) (hg : some g ≠ row) : Blk w' g t cs := (hb.block g h.lt hg).trans h
theorem Blk.ne_ {g' : Nat} {t' : TypeId} {cs' : Array Value} (h : Blk w g t cs) (h' : Blk w g' t' cs') (hne : t ≠ t') : g ≠ g' := by
  rintro rfl
  unfold Blk at h h'
  rw [h] at h'
  injection h' with h'
  injection h' with _ ht
  exact hne ht
theorem own_blk_ne {base : Nat} {e : TypeId} {size n : Nat} {v : Value} {xs : List Value} (h : w.ownsRow base e size v n xs) (hg : Blk w g t cs) (hne : e ≠ t) : v.ownBlock ≠ some g := by
  rcases h.2 with ⟨rfl, _⟩ | ⟨g', cap, cur, rfl, _, hh, _⟩
  · simp [Value.ownBlock]
  · intro he
    have : g' = g := by simpa [Value.ownBlock] using he
    subst this
    exact Blk.ne_ (t := e) hh hg hne rfl
end
/-- a result that is a whole block: an array, a struct. -/
theorem results_arr {fn : Func} {t : Tmp} {ty : TypeId} {n : Nat} {el : TypeId} (h : fn.results = #[.cell t ty]) {tmps : Array Value} {w : World} {g : Nat} {ty' : TypeId} {cs : Array Value}
    (hp : tmps.getD t undef = .pointer (some ⟨g, 0, none⟩)) (hu : Tryz.prog.underlying ty = some (.array n el))
    (hi : (Tryz.prog.info? ty).map (·.size) = some cs.size) (hb : Blk w g ty' cs) : (results fn tmps).run Tryz.prog w = .ok (.agg cs) w := by
  have hp' : tmps[t]?.getD undef = .pointer (some ⟨g, 0, none⟩) := by simpa using hp
  simp only [results, h]
  simp [hp', asAddr, run_loadVar_row (P := Tryz.prog) w g ty' ty cs (0, 0) _ hb hu rfl hi]
theorem results_struct {fn : Func} {t : Tmp} {ty : TypeId} {fs : Array Field} (h : fn.results = #[.cell t ty]) {tmps : Array Value} {w : World} {g : Nat} {ty' : TypeId} {cs : Array Value}
    (hp : tmps.getD t undef = .pointer (some ⟨g, 0, none⟩)) (hu : Tryz.prog.underlying ty = some (.struct fs))
    (hi : (Tryz.prog.info? ty).map (·.size) = some cs.size) (hb : Blk w g ty' cs) : (results fn tmps).run Tryz.prog w = .ok (.agg cs) w := by
  have hp' : tmps[t]?.getD undef = .pointer (some ⟨g, 0, none⟩) := by simpa using hp
  simp only [results, h]
  simp [hp', asAddr, run_loadVar_row (P := Tryz.prog) w g ty' ty cs (0, 0) _ hb hu rfl hi]
/-- w' is w, but for the blocks of S, and for what is new. -/
structure Keep (S : Nat → Prop) (w w' : World) : Prop where
  os : w'.os = w.os
  tape : w'.tape = w.tape
  output : w'.output = w.output
  size : w.heap.size ≤ w'.heap.size
  block : ∀ k, k < w.heap.size → ¬ S k → w'.heap[k]? = w.heap[k]?
theorem Keep.refl (S : Nat → Prop) (w : World) : Keep S w w := ⟨rfl, rfl, rfl, Nat.le_refl _, fun _ _ _ => rfl⟩
theorem Keep.trans {S S' : Nat → Prop} {a b c : World} (h : Keep S a b) (k : Keep S' b c) (hs : ∀ i, i < a.heap.size → S' i → S i) : Keep S a c :=
  ⟨k.os.trans h.os, k.tape.trans h.tape, k.output.trans h.output, Nat.le_trans h.size k.size, fun i hi hn => (k.block i (Nat.lt_of_lt_of_le hi h.size) (fun e => hn (hs i hi e))).trans (h.block i hi hn)⟩
theorem Keep.mono {S S' : Nat → Prop} {a b : World} (h : Keep S' a b) (hs : ∀ i, i < a.heap.size → S' i → S i) : Keep S a b := (Keep.refl S a).trans h hs
theorem Keep.of_below {S : Nat → Prop} {a b : World} (h : Below a.heap.size a b) : Keep S a b := ⟨h.os, h.tape, h.output, h.size, fun i hi _ => h.block i hi⟩
theorem Keep.of_grown {a b : World} {row : Option Nat} (h : a.grownBy b row) : Keep (fun i => some i = row) a b := ⟨h.os, h.tape, h.output, h.size, h.block⟩
theorem Keep.drewN {S : Nat → Prop} {a b : World} (h : Keep S a b) (n : Nat) : Keep S a (b.drewN n) := ⟨h.os, h.tape, h.output, h.size, h.block⟩
theorem Keep.drew {S : Nat → Prop} {a b : World} (h : Keep S a b) : Keep S a b.drew := ⟨h.os, h.tape, h.output, h.size, h.block⟩
theorem Keep.alloc {S : Nat → Prop} {a b : World} (h : Keep S a b) (o : Obj) : Keep S a (b.alloc o) :=
  ⟨h.os, h.tape, h.output, Nat.le_trans h.size (by simp), fun i hi hn => (Below.heap_alloc b o i (Nat.lt_of_lt_of_le hi h.size)).trans (h.block i hi hn)⟩
theorem Keep.setCell {S : Nat → Prop} {a b : World} (h : Keep S a b) (p : Addr) (hp : p.block < a.heap.size → S p.block) (u : Value) : Keep S a (b.setCell p u) :=
  ⟨h.os, h.tape, h.output, by simpa [World.setCell] using h.size, fun i hi hn => (Below.heap_setCell b p u i (fun e => hn (by subst e; exact hp hi))).trans (h.block i hi hn)⟩
theorem Keep.freeze {S : Nat → Prop} {a b : World} (h : Keep S a b) (p : Addr) (hp : p.block < a.heap.size → S p.block) (n : Nat) : Keep S a (b.freeze p n) := by
  have hf : ∀ i, i ≠ p.block → (b.freeze p n).heap[i]? = b.heap[i]? := by
    intro i hi
    unfold World.freeze
    split
    · rfl
    · simp only [Array.getElem?_modify]; rw [if_neg (Ne.symm hi)]
  refine ⟨?_, ?_, ?_, ?_, fun i hi hn => (hf i (fun e => hn (by subst e; exact hp hi))).trans (h.block i hi hn)⟩
  · rw [← h.os]; unfold World.freeze; split <;> rfl
  · rw [← h.tape]; unfold World.freeze; split <;> rfl
  · rw [← h.output]; unfold World.freeze; split <;> rfl
  · refine Nat.le_trans h.size ?_; unfold World.freeze; split <;> simp
theorem Keep.blk {S : Nat → Prop} {a b : World} (h : Keep S a b) {g : Nat} {t : TypeId} {cs : Array Value} (hb : Blk a g t cs) (hn : ¬ S g) : Blk b g t cs := (h.block g hb.lt hn).trans hb
theorem Keep.below {S : Nat → Prop} {a b : World} (h : Keep S a b) {B : Nat} (hS : ∀ i, S i → B ≤ i) (hB : B ≤ a.heap.size) : Below B a b :=
  ⟨h.os, h.tape, h.output, h.size, fun i hi => h.block i (by omega) (fun e => by have := hS i e; omega)⟩
theorem Keep.row {S : Nat → Prop} {a b : World} (h : Keep S a b) {base : Nat} {e : TypeId} {size n : Nat} {v : Value} {xs : List Value} (ho : a.ownsRow base e size v n xs) (hn : ∀ g, v.ownBlock = some g → ¬ S g) : b.ownsRow base e size v n xs := by
  obtain ⟨h1, h2⟩ := ho
  refine ⟨h1, ?_⟩
  rcases h2 with h2 | ⟨g, cap, cur, rfl, hb, hh, r⟩
  · exact .inl h2
  · exact .inr ⟨g, cap, cur, rfl, hb, Keep.blk (t := e) h hh (hn g rfl), r⟩
theorem Keep.rowF {S : Nat → Prop} {a b : World} (h : Keep S a b) {base : Nat} {e : TypeId} {size n : Nat} {v : Value} {xs : List Value} (ho : a.ownsRowF base e size v n xs) (hn : ∀ g, v.ownBlock = some g → ¬ S g) : b.ownsRowF base e size v n xs := by
  obtain ⟨h1, h2⟩ := ho
  refine ⟨h1, ?_⟩
  rcases h2 with h2 | ⟨g, cap, cur, fz, rfl, hb, hh, r⟩
  · exact .inl h2
  · refine .inr ⟨g, cap, cur, fz, rfl, hb, ?_, r⟩
    have hlt : g < a.heap.size := (Array.getElem?_eq_some_iff.1 hh).1
    exact (h.block g hlt (hn g rfl)).trans hh
theorem own_blk_neF {w : World} {g : Nat} {t : TypeId} {cs : Array Value} {base : Nat} {e : TypeId} {size n : Nat} {v : Value} {xs : List Value} (h : w.ownsRowF base e size v n xs) (hg : Blk w g t cs) (hne : e ≠ t) : v.ownBlock ≠ some g := by
  rcases h.2 with ⟨rfl, _⟩ | ⟨g', cap, cur, fz, rfl, _, hh, _⟩
  · simp [Value.ownBlock]
  · intro he
    have : g' = g := by simpa [Value.ownBlock] using he
    subst this
    unfold Blk at hg
    rw [hh] at hg
    injection hg with hg
    injection hg with _ ht
    exact hne ht
theorem own_sliceF {w : World} {base n : Nat} {e : TypeId} {size : Nat} {v : Value} {xs : List Value} (h : w.ownsRowF base e size v n xs) : ∃ A c, v = .slice A n c := by
  rcases h.2 with ⟨rfl, rfl⟩ | ⟨g, cap, cur, fz, rfl, _⟩
  · exact ⟨none, 0, rfl⟩
  · exact ⟨_, cap, rfl⟩
theorem own_slice {w : World} {base n : Nat} {e : TypeId} {size : Nat} {v : Value} {xs : List Value} (h : w.ownsRow base e size v n xs) : ∃ A c, v = .slice A n c := by
  rcases h.2 with ⟨rfl, rfl⟩ | ⟨g, cap, cur, rfl, _⟩
  · exact ⟨none, 0, rfl⟩
  · exact ⟨_, cap, rfl⟩
section
variable {P : Program}
/-- append(b, s...) onto a row of bytes whose head may be frozen; where the new row lies. -/
theorem run_app_strF (w : World) (t u ty e : TypeId) (i : TypeInfo) (ht : P.underlying t = some (.slice e)) (hu : P.underlying u = some .string) (hi : P.info? e = some i) (hz : i.zero = some (.int .u8 0))
    (hsize : i.size = 1) (hby : i.bytes = 1) (v : Value) (n : Nat) (xs : List Value) (hown : w.ownsRowF 0 e 1 v n xs) (s : ByteArray) (h63 : n + s.size ≤ maxLen) (hbytes : n + s.size ≤ 140737488355328) :
    ∃ v' w', (Builtin.append_ #[t, u] ty #[v, .string s]).run P w = .ok v' w' ∧ w'.ownsRowF 0 e 1 v' (n + s.size) (xs ++ Lib.strCells s) ∧ w.grownBy w' v.ownBlock ∧ (v'.ownBlock = v.ownBlock ∨ ∀ k, v'.ownBlock = some k → w.heap.size ≤ k) := by
  rcases hown.2 with ⟨rfl, rfl⟩ | ⟨g, cap, cur, fz, rfl, hbg, hg, hfz, hnc, hcm, hcs, htake⟩
  · obtain ⟨v', w', h1, h2, h3, h4⟩ := Lib.run_append_own_string (P := P) w w.heap.size t u ty e i ht hu hi hz hsize hby (.slice none 0 0) 0 xs ⟨hown.1, .inl ⟨rfl, rfl⟩⟩ s h63 hbytes (Nat.le_refl _)
    refine ⟨v', w', h1, ?_, h3, .inr fun k hk => (h2.lt k hk).1⟩
    obtain ⟨k1, k2⟩ := World.ownsRowF_of h2
    exact ⟨k1, k2.elim .inl fun ⟨g, cap, cur, fz, a, _, r⟩ => .inr ⟨g, cap, cur, fz, a, Nat.zero_le _, r⟩⟩
  · have hsmall : n + s.size ≤ 9223372036854775807 := by simp only [maxLen] at h63; omega
    have hxl : xs.length = n := by simpa using hown.1
    have hlen : (xs ++ Lib.strCells s).length = (n + s.size) * 1 := by rw [List.length_append, hxl, Lib.strCells_length, Nat.mul_one]
    by_cases hroom : n + s.size ≤ cap
    · have hcs' : cur.size = cap := by simpa using hcs
      have hr := Lib.run_append_room_stringF (P := P) w t u ty e i ht hu hi hsize g n cap cur fz hg (by simpa using hfz) s hroom (by omega)
      refine ⟨_, _, hr, ⟨hlen, .inr ⟨g, cap, _, fz, rfl, hbg, setRow_heap w g cur _ e _ hg, by omega, hroom, hcm, ?_, ?_⟩⟩, ⟨rfl, rfl, rfl, by simp, fun k _ hk => setRow_other w g k _ (fun e => hk (by simp [Value.ownBlock, e]))⟩, .inl rfl⟩
      · simp only [List.size_toArray, List.length_append, List.length_take, List.length_drop, Array.length_toList, Lib.strCells_length]
        omega
      · have ht' : cur.toList.take n = xs := by simpa using htake
        rw [ht', ← hlen]
        exact List.take_left
    · have holds : ∀ j u, xs[j]? = some u → w.cell? ((⟨g, 0, none⟩ : Addr).add j) = some u := hown.cells (g := g) rfl
      have hr := Lib.run_append_grow_string (P := P) w t u ty e i (.int .u8 0) ht hu hi hz ⟨g, 0, none⟩ n cap xs (by rw [hsize]; simpa using hxl) holds s (by omega) (by omega) (by rw [hby]; exact growslice_fits (by omega) (by omega))
      have hge := grownCap_ge w (n + s.size) cap e
      have hcm2 : grownCap w (n + s.size) cap e ≤ maxLen := grownCap_le_maxLen w (n + s.size) cap e h63
      refine ⟨_, _, hr, ⟨hlen, .inr ⟨w.heap.size, _, _, (0, 0), rfl, Nat.zero_le _, heap_alloc_new w.drew _, Nat.zero_le _, hge, hcm2, ?_, ?_⟩⟩, ⟨rfl, rfl, rfl, by simp, fun k hk _ => Below.heap_alloc w.drew _ k hk⟩, .inr fun k hk => ?_⟩
      · have hz1 : (Value.int IntKind.u8 0).cells.size = 1 := rfl
        simp only [Array.size_append, List.size_toArray, size_zeroCells, hz1, hxl, Lib.strCells_length]
        omega
      · simp only [Array.toList_append, List.append_assoc]
        rw [← List.append_assoc, ← hlen]
        exact List.take_left
      · simp [Value.ownBlock] at hk; omega
/-- append(b, s...) onto a row of bytes of one's own; where the new row lies. -/
theorem run_app_str (w : World) (t u ty e : TypeId) (i : TypeInfo) (ht : P.underlying t = some (.slice e)) (hu : P.underlying u = some .string) (hi : P.info? e = some i) (hz : i.zero = some (.int .u8 0))
    (hsize : i.size = 1) (hby : i.bytes = 1) (v : Value) (n : Nat) (xs : List Value) (hown : w.ownsRow 0 e 1 v n xs) (s : ByteArray) (h63 : n + s.size ≤ maxLen) (hbytes : n + s.size ≤ 140737488355328) :
    ∃ v' w', (Builtin.append_ #[t, u] ty #[v, .string s]).run P w = .ok v' w' ∧ w'.ownsRow 0 e 1 v' (n + s.size) (xs ++ Lib.strCells s) ∧ w.grownBy w' v.ownBlock ∧ (v'.ownBlock = v.ownBlock ∨ ∀ k, v'.ownBlock = some k → w.heap.size ≤ k) := by
  rcases hown.2 with ⟨rfl, rfl⟩ | ⟨g, cap, cur, rfl, hbg, hg, hnc, hcm, hcs, htake⟩
  · obtain ⟨v', w', h1, h2, h3, h4⟩ := Lib.run_append_own_string (P := P) w w.heap.size t u ty e i ht hu hi hz hsize hby (.slice none 0 0) 0 xs ⟨hown.1, .inl ⟨rfl, rfl⟩⟩ s h63 hbytes (Nat.le_refl _)
    refine ⟨v', w', h1, ?_, h3, .inr fun k hk => (h2.lt k hk).1⟩
    obtain ⟨k1, k2⟩ := h2
    exact ⟨k1, k2.elim .inl fun ⟨g, cap, cur, a, _, r⟩ => .inr ⟨g, cap, cur, a, Nat.zero_le _, r⟩⟩
  · have hsmall : n + s.size ≤ 9223372036854775807 := by simp only [maxLen] at h63; omega
    have hxl : xs.length = n := by simpa using hown.1
    have hlen : (xs ++ Lib.strCells s).length = (n + s.size) * 1 := by rw [List.length_append, hxl, Lib.strCells_length, Nat.mul_one]
    by_cases hroom : n + s.size ≤ cap
    · have hcs' : cur.size = cap := by simpa using hcs
      have hr := Lib.run_append_room_stringF (P := P) w t u ty e i ht hu hi hsize g n cap cur (0, 0) hg (Nat.zero_le _) s hroom (by omega)
      refine ⟨_, _, hr, ⟨hlen, .inr ⟨g, cap, _, rfl, hbg, setRow_heap w g cur _ e _ hg, hroom, hcm, ?_, ?_⟩⟩, ⟨rfl, rfl, rfl, by simp, fun k _ hk => setRow_other w g k _ (fun e => hk (by simp [Value.ownBlock, e]))⟩, .inl rfl⟩
      · simp only [List.size_toArray, List.length_append, List.length_take, List.length_drop, Array.length_toList, Lib.strCells_length]
        omega
      · have ht' : cur.toList.take n = xs := by simpa using htake
        rw [ht', ← hlen]
        exact List.take_left
    · have holds : ∀ j u, xs[j]? = some u → w.cell? ((⟨g, 0, none⟩ : Addr).add j) = some u := hown.cells (g := g) rfl
      have hr := Lib.run_append_grow_string (P := P) w t u ty e i (.int .u8 0) ht hu hi hz ⟨g, 0, none⟩ n cap xs (by rw [hsize]; simpa using hxl) holds s (by omega) (by omega) (by rw [hby]; exact growslice_fits (by omega) (by omega))
      have hge := grownCap_ge w (n + s.size) cap e
      have hcm2 : grownCap w (n + s.size) cap e ≤ maxLen := grownCap_le_maxLen w (n + s.size) cap e h63
      refine ⟨_, _, hr, ⟨hlen, .inr ⟨w.heap.size, _, _, rfl, Nat.zero_le _, heap_alloc_new w.drew _, hge, hcm2, ?_, ?_⟩⟩, ⟨rfl, rfl, rfl, by simp, fun k hk _ => Below.heap_alloc w.drew _ k hk⟩, .inr fun k hk => ?_⟩
      · have hz1 : (Value.int IntKind.u8 0).cells.size = 1 := rfl
        simp only [Array.size_append, List.size_toArray, size_zeroCells, hz1, hxl, Lib.strCells_length]
        omega
      · simp only [Array.toList_append, List.append_assoc]
        rw [← List.append_assoc, ← hlen]
        exact List.take_left
      · simp [Value.ownBlock] at hk; omega
theorem step_app_str {w : World} {ops : Array Oper} {o : Oper} {a : Act} {K : Act → World → Prop} {Q : Exit → Act → World → Prop} {E : Prop} (hgd : o.guard = none) (sl x : Operand) (t u : TypeId)
    (ho : o.op = .call { callee := .builtin .append, args := #[sl, x], argTypes := #[t, u] })
    (e : TypeId) (i : TypeInfo) (ht : P.underlying t = some (.slice e)) (hu : P.underlying u = some .string) (hi : P.info? e = some i) (hz : i.zero = some (.int .u8 0))
    (hsize : i.size = 1) (hby : i.bytes = 1)
    (v : Value) (n : Nat) (xs : List Value) (hown : w.ownsRow 0 e 1 v n xs) (hs : a.eval sl = v) (s : ByteArray) (hx : a.eval x = .string s)
    (h63 : n + s.size ≤ maxLen) (hbytes : n + s.size ≤ 140737488355328)
    (h : ∀ v' w', w'.ownsRow 0 e 1 v' (n + s.size) (xs ++ Lib.strCells s) → w.grownBy w' v.ownBlock → (v'.ownBlock = v.ownBlock ∨ ∀ k, v'.ownBlock = some k → w.heap.size ≤ k) → K (a.put o.dst v') w') :
    if Region.wanted o (yielded ops a.tmps) = true then Oper.wp P o a w K Q else E := by
  have hw : Region.wanted o (yielded ops a.tmps) = true := by simp [Region.wanted, hgd]
  rw [if_pos hw]
  obtain ⟨v', w', hr, h2, h3, h4⟩ := run_app_str (P := P) w t u o.type e i ht hu hi hz hsize hby v n xs hown s h63 hbytes
  unfold Oper.wp execOp
  simp only [ho, resolve, invoke, builtin, Sem.run_bind, Sem.run_pure, Result.andThen_ok, List.map_toArray, List.map_cons, List.map_nil, hs, hx, hr]
  exact h v' w' h2 h3 h4
theorem app_strF {w : World} {ops : Array Oper} {rest : List Oper} {o : Oper} {a : Act} {Q : Exit → Act → World → Prop} (hgd : o.guard = none) (sl x : Operand) (t u : TypeId)
    (ho : o.op = .call { callee := .builtin .append, args := #[sl, x], argTypes := #[t, u] })
    (e : TypeId) (i : TypeInfo) (ht : P.underlying t = some (.slice e)) (hu : P.underlying u = some .string) (hi : P.info? e = some i) (hz : i.zero = some (.int .u8 0))
    (hsize : i.size = 1) (hby : i.bytes = 1)
    (v : Value) (n : Nat) (xs : List Value) (hown : w.ownsRowF 0 e 1 v n xs) (hs : a.eval sl = v) (s : ByteArray) (hx : a.eval x = .string s)
    (h63 : n + s.size ≤ maxLen) (hbytes : n + s.size ≤ 140737488355328)
    (h : ∀ v' w', w'.ownsRowF 0 e 1 v' (n + s.size) (xs ++ Lib.strCells s) → w.grownBy w' v.ownBlock → (v'.ownBlock = v.ownBlock ∨ ∀ k, v'.ownBlock = some k → w.heap.size ≤ k) → wpList P ops Q rest (a.put o.dst v') w') : wpList P ops Q (o :: rest) a w := by
  refine wpList_plain hgd fun K hK => ?_
  obtain ⟨v', w', hr, h2, h3, h4⟩ := run_app_strF (P := P) w t u o.type e i ht hu hi hz hsize hby v n xs hown s h63 hbytes
  unfold Oper.wp execOp
  simp only [ho, resolve, invoke, builtin, Sem.run_bind, Sem.run_pure, Result.andThen_ok, List.map_toArray, List.map_cons, List.map_nil, hs, hx, hr]
  exact hK _ _ (h v' w' h2 h3 h4)
end
theorem set_same {cs : Array Value} {k : Nat} {v : Value} (h : cs[k]? = some v) : cs.setIfInBounds k v = cs := by
  apply Array.ext_getElem?
  intro i
  rw [Array.getElem?_setIfInBounds]
  split
  · rename_i e; subst e
    have := (Array.getElem?_eq_some_iff.1 h).1
    rw [if_pos this, h]
  · rfl
theorem own_zero {w : World} {base n c : Nat} {e : TypeId} {size : Nat} {A : Option Addr} {xs : List Value} (h : w.ownsRow base e size (.slice A n c) n xs) : w.ownsRow base e size (.slice A 0 c) 0 [] := by
  refine ⟨by simp, ?_⟩
  rcases h.2 with ⟨hv, rfl⟩ | ⟨g, cap, cur, hv, hb, hh, hc, hm, hs, _⟩
  · injection hv with h1 _ h2; subst h1 h2; exact .inl ⟨rfl, rfl⟩
  · injection hv with h1 _ h2; subst h1 h2; exact .inr ⟨g, _, cur, rfl, hb, hh, Nat.zero_le _, hm, hs, by simp⟩
/-- a slice that is read: its cells. -/
def Rd (w : World) (A : Option Addr) (xs : List Value) : Prop := xs ≠ [] → ∃ ad, A = some ad ∧ ad.block < w.heap.size ∧ ∀ j u, xs[j]? = some u → w.cell? (ad.add j) = some u
theorem block_of_add (a : Addr) (n : Nat) : (a.add n).block = a.block := by unfold Addr.add; split <;> rfl
theorem add_of_add (a : Addr) (i j : Nat) : (a.add i).add j = a.add (i + j) := by
  unfold Addr.add
  by_cases hi : i = 0 <;> by_cases hj : j = 0 <;> simp [hi, hj, Nat.add_assoc]
theorem Rd.at_ {w : World} {A : Option Addr} {xs : List Value} (h : Rd w A xs) {k : Nat} (hk : k < xs.length) : ∃ ad, A = some ad ∧ w.cell? (ad.add k) = some xs[k] := by
  obtain ⟨ad, rfl, _, hc⟩ := h (by intro e; simp [e] at hk)
  exact ⟨ad, rfl, hc k _ (List.getElem?_eq_getElem hk)⟩
theorem Rd.nil (w : World) (A : Option Addr) : Rd w A [] := fun h => absurd rfl h
theorem Rd.keep {S : Nat → Prop} {w w' : World} {A : Option Addr} {xs : List Value} (h : Rd w A xs) (hk : Keep S w w') (hn : ∀ ad, A = some ad → ¬ S ad.block) : Rd w' A xs := by
  intro hne
  obtain ⟨ad, rfl, hl, hc⟩ := h hne
  refine ⟨ad, rfl, Nat.lt_of_lt_of_le hl hk.size, fun j u hu => ?_⟩
  have hb : w'.heap[(ad.add j).block]? = w.heap[(ad.add j).block]? := by rw [block_of_add]; exact hk.block _ hl (hn ad rfl)
  exact (World.cell?_of_block hb).trans (hc j u hu)
theorem Rd.below {w w' : World} {A : Option Addr} {xs : List Value} (h : Rd w A xs) (hb : Below w.heap.size w w') : Rd w' A xs := h.keep (Keep.of_below (S := fun _ => False) hb) (fun _ _ e => e)
theorem Rd.belowB {B : Nat} {w w' : World} {A : Option Addr} {xs : List Value} (h : Rd w A xs) (hb : Below B w w') (hB : w.heap.size ≤ B) : Rd w' A xs := h.below (hb.mono hB)
theorem Rd.drew {w : World} {A : Option Addr} {xs : List Value} (h : Rd w A xs) : Rd w.drew A xs := h
theorem Rd.drewN {w : World} {A : Option Addr} {xs : List Value} (h : Rd w A xs) (n : Nat) : Rd (w.drewN n) A xs := h
theorem Rd.take_ {w : World} {A : Option Addr} {xs : List Value} (h : Rd w A xs) (n : Nat) : Rd w A (xs.take n) := by
  intro hne
  obtain ⟨ad, rfl, hl, hc⟩ := h (by rintro rfl; simp at hne)
  refine ⟨ad, rfl, hl, fun j u hu => hc j u ?_⟩
  rw [List.getElem?_take] at hu
  split at hu
  · exact hu
  · cases hu
theorem Rd.cut {w : World} {A : Option Addr} {xs : List Value} (h : Rd w A xs) {k cap : Nat} (hk : k ≤ xs.length) (hc : xs.length ≤ cap) : Rd w (if cap = k then A else A.map (·.add k)) (xs.drop k) := by
  intro hne
  have hlt : k < xs.length := by
    rcases Nat.lt_or_ge k xs.length with h' | h'
    · exact h'
    · exact absurd (List.drop_of_length_le h') hne
  obtain ⟨ad, rfl, hl, hcell⟩ := h (by intro e; simp [e] at hlt)
  rw [if_neg (by omega)]
  refine ⟨ad.add k, rfl, by rw [block_of_add]; exact hl, fun j u hu => ?_⟩
  rw [add_of_add]
  exact hcell _ u (by rw [← hu, List.getElem?_drop])
theorem Rd.of_own {w : World} {base n c : Nat} {e : TypeId} {A : Option Addr} {xs : List Value} (h : w.ownsRow base e 1 (.slice A n c) n xs) : Rd w A xs := by
  intro hne
  rcases h.2 with ⟨hv, rfl⟩ | ⟨g, cap, cur, hv, _, hh, _⟩
  · exact absurd (List.eq_nil_of_length_eq_zero (by simpa using h.1)) hne
  · injection hv with h1 _ h2
    subst h1 h2
    exact ⟨_, rfl, (Array.getElem?_eq_some_iff.1 hh).1, h.cells (g := g) rfl⟩
/-- whole numbers as cells. -/
def i64s (xs : List Int) : List Value := xs.map fun x => .int .i64 x
theorem i64s_length (xs : List Int) : (i64s xs).length = xs.length := by simp [i64s]
theorem i64s_append (a b : List Int) : i64s (a ++ b) = i64s a ++ i64s b := by simp [i64s]
theorem i_u8z : Tryz.prog.cellsOf 5 = 1 := by kernel_rfl
/-- a text's length: for a loop's measure. -/
def vlen : Value → Nat | .string b => b.size | _ => 0
theorem bthen {w a b : World} (h : Below w.heap.size w a) (k : Below a.heap.size a b) : Below w.heap.size w b := h.trans (k.mono h.size)
end Go.Proofs.YtaaanoklhiomlaaGreat
