/- Ground of the statements LabelDecode, LabelBack, part 1: Kit, Base, Bits, Eq, Ptr, Agg, Ptr2, NumLaw, Num, Ptr3, Num2, Num3, Num4, Ref01, Ptr4, Kit2, Ptr5, Fill, Sep, Sep2, Sep3, AggB. -/
import Derived.Below
import Derived.Deep.Draws
import Derived.Deep.AppendLies
import Derived.Maps.AppendAt
import Derived.OwnWalk
import Derived.Laws.BytesArg
import Derived.Laws.MakeOwn
import Derived.Laws.OwnMore
import Derived.Laws.CopyOwn
import Derived.Tactics
import Derived.Lib.ConvBytes
import Derived.Lib.Hide
import Derived.Laws.Slices
import Derived.WalkKit
import Derived.KernelRfl
import Derived.RowKit3
import Derived.Deep.LoopGhost
import Derived.Deep.QuietTactic
import Derived.BigQuiet
import Derived.WideLaws
import Derived.Deep.DeepCutAuto
import Derived.Deep.CutBlock
import Derived.Deep.RegionHeld3
import Derived.Laws.Rows
import Derived.Laws.IdiomCopy
import Derived.Laws.BitsLemmas
import Derived.WalkSpells
import Derived.Outline
import Derived.Test.YticfcelbnkiopaaDoorProg
import Derived.Laws.StructEq
import Derived.Deep.MidRow
import Derived.Laws.Tables
import Derived.Lib.SmallJoins
import Derived.OrdersHeld
namespace Go.Proofs.YticfcelbnkiopaaDoor
set_option maxRecDepth 100000
open Go.RowKit

theorem i64w (x : Int) (h0 : -9223372036854775808 ≤ x) (h1 : x ≤ 9223372036854775807) : IntKind.i64.wrap x = x := by rw [IntKind.wrap_i64]; omega

/-- A kind of elements: its type, cells and bytes of one, and the cells of each. -/
structure Ty (α : Type) where
  id : Nat
  sz : Nat
  bytes : Nat
  zero : Value
  enc : α → List Value
  hlen : ∀ x, (enc x).length = sz
  hone : ∀ x, ∀ u ∈ enc x, u.oneCell' = true
  hsz : 0 < sz
  hby : 0 < bytes

variable {α : Type} {T : Ty α} {P : Program}

/-- All cells of a row. -/
def Ty.all (T : Ty α) (xs : List α) : List Value := xs.flatMap T.enc
theorem Ty.all_nil : T.all ([] : List α) = [] := rfl
theorem Ty.all_length (xs : List α) : (T.all xs).length = xs.length * T.sz := by
  unfold Ty.all
  induction xs with
  | nil => simp
  | cons x xs ih => rw [List.flatMap_cons, List.length_append, ih, T.hlen, List.length_cons, Nat.succ_mul, Nat.add_comm]
theorem Ty.all_append (xs ys : List α) : T.all (xs ++ ys) = T.all xs ++ T.all ys := by simp [Ty.all]
theorem Ty.all_one (x : α) : T.all [x] = T.enc x := by simp [Ty.all]
theorem Ty.all_cons (x : α) (xs : List α) : T.all (x :: xs) = T.enc x ++ T.all xs := by simp [Ty.all]
theorem Ty.all_oneCell (xs : List α) : ∀ u ∈ T.all xs, u.oneCell' = true := by
  intro u hu
  simp only [Ty.all, List.mem_flatMap] at hu
  obtain ⟨x, _, hx⟩ := hu
  exact T.hone x u hx
theorem Ty.all_drop (xs : List α) (i : Nat) : (T.all xs).drop (i * T.sz) = T.all (xs.drop i) := by
  induction xs generalizing i with
  | nil => simp [Ty.all]
  | cons x xs ih =>
    cases i with
    | zero => simp
    | succ i =>
      rw [Ty.all_cons, List.drop_succ_cons, Nat.succ_mul, Nat.add_comm, ← List.drop_drop, ← T.hlen x, List.drop_left, T.hlen, ih]
theorem Ty.all_take (xs : List α) (i : Nat) : (T.all xs).take (i * T.sz) = T.all (xs.take i) := by
  induction xs generalizing i with
  | nil => simp [Ty.all]
  | cons x xs ih =>
    cases i with
    | zero => simp [Ty.all]
    | succ i =>
      rw [Ty.all_cons, List.take_succ_cons, Ty.all_cons, List.take_append, T.hlen, Nat.succ_mul, List.take_of_length_le (by rw [T.hlen]; omega), Nat.add_sub_cancel, ih]
theorem Ty.all_get (xs : List α) (i : Nat) (h : i < xs.length) (j : Nat) (hj : j < T.sz) : (T.all xs)[i * T.sz + j]? = (T.enc xs[i])[j]? := by
  have h1 : (T.all xs)[i * T.sz + j]? = ((T.all xs).drop (i * T.sz))[j]? := by rw [List.getElem?_drop]
  rw [h1, Ty.all_drop, List.drop_eq_getElem_cons h, Ty.all_cons, List.getElem?_append_left (by rw [T.hlen]; exact hj)]

/-- The slice value v reads as xs in w. -/
def RR (T : Ty α) (w : World) (v : Value) (xs : List α) : Prop :=
  ∃ A c, v = .slice A xs.length c ∧ xs.length ≤ c ∧ xs.length ≤ 9223372036854775807 ∧
    (0 < xs.length → ∃ ad, A = some ad ∧ ∀ j u, (T.all xs)[j]? = some u → w.cell? (ad.add j) = some u)

/-- v is a row of the call's own, from block base on, that reads as xs. -/
def OR (T : Ty α) (w : World) (base : Nat) (v : Value) (xs : List α) : Prop := w.ownsRow base T.id T.sz v xs.length (T.all xs)

theorem cell_below {w w1 : World} (h : Below w.heap.size w w1) {a : Addr} {v : Value} (hc : w.cell? a = some v) : w1.cell? a = some v := (h.cell (World.block_lt_of_cell? w a hc)).trans hc

theorem pw_below_drewN {B : Nat} {w W : World} (h : Below B w W) (n : Nat) : Below B w (W.drewN n) := ⟨h.os, h.tape, h.output, h.size, h.block⟩

theorem RR.below {w w1 : World} {v : Value} {xs : List α} (h : RR T w v xs) (hb : Below w.heap.size w w1) : RR T w1 v xs := by
  obtain ⟨A, c, e, h1, h2, h3⟩ := h
  refine ⟨A, c, e, h1, h2, fun hp => ?_⟩
  obtain ⟨ad, e2, hc⟩ := h3 hp
  exact ⟨ad, e2, fun j u hj => cell_below hb (hc j u hj)⟩

theorem OR.reads {w : World} {base : Nat} {v : Value} {xs : List α} (h : OR T w base v xs) : RR T w v xs := by
  rcases Nat.eq_zero_or_pos xs.length with h0 | h0
  · rcases h.2 with ⟨rfl, _⟩ | ⟨g, cap, cur, rfl, _, _, h1, h2, _⟩
    · exact ⟨none, 0, by rw [h0], by omega, by omega, fun hp => by omega⟩
    · exact ⟨_, cap, rfl, h1, by omega, fun hp => by omega⟩
  · obtain ⟨g, cap, rfl, _, _⟩ := h.form h0
    have hm : xs.length ≤ cap ∧ xs.length ≤ 9223372036854775807 := by
      rcases h.2 with ⟨h1, _⟩ | ⟨g', cap', cur, he, _, _, h1, h2, _⟩
      · cases h1
      · injection he with _ _ he
        subst he
        simp only [maxLen] at h2
        omega
    exact ⟨_, cap, rfl, hm.1, hm.2, fun _ => ⟨_, rfl, fun j u hj => h.cells (g := g) rfl j _ hj⟩⟩

theorem OR.below {w w1 : World} {base : Nat} {v : Value} {xs : List α} (h : OR T w base v xs) (hb : Below w.heap.size w w1) : OR T w1 base v xs :=
  World.ownsRow.kept h (row := none) ⟨hb.os, hb.tape, hb.output, hb.size, fun i hi _ => hb.block i hi⟩ (by cases v.ownBlock <;> simp)
theorem OR.other {w w1 : World} {base : Nat} {v : Value} {xs : List α} {row : Option Nat} (h : OR T w base v xs) (hg : w.grownBy w1 row) (hne : v.ownBlock = none ∨ v.ownBlock ≠ row) : OR T w1 base v xs := World.ownsRow.kept h hg hne
theorem OR.nil (w : World) (base : Nat) : OR T w base (.slice none 0 0) [] := ⟨by simp [Ty.all], .inl ⟨rfl, rfl⟩⟩
theorem OR.lower {w : World} {base base' : Nat} {v : Value} {xs : List α} (h : OR T w base v xs) (hb : base' ≤ base) : OR T w base' v xs := by
  refine ⟨h.1, ?_⟩
  rcases h.2 with h2 | ⟨g, cap, cur, h3, h4, h5⟩
  · exact .inl h2
  · exact .inr ⟨g, cap, cur, h3, by omega, h5⟩
theorem OR.ge {w : World} {base : Nat} {v : Value} {xs : List α} (h : OR T w base v xs) : ∀ k, v.ownBlock = some k → base ≤ k ∧ k < w.heap.size := World.ownsRow.lt h

/-- A row that lay before another one was made is another one. -/
theorem OR.apart {β : Type} {T2 : Ty β} {w w1 : World} {b : Nat} {v v2 : Value} {xs : List α} {ys : List β} (h : OR T w b v xs) (h2 : OR T2 w1 w.heap.size v2 ys) : v.ownBlock = none ∨ v.ownBlock ≠ v2.ownBlock := by
  cases hv : v.ownBlock with
  | none => exact .inl rfl
  | some k =>
    refine .inr fun e => ?_
    have h3 := (OR.ge h k hv).2
    have h4 := (OR.ge h2 k e.symm).1
    omega
theorem RR.len {w : World} {v : Value} {xs : List α} (h : RR T w v xs) : ∃ A c, v = .slice A xs.length c ∧ xs.length ≤ c := by
  obtain ⟨A, c, e, h1, _⟩ := h
  exact ⟨A, c, e, h1⟩
theorem RR.nil (w : World) : RR T w (.slice none 0 0) [] := ⟨none, 0, rfl, by simp, by simp, fun h => by simp at h⟩

/-- A cut of a row that is read: the value behind it, and what it reads. -/
theorem RR.cut (T : Ty α) {t : TypeId} (ht : P.underlying t = some (.slice T.id)) {z : Value} (hinfo : (P.info? T.id).map (fun i => (i.zero, i.size, i.bytes)) = some (some z, T.sz, T.bytes))
    (A : Option Addr) (c : Nat) (xs : List α) (i j : Nat) (hij : i ≤ j) (hj : j ≤ xs.length) (hc : xs.length ≤ c) :
    ∃ A', (∀ (kl kh : IntKind) (W : World), (Instr.slice t (.slice A xs.length c) (some (.int kl (i : Int))) (some (.int kh (j : Int))) none).run P W = .ok (.slice A' (j - i) (c - i)) W) ∧
      (∀ (kl : IntKind) (W : World), j = xs.length → (Instr.slice t (.slice A xs.length c) (some (.int kl (i : Int))) none none).run P W = .ok (.slice A' (xs.length - i) (c - i)) W) ∧
      (∀ (kh : IntKind) (W : World), i = 0 → (Instr.slice t (.slice A xs.length c) none (some (.int kh (j : Int))) none).run P W = .ok (.slice A' j c) W) ∧
      ∀ w, RR T w (.slice A xs.length c) xs → RR T w (.slice A' (j - i) (c - i)) ((xs.take j).drop i) := by
  obtain ⟨i0, hi, hzz⟩ := Option.map_eq_some_iff.1 hinfo
  simp only [Prod.mk.injEq] at hzz
  obtain ⟨_, hsz, _⟩ := hzz
  have hel : P.elem t = T.id := by simp [Program.elem, ht]
  have hu : P.underlying t = some (.slice (P.elem t)) := by rw [hel]; exact ht
  refine ⟨if c = i then A else A.map (·.add (i * T.sz)), fun kl kh W => ?_, fun kl W he => ?_, fun kh W he => ?_, fun w h => ?_⟩
  · rw [run_slice_lh W t A xs.length c hu kl kh (i : Int) (j : Int) (by omega) (by omega) (by omega), hel]
    simp [sizeOf, typeInfo, hi, hsz, sliced, Result.andThen]
  · rw [run_slice_l W t A xs.length c hu kl (i : Int) (by omega) (by omega), hel]
    simp [sizeOf, typeInfo, hi, hsz, sliced, Result.andThen]
  · subst he
    have ha : (A.map fun x => x.add 0) = A := by cases A <;> simp [Addr.add]
    rw [run_slice_h W t A xs.length c hu kh (j : Int) (by omega) (by omega), hel]
    simp [sizeOf, typeInfo, hi, hsz, sliced, Result.andThen, ha]
  · obtain ⟨A2, c2, e, h1, h2, h3⟩ := h
    injection e with e1 e2 e3
    subst e1; subst e3
    have hl : ((xs.take j).drop i).length = j - i := by rw [List.length_drop, List.length_take]; omega
    refine ⟨if c = i then A else A.map (·.add (i * T.sz)), c - i, by rw [hl], by omega, by omega, fun hp => ?_⟩
    obtain ⟨ad, rfl, hcell⟩ := h3 (by omega)
    rw [if_neg (by omega)]
    refine ⟨ad.add (i * T.sz), rfl, fun k u hk => ?_⟩
    have ha : (ad.add (i * T.sz)).add k = ad.add (i * T.sz + k) := by
      unfold Addr.add
      by_cases h1 : i * T.sz = 0 <;> by_cases h2 : k = 0 <;> simp [h1, h2, Nat.add_assoc]
    rw [ha]
    refine hcell _ _ ?_
    rw [← Ty.all_drop, List.getElem?_drop, ← Ty.all_take, List.getElem?_take] at hk
    split at hk
    · exact hk
    · cases hk

/-- An element that is read. -/
theorem RR.at_ {w : World} {A : Option Addr} {n c : Nat} {xs : List α} (h : RR T w (.slice A n c) xs) (i : Nat) (hi : i < xs.length) :
    ∃ ad, A = some ad ∧ ∀ j u, (T.enc xs[i])[j]? = some u → w.cell? (ad.add (i * T.sz + j)) = some u := by
  obtain ⟨A2, c2, e, h1, h2, h3⟩ := h
  injection e with e1 e2 e3
  subst e1
  obtain ⟨ad, rfl, hcell⟩ := h3 (by omega)
  refine ⟨ad, rfl, fun j u hj => hcell _ _ ?_⟩
  have hlt : j < T.sz := by have := (List.getElem?_eq_some_iff.1 hj).1; rwa [T.hlen] at this
  rw [Ty.all_get xs i hi j hlt]
  exact hj

/-- Every block from B on is the call's own or new: two steps. -/
theorem below_two {B : Nat} {w w1 w2 : World} (h : Below B w w1) (hB : B ≤ w1.heap.size) (k : Below w1.heap.size w1 w2) : Below B w w2 := h.trans (k.mono hB)

section
variable {ops : Array Oper} {rest : List Oper} {o : Oper} {a : Act} {Q : Exit → Act → World → Prop}

/-- append(v, x): the goal's world is that behind the variadic's box. -/
theorem wp_append1 (T : Ty α) {w0 W : World} (base : Nat) (hgd : o.guard = none) (s x : Operand) (t : TypeId) (z : Value)
    (ho : o.op = .call { callee := .builtin .append, args := #[s, x], argTypes := #[t, t] })
    (ht : P.underlying t = some (.slice T.id)) (hinfo : (P.info? T.id).map (fun i => (i.zero, i.size, i.bytes)) = some (some z, T.sz, T.bytes)) (hz : z.cells.size = T.sz)
    (v : Value) (xs : List α) (y : α) (cs : Array Value) (hs : a.eval s = v) (hx : a.eval x = .slice (some ⟨W.heap.size, 0, none⟩) 1 1)
    (hy : cs.toList = T.enc y)
    (HO : OR T W base v xs) (HB : Below base w0 W) (hbase : base ≤ W.heap.size) (hl : (xs.length + 1) * T.bytes ≤ 140737488355328)
    (h : ∀ v1 w1, OR T w1 base v1 (xs ++ [y]) → Below base w0 w1 → W.grownBy w1 v.ownBlock → (v1.ownBlock = v.ownBlock ∨ ∃ b, v1.ownBlock = some b ∧ W.heap.size ≤ b) → base ≤ w1.heap.size → wpList P ops Q rest (a.put o.dst v1) w1) :
    wpList P ops Q (o :: rest) a (W.alloc (.cells cs T.id)) := by
  obtain ⟨i0, hi, hzz⟩ := Option.map_eq_some_iff.1 hinfo
  simp only [Prod.mk.injEq] at hzz
  obtain ⟨hz0, hz1, hz2⟩ := hzz
  have hlen : xs.length + 1 ≤ 140737488355328 := Nat.le_trans (Nat.le_mul_of_pos_right _ T.hby) hl
  refine wpList_append_own_at (W.alloc (.cells cs T.id)) hgd s x t ho base T.id i0 z T.sz T.bytes ht hi hz0 hz1 hz2 hz T.hsz v xs.length (T.all xs) hs (World.ownsRow.alloc HO _) ⟨W.heap.size, 0, none⟩ 1 1 (T.enc y) hx (by rw [T.hlen]; simp)
    (by rw [← hy]; exact World.news_of_block (cs := cs) (t := T.id) (fr := (0, 0)) (heap_alloc_new W _)) (T.hone y) (by simp only [maxLen]; omega) hl (by simp; omega) ?_
  intro v1 w1 hown hg _ hat
  have hg' := World.grownBy.trans (World.grownBy_alloc W (.cells cs T.id) v.ownBlock) hg
  refine h v1 w1 (by unfold OR; rw [List.length_append, Ty.all_append, Ty.all_one]; exact hown) ((HB.alloc hbase _).grown hg (by simp; omega) (fun k hk => (OR.ge HO k hk).1)) hg' ?_ (Nat.le_trans hbase hg'.size)
  rcases hat with hat | hat
  · exact .inl hat
  · exact .inr ⟨_, hat, by simp⟩

/-- append(v, ys...): ys a row that is read. -/
theorem wp_appendN (T : Ty α) {w0 W : World} (base : Nat) (hgd : o.guard = none) (s x : Operand) (t : TypeId) (z : Value)
    (ho : o.op = .call { callee := .builtin .append, args := #[s, x], argTypes := #[t, t] })
    (ht : P.underlying t = some (.slice T.id)) (hinfo : (P.info? T.id).map (fun i => (i.zero, i.size, i.bytes)) = some (some z, T.sz, T.bytes)) (hz : z.cells.size = T.sz)
    (v : Value) (xs ys : List α) (vy : Value) (hs : a.eval s = v) (hx : a.eval x = vy)
    (HO : OR T W base v xs) (HR : RR T W vy ys) (HB : Below base w0 W) (hbase : base ≤ W.heap.size) (hl : (xs.length + ys.length) * T.bytes ≤ 140737488355328)
    (h : ∀ v1 w1, OR T w1 base v1 (xs ++ ys) → Below base w0 w1 → W.grownBy w1 v.ownBlock → (v1.ownBlock = v.ownBlock ∨ ∃ b, v1.ownBlock = some b ∧ W.heap.size ≤ b) → base ≤ w1.heap.size → wpList P ops Q rest (a.put o.dst v1) w1) :
    wpList P ops Q (o :: rest) a W := by
  obtain ⟨i0, hi, hzz⟩ := Option.map_eq_some_iff.1 hinfo
  simp only [Prod.mk.injEq] at hzz
  obtain ⟨hz0, hz1, hz2⟩ := hzz
  have hlen : xs.length + ys.length ≤ 140737488355328 := Nat.le_trans (Nat.le_mul_of_pos_right _ T.hby) hl
  obtain ⟨A, c, rfl, hc, hm, hcell⟩ := HR
  have hrun : ∃ v1 w1, (Builtin.append_ #[t, t] o.type #[v, .slice A ys.length c]).run P W = .ok v1 w1 ∧ OR T w1 base v1 (xs ++ ys) ∧ W.grownBy w1 v.ownBlock ∧ (v1.ownBlock = v.ownBlock ∨ v1.ownBlock = some W.heap.size) := by
    rcases Nat.eq_zero_or_pos ys.length with h0 | h0
    · obtain rfl : ys = [] := List.eq_nil_of_length_eq_zero h0
      refine ⟨v, W, ?_, by simpa using HO, World.grownBy.refl W _, .inl rfl⟩
      rcases HO.2 with ⟨rfl, hn⟩ | ⟨g, cap, cur, rfl, _, hgg, hnc, _, hcs, _⟩
      · cases A <;> simp [Builtin.append_, run_underlying ht, sizeOf, typeInfo, hi, Builtin.lenOf, Builtin.firstCells, loadCells, loadCellsFrom]
      · cases A <;> simp [Builtin.append_, run_underlying ht, sizeOf, typeInfo, hi, Builtin.lenOf, Builtin.firstCells, hnc, storeCells, loadCells, loadCellsFrom]
    · obtain ⟨ad, rfl, hcc⟩ := hcell h0
      obtain ⟨v1, w1, h1, h2, h3, _, h5⟩ := run_append_own_at (P := P) W base t o.type T.id i0 z T.sz T.bytes ht hi hz0 hz1 hz2 hz T.hsz v xs.length (T.all xs) HO ad ys.length c (T.all ys) (Ty.all_length ys) hcc (Ty.all_oneCell ys) (by simp only [maxLen]; omega) hl hbase
      exact ⟨v1, w1, h1, by unfold OR; rw [List.length_append, Ty.all_append]; exact h2, h3, h5⟩
  obtain ⟨v1, w1, h1, h2, h3, h4⟩ := hrun
  refine wpList_plain hgd fun K hK => ?_
  unfold Oper.wp execOp
  simp only [ho, resolve, invoke, builtin, Sem.run_bind, Sem.run_pure, Result.andThen_ok, List.map_toArray, List.map_cons, List.map_nil, hs, hx, h1]
  refine hK _ _ (h v1 w1 h2 (HB.grown h3 hbase (fun k hk => (OR.ge HO k hk).1)) h3 ?_ (Nat.le_trans hbase h3.size))
  rcases h4 with h4 | h4
  · exact .inl h4
  · exact .inr ⟨_, h4, Nat.le_refl _⟩
end

theorem grown_none {w w' : World} (h : w.grownBy w' none) : Below w.heap.size w w' := ⟨h.os, h.tape, h.output, h.size, fun k hk => h.block k hk (by simp)⟩
theorem below_grown {w w' : World} (h : Below w.heap.size w w') (row : Option Nat) : w.grownBy w' row := ⟨h.os, h.tape, h.output, h.size, fun k hk _ => h.block k hk⟩

/-! A region that draws its order, whose steps leave what was there as it was, but for the block 'row': S is always 'as in the world at hand'. -/
def wpE (P : Program) (ops : Array Oper) (Q : Exit → Act → World → Prop) (row : Option Nat) (fuel : Nat) (listed : Array Bool) (a : Act) (w : World) : Prop := wpAnyH P .any ops Q (fun w' => w.grownBy w' row) fuel listed a w
section
variable {ops : Array Oper} {Q : Exit → Act → World → Prop} {row : Option Nat}
theorem wpAnyH_imp {md : Region.Mode} {S S' : World → Prop} (hS : ∀ w, S' w → S w) : ∀ (fuel : Nat) (listed : Array Bool) (a : Act) (w : World), wpAnyH P md ops Q S' fuel listed a w → wpAnyH P md ops Q S fuel listed a w
  | 0, _, _, _, h => h
  | fuel + 1, _, _, _, h => ⟨h.1, fun i hi => wpOp_mono (fun a' w' h' => ⟨hS _ h'.1, wpAnyH_imp hS fuel _ a' w' h'.2⟩) (h.2 i hi)⟩
theorem startE (row : Option Nat) {id : Nat} {a : Act} {w : World} (hm : P.follows .mixedOrders = true) (h : wpE P ops Q row ops.size (Array.replicate ops.size false) a w.drew) : (Code.region id ops true).wp P Q a w :=
  wp_region_held_drew (S := fun w' => w.drew.grownBy w' row) hm (World.grownBy.refl _ _) (fun _ => h)
theorem takeE (i : Nat) {oi : Oper} {v : Value} {fuel : Nat} {listed : Array Bool} {a : Act} {w : World} (hi : ops.toList[i]? = some oi) (hs : Region.noSelect ops = true) (hf : Region.free .any ops listed i = true) (hr : (Region.ready .any ops listed).contains i = true)
    (hQ : ∀ c a w, Q (.panic c) (a.put oi.dst v) w → Q (.panic c) a w) (hw : Region.wanted oi (yielded ops a.tmps) = true)
    (hy : ∀ w', w.grownBy w' row → (execOp a.eval oi).run P w' = .ok (.value v) w') (h : wpE P ops Q row fuel (listed.setIfInBounds i true) (a.put oi.dst v) w) : wpE P ops Q row (fuel + 1) listed a w :=
  wpAnyH_take (by simpa using hi) hs hf hr hQ (.inl ⟨hw, hy⟩) (World.grownBy.refl _ _) h
theorem skipE (i : Nat) {oi : Oper} {fuel : Nat} {listed : Array Bool} {a : Act} {w : World} (hi : ops.toList[i]? = some oi) (hs : Region.noSelect ops = true) (hf : Region.free .any ops listed i = true) (hr : (Region.ready .any ops listed).contains i = true)
    (hQ : ∀ c a w, Q (.panic c) (a.put oi.dst undef) w → Q (.panic c) a w) (hw : Region.wanted oi (yielded ops a.tmps) = false)
    (h : wpE P ops Q row fuel (listed.setIfInBounds i true) (a.put oi.dst undef) w) : wpE P ops Q row (fuel + 1) listed a w :=
  wpAnyH_take (by simpa using hi) hs hf hr hQ (.inr ⟨hw, rfl⟩) (World.grownBy.refl _ _) h
theorem stepE (i : Nat) {oi : Oper} {fuel : Nat} {listed : Array Bool} {a : Act} {w : World} (hi : ops.toList[i]? = some oi) (hr : Region.ready .any ops listed = [i]) (hw : Region.wanted oi (yielded ops a.tmps) = true)
    (h : ∀ K : Act → World → Prop, Shut (∀ a' w', w.grownBy w' row → wpE P ops Q row fuel (listed.setIfInBounds i true) a' w' → K a' w') → oi.wp P a w K Q) : wpE P ops Q row (fuel + 1) listed a w :=
  wpAnyH_ready hr (by simp) (AllReadyH.cons (by simpa using hi) (fun K hK => by rw [if_pos hw]; exact h K (fun a' w' hb he => hK a' w' hb (fun _ => wpAnyH_imp (fun w2 h2 => World.grownBy.trans hb h2) _ _ _ _ he))) AllReadyH.nil)
/-- Behind a step that only makes memory: on with the walk. -/
theorem K_out {P : Program} {fuel : Nat} {listed : Array Bool} {K : Act → World → Prop} {a' : Act} {w w' : World} (hK : Shut (∀ a' w', w.grownBy w' row → wpE P ops Q row fuel listed a' w' → K a' w')) (hb : Below w.heap.size w w')
    (h : wpE P ops Q row fuel listed a' w') : K a' w' := hK.out a' w' (below_grown hb row) h
theorem doneE {fuel : Nat} {listed : Array Bool} {a : Act} {w : World} (hr : Region.ready .any ops listed = []) (h : Q .normal a w) : wpE P ops Q row fuel listed a w := wpAnyH_done hr h fuel
end

/-- A literal row. -/
theorem OR.lit (T : Ty α) (w : World) (base : Nat) (xs : List α) (cs : Array Value) (hcs : cs.toList = T.all xs) (hb : base ≤ w.heap.size) (hm : xs.length ≤ 9223372036854775807) :
    OR T (w.alloc (.cells cs T.id)) base (.slice (some ⟨w.heap.size, 0, none⟩) xs.length xs.length) xs := by
  have h := World.ownsRow_lit (base := base) (e := T.id) (size := T.sz) w cs xs.length hb (by simpa [maxLen] using hm) (by rw [← Array.length_toList, hcs, Ty.all_length])
  unfold OR
  rw [hcs] at h
  exact h

/-! Bytes. -/
abbrev cb (x : UInt8) : Value := .int .u8 (x.toNat : Int)
def U8 (e : Nat) : Ty UInt8 where
  id := e
  sz := 1
  bytes := 1
  zero := .int .u8 0
  enc := fun x => [cb x]
  hlen := fun _ => rfl
  hone := fun x u hu => by simp at hu; subst hu; rfl
  hsz := by omega
  hby := by omega
theorem U8_all (e : Nat) (xs : List UInt8) : (U8 e).all xs = xs.map cb := by
  unfold Ty.all U8
  induction xs with
  | nil => rfl
  | cons x xs ih => simp [List.flatMap_cons, ih]

def str (xs : List UInt8) : ByteArray := ⟨xs.toArray⟩
@[simp, go_sem] theorem str_toList (xs : List UInt8) : (str xs).toList = xs := ByteArray.toList_mk xs
theorem str_inj {xs ys : List UInt8} (h : str xs = str ys) : xs = ys := by
  unfold str at h
  injection h with h
  simpa using congrArg Array.toList h

/-- string(v). -/
theorem RR.string {e : Nat} {w : World} {v : Value} {xs : List UInt8} (h : RR (U8 e) w v xs) {src dst e' : TypeId} (hs : P.underlying src = some (.slice e')) (he : P.underlying e' = some (.int .u8)) (hd : P.underlying dst = some .string) :
    (convert src dst v).run P w = .ok (.string (str xs)) w := by
  obtain ⟨A, c, rfl, hc, hm, hcell⟩ := h
  rcases Nat.eq_zero_or_pos xs.length with h0 | h0
  · obtain rfl : xs = [] := List.eq_nil_of_length_eq_zero h0
    rw [run_convert_bytes_string w src dst e' _ _ c hs he hd]
    cases A <;> simp [Conv.bytesToString, str, loadCells, loadCellsFrom, ByteArray.empty, ByteArray.emptyWithCapacity] <;> rfl
  · obtain ⟨ad, rfl, hcc⟩ := hcell h0
    have hl : (loadCells ad xs.length).run P w = .ok (xs.map cb).toArray w := by
      have := run_loadCells_list (P := P) w ad (xs.map cb) (fun j v hj => hcc j v (by rw [U8_all]; exact hj))
      simpa using this
    have hl2 : (xs.map cb) = (xs.map fun x => ((x.toNat : Int))).map (Value.int .u8) := by simp [cb]
    rw [hl2] at hl
    rw [run_convert_bytes_string w src dst e' _ _ c hs he hd, run_bytesToString w _ xs.length c (xs.map fun x => ((x.toNat : Int))) hl, foldl_push_bytes]
    simp [str, ByteArray.empty, ByteArray.emptyWithCapacity, Function.comp_def]
    rfl
end Go.Proofs.YticfcelbnkiopaaDoor

namespace Go.Proofs.YticfcelbnkiopaaDoor
set_option maxRecDepth 100000
open Go.RowKit

theorem Tryd.info_u8 : (Tryd.prog.info? 5).map (fun i => (i.zero, i.size, i.bytes)) = some (some (.int .u8 0), 1, 1) := by kernel_rfl

abbrev B8 : Ty UInt8 := U8 5
/-- v reads as the bytes xs in w. -/
abbrev RB (w : World) (v : Value) (xs : List UInt8) : Prop := RR B8 w v xs
/-- v is a row of bytes of the call's own. -/
abbrev OB (w : World) (base : Nat) (v : Value) (xs : List UInt8) : Prop := OR B8 w base v xs

/-- A cut of bytes that are read. -/
theorem cutB (A : Option Addr) (c : Nat) (xs : List UInt8) (i j : Nat) (hij : i ≤ j) (hj : j ≤ xs.length) (hc : xs.length ≤ c) :
    ∃ A', (∀ (kl kh : IntKind) (W : World), (Instr.slice 22 (.slice A xs.length c) (some (.int kl (i : Int))) (some (.int kh (j : Int))) none).run Tryd.prog W = .ok (.slice A' (j - i) (c - i)) W) ∧
      (∀ (kl : IntKind) (W : World), j = xs.length → (Instr.slice 22 (.slice A xs.length c) (some (.int kl (i : Int))) none none).run Tryd.prog W = .ok (.slice A' (xs.length - i) (c - i)) W) ∧
      (∀ (kh : IntKind) (W : World), i = 0 → (Instr.slice 22 (.slice A xs.length c) none (some (.int kh (j : Int))) none).run Tryd.prog W = .ok (.slice A' j c) W) ∧
      ∀ w, RB w (.slice A xs.length c) xs → RB w (.slice A' (j - i) (c - i)) ((xs.take j).drop i) :=
  RR.cut (P := Tryd.prog) B8 Tryd.underlying22 Tryd.info_u8 A c xs i j hij hj hc

section
variable {ops : Array Oper} {rest : List Oper} {o : Oper} {a : Act} {Q : Exit → Act → World → Prop}
/-- append(v, y) of a byte. -/
theorem appB {w0 W : World} (base : Nat) (s x : Operand) (v : Value) (xs : List UInt8) (y : UInt8) (n : Int) (HO : OB W base v xs) (HB : Below base w0 W) (hbase : base ≤ W.heap.size) (hl : xs.length ≤ 1000000000) (hn : n = (y.toNat : Int))
    (hgd : o.guard = none) (ho : o.op = .call { callee := .builtin .append, args := #[s, x], argTypes := #[22, 22] })
    (hs : a.eval s = v) (hx : a.eval x = .slice (some ⟨W.heap.size, 0, none⟩) 1 1)
    (h : ∀ v1 w1, OB w1 base v1 (xs ++ [y]) → Below base w0 w1 → W.grownBy w1 v.ownBlock → (v1.ownBlock = v.ownBlock ∨ ∃ b, v1.ownBlock = some b ∧ W.heap.size ≤ b) → base ≤ w1.heap.size → wpList Tryd.prog ops Q rest (a.put o.dst v1) w1) :
    wpList Tryd.prog ops Q (o :: rest) a (W.alloc (.cells #[.int .u8 n] 5)) := by
  subst hn
  exact wp_append1 B8 base hgd s x 22 _ ho Tryd.underlying22 Tryd.info_u8 rfl v xs y #[cb y] hs hx rfl HO HB hbase (by show (xs.length + 1) * 1 ≤ _; omega) h
/-- append(v, ys...). -/
theorem appBs {w0 W : World} (base : Nat) (s x : Operand) (v vy : Value) (xs ys : List UInt8) (HO : OB W base v xs) (HR : RB W vy ys) (HB : Below base w0 W) (hbase : base ≤ W.heap.size) (hl : xs.length ≤ 1000000000) (hl2 : ys.length ≤ 1000000000)
    (hgd : o.guard = none) (ho : o.op = .call { callee := .builtin .append, args := #[s, x], argTypes := #[22, 22] })
    (hs : a.eval s = v) (hx : a.eval x = vy)
    (h : ∀ v1 w1, OB w1 base v1 (xs ++ ys) → Below base w0 w1 → W.grownBy w1 v.ownBlock → (v1.ownBlock = v.ownBlock ∨ ∃ b, v1.ownBlock = some b ∧ W.heap.size ≤ b) → base ≤ w1.heap.size → wpList Tryd.prog ops Q rest (a.put o.dst v1) w1) :
    wpList Tryd.prog ops Q (o :: rest) a W :=
  wp_appendN B8 base hgd s x 22 _ ho Tryd.underlying22 Tryd.info_u8 rfl v xs ys vy hs hx HO HR HB hbase (by show (xs.length + ys.length) * 1 ≤ _; omega) h
end

/-- A literal row of bytes. -/
theorem OB.lit (w : World) (base : Nat) (xs : List UInt8) (cs : Array Value) (hcs : cs.toList = xs.map cb) (hb : base ≤ w.heap.size) (hm : xs.length ≤ 9223372036854775807) :
    OB (w.alloc (.cells cs 5)) base (.slice (some ⟨w.heap.size, 0, none⟩) xs.length xs.length) xs := OR.lit B8 w base xs cs (by rw [hcs, U8_all]) hb hm
theorem RB.at0 {w : World} {A : Option Addr} {n c : Nat} {xs : List UInt8} (h : RB w (.slice A n c) xs) (hp : 0 < xs.length) : ∃ ad, A = some ad ∧ ∀ (j : Nat) (u : Value), (xs.map cb)[j]? = some u → w.cell? (ad.add j) = some u := by
  obtain ⟨A2, c2, e, _, _, h3⟩ := h
  injection e with e1 e2 e3
  subst e1
  obtain ⟨ad, rfl, hcell⟩ := h3 hp
  rw [U8_all] at hcell
  exact ⟨ad, rfl, hcell⟩
/-- A byte of a row that is read. -/
theorem RB.byte {w : World} {A : Option Addr} {n c : Nat} {xs : List UInt8} (h : RB w (.slice A n c) xs) (hp : 0 < xs.length) : ∃ ad, A = some ad ∧ ∀ k, k < xs.length → w.cell? (ad.add k) = some (.int .u8 ((xs.getD k 0).toNat : Int)) := by
  obtain ⟨ad, rfl, hcc⟩ := h.at0 hp
  refine ⟨ad, rfl, fun k hk => hcc k _ ?_⟩
  rw [List.getElem?_map, List.getD_eq_getElem?_getD, List.getElem?_eq_getElem hk]
  rfl
end Go.Proofs.YticfcelbnkiopaaDoor

namespace Go.Proofs.YticfcelbnkiopaaDoor
set_option maxRecDepth 100000

theorem bits_nats (k : IntKind) (hk : k.signed = false) (a b : Nat) (ha : a < 2 ^ k.bits) (hb : b < 2 ^ k.bits) :
    bits .and k a b = ((a &&& b : Nat) : Int) ∧ bits .or k a b = ((a ||| b : Nat) : Int) ∧ bits .xor k a b = ((a ^^^ b : Nat) : Int) := by
  have ha' : a % 2 ^ k.bits = a := Nat.mod_eq_of_lt ha
  have hb' : b % 2 ^ k.bits = b := Nat.mod_eq_of_lt hb
  have hw : ∀ n : Nat, n < 2 ^ k.bits → k.wrap (n : Int) = n := fun n h => by
    unfold IntKind.wrap
    rw [hk]
    simp only [Bool.false_and, if_false, Bool.false_eq_true]
    exact Int.emod_eq_of_lt (Int.natCast_nonneg _) (by exact_mod_cast h)
  refine ⟨?_, ?_, ?_⟩
  · simp only [bits, BitVec.ofInt_natCast, BitVec.toNat_and, BitVec.toNat_ofNat, ha', hb']
    exact hw _ (Nat.and_lt_two_pow _ hb)
  · simp only [bits, BitVec.ofInt_natCast, BitVec.toNat_or, BitVec.toNat_ofNat, ha', hb']
    exact hw _ (Nat.or_lt_two_pow ha hb)
  · simp only [bits, BitVec.ofInt_natCast, BitVec.toNat_xor, BitVec.toNat_ofNat, ha', hb']
    exact hw _ (Nat.xor_lt_two_pow ha hb)

theorem xor8 (a b : UInt8) : bits .xor .u8 (a.toNat : Int) (b.toNat : Int) = ((a ^^^ b).toNat : Int) := by
  rw [(bits_nats .u8 rfl a.toNat b.toNat a.toNat_lt b.toNat_lt).2.2, UInt8.toNat_xor]
theorem and8 (a b : UInt8) : bits .and .u8 (a.toNat : Int) (b.toNat : Int) = ((a &&& b).toNat : Int) := by
  rw [(bits_nats .u8 rfl a.toNat b.toNat a.toNat_lt b.toNat_lt).1, UInt8.toNat_and]
theorem or8 (a b : UInt8) : bits .or .u8 (a.toNat : Int) (b.toNat : Int) = ((a ||| b).toNat : Int) := by
  rw [(bits_nats .u8 rfl a.toNat b.toNat a.toNat_lt b.toNat_lt).2.1, UInt8.toNat_or]

theorem or128 (m : Nat) : bits .or .u8 ((m : Int) % 256) 128 = ((UInt8.ofNat (m % 128 + 128)).toNat : Int) := by
  have h := (bits_nats .u8 rfl (m % 256) 128 (by show _ < 256; omega) (by decide)).2.1
  have e : (((m % 256 : Nat) : Int)) = (m : Int) % 256 := by omega
  rw [e] at h
  rw [show (128 : Int) = ((128 : Nat) : Int) from rfl, h]
  congr 1
  have h2 : ∀ q : Nat, q < 256 → q ||| 128 = (UInt8.ofNat (q % 128 + 128)).toNat := by decide +kernel
  rw [h2 _ (Nat.mod_lt _ (by omega))]
  congr 2
  omega
theorem or_add (i a b : Nat) (h : a < 2 ^ i) : a ||| (b * 2 ^ i) = a + b * 2 ^ i := by
  rw [Nat.or_comm, Nat.mul_comm, ← Nat.two_pow_add_eq_or_of_lt h b, Nat.add_comm]
theorem or32 (b0 b1 b2 b3 : UInt8) : bits .or .u32 (bits .or .u32 (bits .or .u32 ((b0.toNat : Int) % 4294967296) ((b1.toNat : Int) % 4294967296 * 256 % 4294967296)) ((b2.toNat : Int) % 4294967296 * 65536 % 4294967296)) ((b3.toNat : Int) % 4294967296 * 16777216 % 4294967296) =
    ((b0.toNat + b1.toNat * 256 + b2.toNat * 65536 + b3.toNat * 16777216 : Nat) : Int) := by
  have h0 := b0.toNat_lt
  have h1 := b1.toNat_lt
  have h2 := b2.toNat_lt
  have h3 := b3.toNat_lt
  rw [show (b0.toNat : Int) % 4294967296 = (b0.toNat : Int) by omega, show (b1.toNat : Int) % 4294967296 * 256 % 4294967296 = ((b1.toNat * 2 ^ 8 : Nat) : Int) by omega,
    show (b2.toNat : Int) % 4294967296 * 65536 % 4294967296 = ((b2.toNat * 2 ^ 16 : Nat) : Int) by omega, show (b3.toNat : Int) % 4294967296 * 16777216 % 4294967296 = ((b3.toNat * 2 ^ 24 : Nat) : Int) by omega]
  rw [(bits_nats .u32 rfl b0.toNat (b1.toNat * 2 ^ 8) (by show _ < 4294967296; omega) (by show _ < 4294967296; omega)).2.1, or_add 8 _ _ (by omega)]
  rw [(bits_nats .u32 rfl _ (b2.toNat * 2 ^ 16) (by show _ < 4294967296; omega) (by show _ < 4294967296; omega)).2.1, or_add 16 _ _ (by omega)]
  rw [(bits_nats .u32 rfl _ (b3.toNat * 2 ^ 24) (by show _ < 4294967296; omega) (by show _ < 4294967296; omega)).2.1, or_add 24 _ _ (by omega)]
theorem and128 (c : UInt8) : bits .and .u8 (c.toNat : Int) 128 = if c.toNat < 128 then 0 else 128 := by
  rw [show (128 : Int) = (((128 : UInt8).toNat : Nat) : Int) from rfl, and8]
  have h : ∀ q : Nat, q < 256 → (UInt8.ofNat q &&& 128).toNat = if q < 128 then 0 else 128 := by decide +kernel
  have e : c = UInt8.ofNat c.toNat := by simp
  rw [e, h _ c.toNat_lt]
  simp only [UInt8.toNat_ofNat', Nat.mod_eq_of_lt c.toNat_lt]
  split <;> rfl
theorem andNot128 (c : UInt8) : bits .andNot .u8 (c.toNat : Int) 128 = ((c.toNat % 128 : Nat) : Int) := by
  have h : ∀ q : Fin 256, bits .andNot .u8 ((q.val : Nat) : Int) 128 = ((q.val % 128 : Nat) : Int) := by decide +kernel
  exact h ⟨c.toNat, c.toNat_lt⟩
theorem or64 (acc k c : Nat) (hk : k ≤ 8 ∨ (k = 9 ∧ c % 128 ≤ 1)) (ha : acc < 128 ^ k) : bits .or .u64 (acc : Int) (IntKind.u64.wrap ((c : Int) % 128 * 2 ^ (7 * k))) = ((acc + c % 128 * 128 ^ k : Nat) : Int) := by
  have hp : (2 : Nat) ^ (7 * k) = 128 ^ k := by rw [Nat.pow_mul]
  have h8 : (128 : Nat) ^ 8 = 72057594037927936 := by decide
  have hb : c % 128 * 128 ^ k ≤ 9223372036854775808 ∧ 128 ^ k ≤ 9223372036854775808 := by
    rcases hk with hk | ⟨rfl, hc⟩
    · have h1 : (128 : Nat) ^ k ≤ 128 ^ 8 := Nat.pow_le_pow_right (by omega) hk
      have h2 : c % 128 * 128 ^ k ≤ 127 * 128 ^ 8 := Nat.mul_le_mul (by omega) h1
      omega
    · have h2 : c % 128 * 128 ^ 9 ≤ 1 * 128 ^ 9 := Nat.mul_le_mul_right _ hc
      omega
  have e1 : ((c : Int) % 128 * 2 ^ (7 * k)) = ((c % 128 * 128 ^ k : Nat) : Int) := by
    rw [← hp]; simp
  have ew : IntKind.u64.wrap ((c % 128 * 128 ^ k : Nat) : Int) = ((c % 128 * 128 ^ k : Nat) : Int) := by
    generalize c % 128 * 128 ^ k = q at hb
    simp only [IntKind.wrap, IntKind.bits, IntKind.signed, Bool.false_and, Bool.false_eq_true, if_false]
    omega
  rw [e1, ew, (bits_nats .u64 rfl acc (c % 128 * 128 ^ k) (by show _ < 18446744073709551616; omega) (by show _ < 18446744073709551616; omega)).2.1, ← hp, or_add (7 * k) _ _ (by rw [hp]; exact ha)]
theorem low8 (m : Nat) : (m : Int) % 256 = ((UInt8.ofNat m).toNat : Int) := by simp [UInt8.toNat_ofNat']
theorem low8' (m : Nat) (h : m < 256) : (m : Int) = ((UInt8.ofNat m).toNat : Int) := by
  rw [UInt8.toNat_ofNat', Nat.mod_eq_of_lt h]
theorem xor255 (x : UInt8) : bits .xor .u8 (x.toNat : Int) 255 = ((x ^^^ 255).toNat : Int) := xor8 x 255
theorem xor255' (x : UInt8) : bits .xor .u8 ((x ^^^ 255).toNat : Int) 255 = (x.toNat : Int) := by
  rw [show (255 : Int) = (((255 : UInt8).toNat : Nat) : Int) from rfl, xor8, UInt8.xor_assoc]
  simp
end Go.Proofs.YticfcelbnkiopaaDoor

namespace Go.Proofs.YticfcelbnkiopaaDoor
set_option maxRecDepth 100000
open Go.RowKit
variable {P : Program} {α : Type}

/-- Two values of a type are told apart by '=='. -/
structure EqT (P : Program) (t : TypeId) (n : Nat) (ag : Bool) (D : Nat) (enc : α → List Value) (val : α → Value) (eq : α → α → Bool) : Prop where
  isAg : ∀ w, (isAgg t).run P w = .ok ag w
  size : ∀ w, (sizeOf t).run P w = .ok n w
  len : ∀ x, (enc x).length = n
  vals : ∀ x, val x = if ag = true then .agg (enc x).toArray else (enc x).headD undef
  one : ag = false → n = 1
  eqs : ∀ d w x y, (Op.equalIn (d + D) t (val x) (val y)).run P w = .ok (eq x y) w

theorem EqT.part {t : TypeId} {n D : Nat} {ag : Bool} {enc : α → List Value} {val : α → Value} {eq : α → α → Bool} (h : EqT P t n ag D enc val eq) (cs : List Value) (off : Nat) (x : α) (hx : (cs.drop off).take n = enc x) (hl : off + n ≤ cs.length) (w : World) :
    (part t cs.toArray off).run P w = .ok (val x) w := by
  unfold Go.part
  rw [Sem.run_bind, h.isAg w, Result.andThen_ok]
  cases ag with
  | true =>
    simp only [if_true, Sem.run_bind, h.size w, Result.andThen_ok, Sem.run_pure]
    rw [h.vals x, if_pos rfl, ← hx]
    congr 2
    apply Array.toList_inj.mp
    simp
  | false =>
    have hn := h.one rfl
    subst hn
    have hlt : off < cs.length := by omega
    have e1 : cs.toArray[off]? = some (val x) := by
      rw [h.vals x]
      simp only [Bool.false_eq_true, if_false, List.getElem?_toArray]
      rw [← hx, List.getElem?_eq_getElem hlt, List.drop_eq_getElem_cons hlt]
      rfl
    simp only [Bool.false_eq_true, if_false]
    rw [e1]
    simp

theorem flatMap_len {enc : α → List Value} {n : Nat} (h : ∀ x, (enc x).length = n) (xs : List α) : (xs.flatMap enc).length = xs.length * n := by
  induction xs with
  | nil => simp
  | cons x xs ih => simp [ih, h, Nat.succ_mul, Nat.add_comm]
theorem flatMap_at {enc : α → List Value} {n : Nat} (h : ∀ x, (enc x).length = n) : ∀ (xs : List α) (i : Nat) (hi : i < xs.length), ((xs.flatMap enc).drop (i * n)).take n = enc xs[i]
  | [], i, hi => by simp at hi
  | x :: xs, 0, _ => by simp [h]
  | x :: xs, i + 1, hi => by
    rw [List.flatMap_cons, Nat.succ_mul, Nat.add_comm, ← List.drop_drop, List.drop_left' (h x), flatMap_at h xs i (by simpa using hi)]
    rfl
theorem all_range_zip {eq : α → α → Bool} : ∀ (xs ys : List α), xs.length = ys.length → ((xs.zip ys).all fun p => eq p.1 p.2) = (List.range xs.length).all fun i => match xs[i]?, ys[i]? with | some a, some b => eq a b | _, _ => true
  | [], [], _ => rfl
  | [], _ :: _, h => by simp at h
  | _ :: _, [], h => by simp at h
  | x :: xs, y :: ys, h => by
    rw [List.length_cons, List.range_succ_eq_map, List.all_cons, List.all_map, List.zip_cons_cons, List.all_cons, all_range_zip xs ys (by simpa using h)]
    rfl

theorem EqT.arr {t e : TypeId} {n m D : Nat} {ag : Bool} {enc : α → List Value} {val : α → Value} {eq : α → α → Bool} (h : EqT P e n ag D enc val eq) (ht : P.underlying t = some (.array m e))
    (d : Nat) (w : World) (xs ys : List α) (hx : xs.length = m) (hy : ys.length = m) :
    (Op.equalIn (d + (D + 1)) t (.agg (xs.flatMap enc).toArray) (.agg (ys.flatMap enc).toArray)).run P w = .ok ((xs.zip ys).all fun p => eq p.1 p.2) w := by
  rw [all_range_zip xs ys (by omega), hx, List.range_eq_range', ← Nat.add_assoc, Op.equalIn]
  simp only [Sem.run_bind, run_underlying ht, Result.andThen_ok, h.size, Std.Legacy.Range.forIn_eq_forIn_range', Std.Legacy.Range.size, Nat.sub_zero, Nat.add_sub_cancel, Nat.div_one]
  have hl : ∀ i ∈ List.range' 0 m 1, i < m := fun i hi => by simpa using (List.mem_range'_1.1 hi).2
  generalize List.range' 0 m 1 = l at hl ⊢
  induction l with
  | nil => simp
  | cons i l ih =>
    have hi : i < m := hl i (by simp)
    have hix : i < xs.length := by omega
    have hiy : i < ys.length := by omega
    have hmul : i * n + n ≤ m * n := by rw [← Nat.succ_mul]; exact Nat.mul_le_mul_right _ hi
    have px := h.part (xs.flatMap enc) (i * n) xs[i] (flatMap_at h.len xs i hix) (by rw [flatMap_len h.len, hx]; exact hmul) w
    have py := h.part (ys.flatMap enc) (i * n) ys[i] (flatMap_at h.len ys i hiy) (by rw [flatMap_len h.len, hy]; exact hmul) w
    have pe := h.eqs d w xs[i] ys[i]
    simp only [List.forIn_cons, Sem.run_bind, px, py, pe, Result.andThen_ok, List.all_cons, List.getElem?_eq_getElem hix, List.getElem?_eq_getElem hiy]
    cases hb : eq xs[i] ys[i]
    · simp
    · simp only [Bool.not_true, Bool.false_eq_true, if_false, Sem.run_pure, Result.andThen_ok, Bool.true_and]
      exact ih fun j hj => hl j (by simp [hj])
theorem zip_all_eq [BEq α] [LawfulBEq α] : ∀ (xs ys : List α), xs.length = ys.length → ((xs.zip ys).all fun p => p.1 == p.2) = (xs == ys)
  | [], [], _ => rfl
  | [], _ :: _, h => by simp at h
  | _ :: _, [], h => by simp at h
  | x :: xs, y :: ys, h => by rw [List.zip_cons_cons, List.all_cons, zip_all_eq xs ys (by simpa using h), List.cons_beq_cons]

/-- Whole numbers of one cell. -/
theorem EqT.int (t : TypeId) (k : IntKind) (ht : P.underlying t = some (.int k)) (hs : ∀ w, (sizeOf t).run P w = .ok 1 w) (num : α → Int) :
    EqT P t 1 false 1 (fun x => [.int k (num x)]) (fun x => .int k (num x)) (fun x y => num x == num y) where
  isAg w := by unfold isAgg; rw [Sem.run_bind, run_underlying ht w]; rfl
  size := hs
  len x := rfl
  vals x := rfl
  one _ := rfl
  eqs d w x y := run_equalIn_int w d t k k _ _ ht

/-- Rows of so many elements. -/
abbrev RowOf (α : Type) (m : Nat) := { l : List α // l.length = m }
theorem EqT.row {t e : TypeId} {n m D : Nat} {ag : Bool} {enc : α → List Value} {val : α → Value} {eq : α → α → Bool} (h : EqT P e n ag D enc val eq) (ht : P.underlying t = some (.array m e)) (hs : ∀ w, (sizeOf t).run P w = .ok (m * n) w) :
    EqT P t (m * n) true (D + 1) (fun l : RowOf α m => l.1.flatMap enc) (fun l => .agg (l.1.flatMap enc).toArray) (fun x y => (x.1.zip y.1).all fun p => eq p.1 p.2) where
  isAg w := by unfold isAgg; rw [Sem.run_bind, run_underlying ht w]; rfl
  size := hs
  len x := by rw [flatMap_len h.len, x.2]
  vals x := rfl
  one h := by cases h
  eqs d w x y := h.arr ht d w x.1 y.1 x.2 y.2
/-- Fields by name, type and place. -/
def eqF (d : Nat) (xs ys : Array Value) : List (String × TypeId × Nat) → Sem Bool
  | [] => pure true
  | f :: fs =>
    if f.1 ≠ "_" then do
      let a ← part f.2.1 xs f.2.2
      let b ← part f.2.1 ys f.2.2
      let r ← Op.equalIn d f.2.1 a b
      if (!r) = true then pure false else eqF d xs ys fs
    else eqF d xs ys fs
theorem eqFields_eq (d : Nat) (xs ys : Array Value) : ∀ fs : List Field, Op.eqFields d xs ys fs = eqF d xs ys (fs.map fun f => (f.name, f.type, f.offset))
  | [] => rfl
  | f :: fs => by rw [Op.eqFields, List.map_cons, eqF, eqFields_eq d xs ys fs]
/-- One field of a struct. -/
theorem eqF_cons {β : Type} {n D : Nat} {ag : Bool} {enc : β → List Value} {val : β → Value} {eq : β → β → Bool} (name : String) (t : TypeId) (o : Nat) (fs : List (String × TypeId × Nat)) (h : EqT P t n ag D enc val eq) (hn : name ≠ "_") (d : Nat) (hD : D ≤ d) (xs ys : List Value) (x y : β)
    (hx : (xs.drop o).take n = enc x) (hy : (ys.drop o).take n = enc y) (hl : o + n ≤ xs.length) (hl2 : o + n ≤ ys.length) (w : World) (r : Bool) (hr : (eqF d xs.toArray ys.toArray fs).run P w = .ok r w) :
    (eqF d xs.toArray ys.toArray ((name, t, o) :: fs)).run P w = .ok (eq x y && r) w := by
  obtain ⟨d, rfl⟩ : ∃ k, d = k + D := ⟨d - D, by omega⟩
  rw [eqF, if_pos hn]
  simp only [Sem.run_bind, h.part xs o x hx hl w, h.part ys o y hy hl2 w, h.eqs d w x y, Result.andThen_ok]
  cases eq x y
  · simp
  · simp [hr]
theorem eqF_nil (d : Nat) (xs ys : Array Value) (w : World) : (eqF d xs ys []).run P w = .ok true w := by simp [eqF]
end Go.Proofs.YticfcelbnkiopaaDoor

namespace Go.Proofs.YticfcelbnkiopaaDoor
set_option maxRecDepth 100000
open Go.RowKit

structure PT where
  hash : List UInt8
  hl : hash.length = 32
  birth : UInt32
  a0 : UInt32
  a1 : UInt32
  deriving DecidableEq
def u32 (n : UInt32) : Value := .int .u32 (n.toNat : Int)
def PT.cells (p : PT) : List Value := p.hash.map cb ++ [u32 p.birth, u32 p.a0, u32 p.a1]
def PT.val (p : PT) : Value := .agg p.cells.toArray
def PT.may (p : PT) : Bool := if p.a0 = 0 then p.a1 == 0 else p.a0 != p.a1
theorem PT.len (p : PT) : p.cells.length = 35 := by simp [PT.cells, p.hl]
theorem PT.take32 (p : PT) : p.cells.take 32 = p.hash.map cb := by rw [PT.cells, List.take_append_of_le_length (by simp [p.hl]), List.take_of_length_le (by simp [p.hl])]
theorem PT.drop32 (p : PT) : p.cells.drop 32 = [u32 p.birth, u32 p.a0, u32 p.a1] := by rw [PT.cells, List.drop_left' (by simp [p.hl])]
theorem PT.drop33 (p : PT) : p.cells.drop 33 = [u32 p.a0, u32 p.a1] := by rw [show 33 = 32 + 1 from rfl, ← List.drop_drop, PT.drop32]; rfl
theorem PT.c32 (p : PT) : p.cells.toArray[32]? = some (u32 p.birth) := by simp [PT.cells, p.hl]
theorem PT.c33 (p : PT) : p.cells.toArray[33]? = some (u32 p.a0) := by simp [PT.cells, p.hl]
theorem PT.c34 (p : PT) : p.cells.toArray[34]? = some (u32 p.a1) := by simp [PT.cells, p.hl]
theorem PT.ext' (p q : PT) (h1 : p.hash = q.hash) (h2 : p.birth = q.birth) (h3 : p.a0 = q.a0) (h4 : p.a1 = q.a1) : p = q := by
  cases p; cases q; simp_all
/-- The hole. -/
def PT.hole : PT := ⟨List.replicate 32 0, by simp, 0, 0, 0⟩
theorem u32_eq (a b : UInt32) : ((a.toNat : Int) == (b.toNat : Int)) = (a == b) := by
  by_cases h : a = b
  · subst h; simp
  · have : ¬ (a.toNat : Int) = (b.toNat : Int) := fun e => h (UInt32.toNat_inj.mp (by omega))
    rw [beq_eq_false_iff_ne.mpr this, beq_eq_false_iff_ne.mpr h]
theorem u8_eq (a b : UInt8) : ((a.toNat : Int) == (b.toNat : Int)) = (a == b) := by
  by_cases h : a = b
  · subst h; simp
  · have : ¬ (a.toNat : Int) = (b.toNat : Int) := fun e => h (UInt8.toNat_inj.mp (by omega))
    rw [beq_eq_false_iff_ne.mpr this, beq_eq_false_iff_ne.mpr h]

theorem sizeOf_ok {P : Program} {t : TypeId} {n : Nat} (h : (P.info? t).map (·.size) = some n) (w : World) : (sizeOf t).run P w = .ok n w := by
  cases hq : P.info? t with
  | none => simp [hq] at h
  | some i => simp [hq] at h; simp [sizeOf, typeInfo, hq, h]
theorem eqU8 : EqT Tryd.prog 5 1 false 1 (fun x : UInt8 => [cb x]) cb (fun x y => (x.toNat : Int) == (y.toNat : Int)) :=
  EqT.int 5 .u8 (by kernel_rfl) (sizeOf_ok (by kernel_rfl)) (fun x : UInt8 => (x.toNat : Int))
theorem eqU32 : EqT Tryd.prog 30 1 false 1 (fun x : UInt32 => [u32 x]) u32 (fun x y => (x.toNat : Int) == (y.toNat : Int)) :=
  EqT.int 30 .u32 (by kernel_rfl) (sizeOf_ok (by kernel_rfl)) (fun x : UInt32 => (x.toNat : Int))

theorem eqHash : EqT Tryd.prog 29 (32 * 1) true 2 (fun l : RowOf UInt8 32 => l.1.flatMap fun x => [cb x]) (fun l => .agg (l.1.flatMap fun x => [cb x]).toArray) (fun x y => (x.1.zip y.1).all fun p => (p.1.toNat : Int) == (p.2.toNat : Int)) :=
  eqU8.row (by kernel_rfl) (sizeOf_ok (by kernel_rfl))
theorem eqAt : EqT Tryd.prog 31 (2 * 1) true 2 (fun l : RowOf UInt32 2 => l.1.flatMap fun x => [u32 x]) (fun l => .agg (l.1.flatMap fun x => [u32 x]).toArray) (fun x y => (x.1.zip y.1).all fun p => (p.1.toNat : Int) == (p.2.toNat : Int)) :=
  eqU32.row (by kernel_rfl) (sizeOf_ok (by kernel_rfl))
theorem flatMap_one {α : Type} (f : α → Value) (l : List α) : (l.flatMap fun x => [f x]) = l.map f := by
  induction l with
  | nil => rfl
  | cons x l ih => simp [ih]
theorem zip_u8 : ∀ (xs ys : List UInt8), xs.length = ys.length → ((xs.zip ys).all fun p => (p.1.toNat : Int) == (p.2.toNat : Int)) = (xs == ys) := by
  intro xs ys h
  rw [← zip_all_eq xs ys h]
  congr 1
  funext p
  exact u8_eq _ _

theorem eqPT : EqT Tryd.prog 33 35 true 3 PT.cells PT.val (fun p q => p == q) where
  isAg w := by unfold isAgg; rw [Sem.run_bind, run_underlying (t := 33) Tryd.underlying33 w]; rfl
  size := sizeOf_ok (by kernel_rfl)
  len := PT.len
  vals p := rfl
  one h := by cases h
  eqs d w p q := by
    unfold PT.val
    rw [run_equalIn_struct w (d + 2) 33 _ _ (by kernel_rfl) (by kernel_rfl)]
    have hf : (Program.fieldsOf Tryd.prog 33).toList.map (fun f => (f.name, f.type, f.offset)) = [("Hash", 29, 0), ("Birth", 30, 32), ("At", 31, 33)] := by kernel_rfl
    rw [eqFields_eq, hf]
    have h3 := eqF_cons (P := Tryd.prog) "At" 31 33 [] eqAt (by decide) (d + 2) (by omega) p.cells q.cells ⟨[p.a0, p.a1], rfl⟩ ⟨[q.a0, q.a1], rfl⟩ (by rw [PT.drop33]; rfl) (by rw [PT.drop33]; rfl) (by rw [PT.len]; decide) (by rw [PT.len]; decide) w true (eqF_nil _ _ _ _)
    have h2 := eqF_cons (P := Tryd.prog) "Birth" 30 32 _ eqU32 (by decide) (d + 2) (by omega) p.cells q.cells p.birth q.birth (by rw [PT.drop32]; rfl) (by rw [PT.drop32]; rfl) (by rw [PT.len]; decide) (by rw [PT.len]; decide) w _ h3
    have h1 := eqF_cons (P := Tryd.prog) "Hash" 29 0 _ eqHash (by decide) (d + 2) (by omega) p.cells q.cells ⟨p.hash, p.hl⟩ ⟨q.hash, q.hl⟩ (by rw [List.drop_zero, flatMap_one]; exact PT.take32 p) (by rw [List.drop_zero, flatMap_one]; exact PT.take32 q) (by rw [PT.len]; decide) (by rw [PT.len]; decide) w _ h2
    rw [h1]
    congr 1
    simp only [zip_u8 p.hash q.hash (by rw [p.hl, q.hl]), u32_eq, List.zip_cons_cons, List.zip_nil_right, List.all_cons, List.all_nil, Bool.and_true]
    rw [Bool.eq_iff_iff]
    simp only [Bool.and_eq_true, beq_iff_eq]
    constructor
    · rintro ⟨h1, h2, h3, h4⟩; exact PT.ext' p q h1 h2 h3 h4
    · rintro rfl; exact ⟨rfl, rfl, rfl, rfl⟩
theorem ptr_eql (p q : PT) (w : World) : (binOp .eql 33 p.val q.val).run Tryd.prog w = .ok (.bool (p == q)) w := by
  unfold PT.val
  rw [run_eql_struct]
  have h := eqPT.eqs 9997 w p q
  unfold PT.val at h
  rw [h]; rfl

set_option maxRecDepth 100000 in
theorem May_any (p : PT) (w : World) : Calls Tryd.prog 83 #[p.val] w fun e w' => e = .returned (.bool p.may) ∧ Below w.heap.size w w' := by
  have h33 := p.c33
  have h34 := p.c34
  have hb : Below w.heap.size w (w.alloc (.cells p.cells.toArray 33)) := (Below.refl _ _).alloc (Nat.le_refl _) _
  unfold PT.val u32 at *
  generalize p.cells.toArray = C at h33 h34 hb
  have e0 := u32_eq p.a0 0
  have e1 := u32_eq p.a1 0
  have e2 : ((p.a0.toNat : Int) != (p.a1.toNat : Int)) = (p.a0 != p.a1) := by rw [bne, bne, u32_eq]
  simp only [UInt32.toNat_zero, Int.natCast_zero] at e0 e1
  by_cases h : p.a0 = 0
  · have hm : p.may = (p.a1 == 0) := by rw [PT.may, if_pos h]
    rw [hm]
    have h0 : ((p.a0.toNat : Int) == 0) = true := by rw [h]; rfl
    clear h hm e0
    go_enter Tryd.func83, Tryd.ntmps83
    go_wp2
    go_ret
    exact ⟨rfl, hb⟩
  · have hm : p.may = (p.a0 != p.a1) := by rw [PT.may, if_neg h]
    rw [hm]
    have h0 : ((p.a0.toNat : Int) == 0) = false := by
      have : ¬ (p.a0.toNat : Int) = 0 := fun e => h (UInt32.toNat_inj.mp (by simpa using e))
      simpa using this
    clear h hm e0
    go_enter Tryd.func83, Tryd.ntmps83
    go_wp2
    go_ret
    exact ⟨rfl, hb⟩
end Go.Proofs.YticfcelbnkiopaaDoor

namespace Go.Proofs.YticfcelbnkiopaaDoor
set_option maxRecDepth 100000
open Go.RowKit
variable {P : Program} {α : Type}

/-- Block b holds cs. -/
def VA (w : World) (b : Nat) (t : TypeId) (cs : List Value) : Prop := w.heap[b]? = some (.cells cs.toArray t (0, 0))
theorem VA.lt {w : World} {b : Nat} {t : TypeId} {cs : List Value} (h : VA w b t cs) : b < w.heap.size := by
  rcases Nat.lt_or_ge b w.heap.size with h2 | h2
  · exact h2
  · rw [VA, Array.getElem?_eq_none h2] at h; cases h
theorem VA.grown {w w1 : World} {b : Nat} {t : TypeId} {cs : List Value} {row : Option Nat} (h : VA w b t cs) (hg : w.grownBy w1 row) (hne : some b ≠ row) : VA w1 b t cs := (hg.block b h.lt hne).trans h
theorem VA.below {w w1 : World} {b : Nat} {t : TypeId} {cs : List Value} (h : VA w b t cs) (hb : Below w.heap.size w w1) : VA w1 b t cs := (hb.block b h.lt).trans h
theorem VA.cell {w : World} {b : Nat} {t : TypeId} {cs : List Value} (h : VA w b t cs) (i : Nat) : w.cell? ⟨b, i, none⟩ = cs[i]? := by
  unfold World.cell?
  rw [show (⟨b, i, none⟩ : Addr).block = b from rfl, h]
  simp
theorem VA.frozen {w : World} {b : Nat} {t : TypeId} {cs : List Value} (h : VA w b t cs) (i : Nat) : w.frozen? ⟨b, i, none⟩ = false := by
  unfold World.frozen?
  rw [show (⟨b, i, none⟩ : Addr).block = b from rfl, h]
  simp
theorem VA.range {w : World} {b : Nat} {t : TypeId} {cs : List Value} (h : VA w b t cs) (o : Nat) (xs : List Value) (hx : (cs.drop o).take xs.length = xs) : w.rangeAt b o xs := fun j v hv => by
  rw [h.cell, ← hv, ← hx, List.getElem?_take, List.getElem?_drop]
  have := (List.getElem?_eq_some_iff.1 hv).1
  rw [if_pos this]
theorem VA.all {w : World} {b : Nat} {t : TypeId} {cs : List Value} (h : VA w b t cs) : w.rangeAt b 0 cs := h.range 0 cs (by simp)
theorem VA.new (w : World) (cs : List Value) (t : TypeId) : VA (w.alloc (.cells cs.toArray t)) w.heap.size t cs := heap_alloc_new w _
theorem RR.range {T : Ty α} {w : World} {b o : Nat} {xs : List α} (h : w.rangeAt b o (T.all xs)) (hm : xs.length ≤ 9223372036854775807) : RR T w (.slice (some ⟨b, o, none⟩) xs.length xs.length) xs :=
  ⟨some ⟨b, o, none⟩, xs.length, rfl, Nat.le_refl _, by simpa [maxLen] using hm, fun _ => ⟨_, rfl, fun j v hv => by rw [Addr.add_mid]; exact h j v hv⟩⟩

section
variable {ops : Array Oper} {rest : List Oper} {o o1 o2 : Oper} {a : Act} {Q : Exit → Act → World → Prop} {w w' : World} {ρ : Operand → Value}

/-- An operation that yields a value. -/
theorem stepV {v : Value} (hr : (execOp a.eval o).run P w = .ok (.value v) w') (hw : Region.wanted o (yielded ops a.tmps) = true) (h : wpList P ops Q rest (a.put o.dst v) w') : wpList P ops Q (o :: rest) a w :=
  wpList_step fun K hK => by
    rw [if_pos hw]
    unfold Oper.wp
    rw [hr]
    exact hK _ _ h
theorem stepS (hr : (execOp a.eval o).run P w = .ok .skip w') (hw : Region.wanted o (yielded ops a.tmps) = true) (h : wpList P ops Q rest (a.put o.dst undef) w') : wpList P ops Q (o :: rest) a w :=
  wpList_step fun K hK => by
    rw [if_pos hw]
    unfold Oper.wp
    rw [hr]
    exact hK _ _ h

theorem exec_load (t : TypeId) (x : Operand) (ho : o.op = .load t x) (b off : Nat) (hx : ρ x = .pointer (some ⟨b, off, none⟩)) (cs : List Value) (d : TypeDesc) (hc : w.rangeAt b off cs)
    (hu : P.underlying t = some d) (hd : d.isRow = true) (hi : (P.info? t).map (·.size) = some cs.length) : (execOp ρ o).run P w = .ok (.value (.agg cs.toArray)) w := by
  unfold execOp
  simp only [ho, hx, run_loadAt_mid w b off t cs d hc hu hd hi, Sem.run_bind, Sem.run_pure, Result.andThen_ok]
theorem run_loadAt_any (w : World) (ad : Addr) (ty : TypeId) (cs : List Value) (d : TypeDesc) (hc : ∀ (j : Nat) (v : Value), cs[j]? = some v → w.cell? (ad.add j) = some v)
    (hu : P.underlying ty = some d) (hd : d.isRow = true) (hi : (P.info? ty).map (·.size) = some cs.length) : (Instr.loadAt ty (.pointer (some ad))).run P w = .ok (.agg cs.toArray) w := by
  have hl : (loadCells ad cs.length).run P w = .ok cs.toArray w := run_loadCells_list (P := P) w ad cs hc
  have hv : (loadVar ty ad).run P w = .ok (.agg cs.toArray) w := by
    cases hq : P.info? ty with
    | none => simp [hq] at hi
    | some i =>
      have hs : i.size = cs.length := by simpa [hq] using hi
      have hagg : (isAgg ty).run P w = .ok true w := by
        unfold isAgg
        rw [Sem.run_bind, run_underlying hu w]
        cases d <;> simp_all
      simp [loadVar, Sem.run_bind, hagg, sizeOf, typeInfo, hq, hs, hl]
  simp only [Instr.loadAt, Instr.sureAddr, Sem.run_bind, Sem.run_pure, Result.andThen_ok, hv]
theorem exec_loadA (t : TypeId) (x : Operand) (ho : o.op = .load t x) (ad : Addr) (hx : ρ x = .pointer (some ad)) (cs : List Value) (d : TypeDesc) (hc : ∀ (j : Nat) (v : Value), cs[j]? = some v → w.cell? (ad.add j) = some v)
    (hu : P.underlying t = some d) (hd : d.isRow = true) (hi : (P.info? t).map (·.size) = some cs.length) : (execOp ρ o).run P w = .ok (.value (.agg cs.toArray)) w := by
  unfold execOp
  simp only [ho, hx, run_loadAt_any w ad t cs d hc hu hd hi, Sem.run_bind, Sem.run_pure, Result.andThen_ok]
theorem exec_arrptr (arr : TypeId) (x : Operand) (ho : o.op = .sliceToArrayPointer arr x) (n : Nat) (e : TypeId) (ht : P.underlying arr = some (.array n e)) (A : Option Addr) (len c : Nat) (hx : ρ x = .slice A len c) (hl : n ≤ len) : (execOp ρ o).run P w = .ok (.value (.pointer A)) w := by
  have h : ¬ len < n := by omega
  unfold execOp
  simp only [ho, hx, Instr.arrayAt, Sem.run_bind, run_underlying ht, Result.andThen_ok, if_neg h, Sem.run_pure]
theorem exec_build (t : TypeId) (parts : Array (Nat × Operand)) (ho : o.op = .build t parts) (cs : List Value) (h : P.built t (parts.map fun (i, x) => (i, ρ x)).toList = some cs.toArray) : (execOp ρ o).run P w = .ok (.value (.agg cs.toArray)) w := by
  unfold execOp
  simp only [ho, run_build w _ _ _ h, Sem.run_bind, Sem.run_pure, Result.andThen_ok]
theorem exec_buildL (t : TypeId) (parts : List (Nat × Operand)) (ho : o.op = .build t parts.toArray) (vals : List (Nat × Value)) (hv : parts.map (fun x => (x.1, ρ x.2)) = vals) (cs : List Value) (h : P.built t vals = some cs.toArray) : (execOp ρ o).run P w = .ok (.value (.agg cs.toArray)) w :=
  exec_build t parts.toArray ho cs (by subst hv; simpa using h)
theorem exec_zero (t : TypeId) (ho : o.op = .build t #[]) (cs : List Value) (h : P.built t [] = some cs.toArray) : (execOp ρ o).run P w = .ok (.value (.agg cs.toArray)) w :=
  exec_build t #[] ho cs (by simpa using h)
theorem exec_eql (t tx : TypeId) (x y : Operand) (ho : o.op = .binOp .eql t x y tx) (xs ys : Array Value) (hx : ρ x = .agg xs) (hy : ρ y = .agg ys) (hm : P.eqGuardType P.depth t = false) (r : Bool) (h : (binOp .eql t (.agg xs) (.agg ys)).run P w = .ok (.bool r) w) :
    (execOp ρ o).run P w = .ok (.value (.bool r)) w := by
  unfold execOp
  simp only [ho, hx, hy, run_eqGuard_agg w _ _ _ _ _ _ hm, h, Sem.run_bind, Sem.run_pure, Result.andThen_ok]
theorem exec_neq (t tx : TypeId) (x y : Operand) (ho : o.op = .binOp .neq t x y tx) (xs ys : Array Value) (hx : ρ x = .agg xs) (hy : ρ y = .agg ys) (hm : P.eqGuardType P.depth t = false) (r : Bool) (h : (binOp .eql t (.agg xs) (.agg ys)).run P w = .ok (.bool r) w) :
    (execOp ρ o).run P w = .ok (.value (.bool (!r))) w := by
  have h2 : (binOp .neq t (.agg xs) (.agg ys)).run P w = .ok (.bool (!r)) w := by
    rw [run_neq_struct]
    rw [run_eql_struct] at h
    generalize (Op.equalIn 10000 t (.agg xs) (.agg ys)).run P w = q at h ⊢
    cases q with
    | ok b w2 => simp only [Result.andThen_ok] at h ⊢; cases h; rfl
    | halt x w2 => simp [Result.andThen] at h
  unfold execOp
  simp only [ho, hx, hy, run_eqGuard_agg w _ _ _ _ _ _ hm, h2, Sem.run_bind, Sem.run_pure, Result.andThen_ok]
theorem exec_index {e : TypeId} {m n D : Nat} {ag : Bool} {enc : α → List Value} {val : α → Value} {eq : α → α → Bool} (h : EqT P e n ag D enc val eq) (t : TypeId) (x y : Operand) (ho : o.op = .index t x y) (ht : P.underlying t = some (.array m e)) (xs : List α) (hx : ρ x = .agg (xs.flatMap enc).toArray) (hl : xs.length = m)
    (i : Nat) (k : IntKind) (hy : ρ y = .int k (i : Int)) (hi : i < xs.length) : (execOp ρ o).run P w = .ok (.value (val xs[i])) w := by
  have h1 : 0 ≤ (i : Int) ∧ (i : Int) < (m : Int) := by omega
  have hmul : i * n + n ≤ xs.length * n := by rw [← Nat.succ_mul]; exact Nat.mul_le_mul_right _ hi
  have hp := h.part (xs.flatMap enc) (i * n) xs[i] (flatMap_at h.len xs i hi) (by rw [flatMap_len h.len]; exact hmul) w
  unfold execOp
  simp only [ho, hx, hy, Instr.index, asIntOf, Sem.run_bind, Sem.run_pure, Result.andThen_ok, run_underlying ht, if_pos h1, Sem.run_ite, h.size, Int.toNat_natCast, hp]
theorem exec_box (t : TypeId) (x : Operand) (ho : o.op = .box t x) (cs : List Value) (hx : ρ x = .agg cs.toArray) : (execOp ρ o).run P w = .ok (.value (.pointer (some ⟨w.heap.size, 0, none⟩))) (w.alloc (.cells cs.toArray t)) := by
  unfold execOp
  simp only [ho, hx]
  rfl
theorem exec_alloc (t : TypeId) (ho : o.op = .alloc t) (z : Value) (cs : List Value) (hz : (P.info? t).map (·.zero) = some (some z)) (hc : z.cells = cs.toArray) : (execOp ρ o).run P w = .ok (.value (.pointer (some ⟨w.heap.size, 0, none⟩))) (w.alloc (.cells cs.toArray t)) := by
  cases hq : P.info? t with
  | none => simp [hq] at hz
  | some i =>
    simp only [hq, Option.map_some, Option.some.injEq] at hz
    unfold execOp
    simp only [ho, Instr.alloc, zeroValue, typeInfo, Sem.run_bind, run_program, Sem.run_pure, Result.andThen_ok, hq, hz, newVar, newRow, hc]
    rfl
theorem exec_store (t : TypeId) (x y : Operand) (ho : o.op = .store t x y) (b : Nat) (hx : ρ x = .pointer (some ⟨b, 0, none⟩)) (cs old : List Value) (hy : ρ y = .agg cs.toArray) (t2 : TypeId) (hv : VA w b t2 old) (hi : (P.info? t).map (·.size) = some cs.length) (hl : old.length = cs.length) (h1 : ∀ v ∈ cs, v.oneCell' = true) :
    (execOp ρ o).run P w = .ok .skip (w.setRow b cs.toArray) := by
  unfold execOp
  simp only [ho, hx, hy, Instr.storeAt, Instr.sureAddr, Sem.run_bind, Sem.run_pure, Result.andThen_ok, run_storeVar_row w b t2 t old.toArray cs.toArray hv (by simpa using hi) (by simpa using hl) (all_oneCell_toArray h1)]

theorem VA.set {w : World} {b : Nat} {t : TypeId} {old : List Value} (h : VA w b t old) (cs : List Value) : VA (w.setRow b cs.toArray) b t cs := setRow_heap w b old.toArray cs.toArray t (0, 0) h
theorem setRow_grown (w : World) (b : Nat) (cs : Array Value) : w.grownBy (w.setRow b cs) (some b) := ⟨rfl, rfl, rfl, by simp, fun k _ hk => by
  simp only [World.setRow, Array.getElem?_modify]
  rw [if_neg (fun e => hk (by rw [e]))]⟩
theorem alloc_belowAt (w : World) (o : Obj) : Below w.heap.size w (w.alloc o) := (Below.refl _ _).alloc (Nat.le_refl _) _

theorem run_loadVar_va {w : World} {b : Nat} {t2 : TypeId} {cs : List Value} (hv : VA w b t2 cs) (t : TypeId) (d : TypeDesc) (hu : P.underlying t = some d) (hd : d.isRow = true) (hi : (P.info? t).map (·.size) = some cs.length) : (loadVar t ⟨b, 0, none⟩).run P w = .ok (.agg cs.toArray) w :=
  run_loadVar_mid w b 0 t cs d hv.all hu hd hi
theorem results_cell {fn : Func} {d : Tmp} {t : TypeId} (h : fn.results = #[.cell d t]) (tmps : Array Value) {w : World} {b : Nat} {t2 : TypeId} {cs : List Value} (hv : VA w b t2 cs) (hp : tmps.getD d undef = .pointer (some ⟨b, 0, none⟩)) (td : TypeDesc) (hu : P.underlying t = some td) (hd : td.isRow = true) (hi : (P.info? t).map (·.size) = some cs.length) :
    (results fn tmps).run P w = .ok (.agg cs.toArray) w := by
  have hp2 : tmps[d]?.getD undef = .pointer (some ⟨b, 0, none⟩) := by rw [← hp]; simp
  simp [results, h, hp2, asAddr, run_loadVar_va hv t td hu hd hi]
theorem results_cell_tmp {fn : Func} {d e : Tmp} {t : TypeId} (h : fn.results = #[.cell d t, .tmp e]) (tmps : Array Value) {w : World} {b : Nat} {t2 : TypeId} {cs : List Value} (hv : VA w b t2 cs) (hp : tmps.getD d undef = .pointer (some ⟨b, 0, none⟩)) (td : TypeDesc) (hu : P.underlying t = some td) (hd : td.isRow = true) (hi : (P.info? t).map (·.size) = some cs.length) :
    (results fn tmps).run P w = .ok (.tuple #[.agg cs.toArray, tmps.getD e undef]) w := by
  have hp2 : tmps[d]?.getD undef = .pointer (some ⟨b, 0, none⟩) := by rw [← hp]; simp
  simp [results, h, hp2, asAddr, run_loadVar_va hv t td hu hd hi]
/-- A variable is made, and a value laid into it. -/
theorem wpVar (t : TypeId) (ho1 : o1.op = .alloc t) (z : Value) (zs : List Value) (hz : (P.info? t).map (·.zero) = some (some z)) (hc : z.cells = zs.toArray) (d : Nat) (y : Operand) (ho2 : o2.op = .store t (.tmp d) y) (cs : List Value)
    (hx : (a.put o1.dst (.pointer (some ⟨w.heap.size, 0, none⟩))).eval (.tmp d) = .pointer (some ⟨w.heap.size, 0, none⟩))
    (hy : (a.put o1.dst (.pointer (some ⟨w.heap.size, 0, none⟩))).eval y = .agg cs.toArray) (hl : zs.length = cs.length) (hi : (P.info? t).map (·.size) = some cs.length) (h1 : ∀ v ∈ cs, v.oneCell' = true)
    (hw1 : Region.wanted o1 (yielded ops a.tmps) = true) (hw2 : Region.wanted o2 (yielded ops (a.put o1.dst (.pointer (some ⟨w.heap.size, 0, none⟩))).tmps) = true)
    (h : ∀ w', VA w' w.heap.size t cs → Below w.heap.size w w' → wpList P ops Q rest ((a.put o1.dst (.pointer (some ⟨w.heap.size, 0, none⟩))).put o2.dst undef) w') : wpList P ops Q (o1 :: o2 :: rest) a w := by
  refine stepV (exec_alloc t ho1 z zs hz hc) hw1 ?_
  have hv := VA.new w zs t
  refine stepS (exec_store t (.tmp d) y ho2 w.heap.size hx cs zs hy t hv hi hl h1) hw2 ?_
  exact h _ (hv.set cs) ((alloc_belowAt w _).grown (setRow_grown _ _ _) (alloc_belowAt w _).size (fun k hk => by cases hk; exact Nat.le_refl _))
/-- A value is put into a variable of its own. -/
theorem wpBox (t : TypeId) (x : Operand) (ho : o.op = .box t x) (cs : List Value) (hx : a.eval x = .agg cs.toArray) (hw : Region.wanted o (yielded ops a.tmps) = true)
    (h : ∀ w', VA w' w.heap.size t cs → Below w.heap.size w w' → wpList P ops Q rest (a.put o.dst (.pointer (some ⟨w.heap.size, 0, none⟩))) w') : wpList P ops Q (o :: rest) a w :=
  stepV (exec_box t x ho cs hx) hw (h _ (VA.new w cs t) (alloc_belowAt w _))
/-- A variable is made. -/
theorem wpAlloc (t : TypeId) (ho : o.op = .alloc t) (z : Value) (zs : List Value) (hz : (P.info? t).map (·.zero) = some (some z)) (hc : z.cells = zs.toArray) (hw : Region.wanted o (yielded ops a.tmps) = true)
    (h : ∀ w', VA w' w.heap.size t zs → Below w.heap.size w w' → wpList P ops Q rest (a.put o.dst (.pointer (some ⟨w.heap.size, 0, none⟩))) w') : wpList P ops Q (o :: rest) a w :=
  stepV (exec_alloc t ho z zs hz hc) hw (h _ (VA.new w zs t) (alloc_belowAt w _))
/-- A value is laid into a variable. -/
theorem wpStore (t : TypeId) (x y : Operand) (ho : o.op = .store t x y) (b : Nat) (hx : a.eval x = .pointer (some ⟨b, 0, none⟩)) (cs old : List Value) (hy : a.eval y = .agg cs.toArray) (t2 : TypeId) (hv : VA w b t2 old) (hi : (P.info? t).map (·.size) = some cs.length) (hl : old.length = cs.length) (h1 : ∀ v ∈ cs, v.oneCell' = true)
    (hw : Region.wanted o (yielded ops a.tmps) = true) (h : ∀ w', VA w' b t2 cs → w.grownBy w' (some b) → wpList P ops Q rest (a.put o.dst undef) w') : wpList P ops Q (o :: rest) a w :=
  stepS (exec_store t x y ho b hx cs old hy t2 hv hi hl h1) hw (h _ (hv.set cs) (setRow_grown _ _ _))
/-- The same, at the operation: a step of a region that draws its order. -/
theorem opStore {K : Act → World → Prop} (t : TypeId) (x y : Operand) (ho : o.op = .store t x y) (b : Nat) (hx : a.eval x = .pointer (some ⟨b, 0, none⟩)) (cs old : List Value) (hy : a.eval y = .agg cs.toArray) (t2 : TypeId) (hv : VA w b t2 old) (hi : (P.info? t).map (·.size) = some cs.length) (hl : old.length = cs.length) (h1 : ∀ v ∈ cs, v.oneCell' = true)
    (h : ∀ w', VA w' b t2 cs → w.grownBy w' (some b) → K (a.put o.dst undef) w') : o.wp P a w K Q := by
  unfold Oper.wp
  rw [exec_store t x y ho b hx cs old hy t2 hv hi hl h1]
  exact h _ (hv.set cs) (setRow_grown _ _ _)
end
end Go.Proofs.YticfcelbnkiopaaDoor

namespace Go.Proofs.YticfcelbnkiopaaDoor
set_option maxRecDepth 100000
open Go.RowKit

theorem PT.info (p : PT) : (Tryd.prog.info? 33).map (·.size) = some p.cells.length := by rw [PT.len]; kernel_rfl
theorem PT.one (p : PT) : ∀ v ∈ p.cells, v.oneCell' = true := by
  intro v hv
  simp only [PT.cells, List.mem_append, List.mem_map, List.mem_cons, List.not_mem_nil, or_false] at hv
  rcases hv with ⟨x, _, rfl⟩ | rfl | rfl | rfl <;> rfl
theorem ptr_eqlA (p q : PT) (w : World) : (binOp .eql 33 (.agg p.cells.toArray) (.agg q.cells.toArray)).run Tryd.prog w = .ok (.bool (p == q)) w := ptr_eql p q w
theorem ptr_zero : Program.built Tryd.prog 33 [] = some PT.hole.cells.toArray := by kernel_rfl
theorem ptr_guard : Tryd.prog.eqGuardType Tryd.prog.depth 33 = false := by kernel_rfl

set_option maxRecDepth 100000 in
theorem IsHole_any (p : PT) (w : World) : Calls Tryd.prog 68 #[p.val] w fun e w' => e = .returned (.bool (p == PT.hole)) ∧ Below w.heap.size w w' := by
  unfold PT.val
  go_enter Tryd.func68, Tryd.ntmps68
  go_wp2_with (first
    | (refine wpBox 33 _ rfl p.cells rfl rfl ?_; intro w1 hv1 hb1)
    | (refine stepV (exec_load 33 _ rfl _ _ rfl p.cells _ hv1.all Tryd.underlying33 rfl p.info) rfl ?_)
    | (refine stepV (exec_build 33 _ rfl PT.hole.cells ptr_zero) rfl ?_)
    | (refine stepV (exec_eql 33 _ _ _ rfl _ _ rfl rfl ptr_guard _ (ptr_eqlA p PT.hole _)) rfl ?_))
  go_ret
  exact ⟨rfl, hb1⟩
end Go.Proofs.YticfcelbnkiopaaDoor

/- Numbers written in sevens: what is put, what is taken. Plain lists. -/
namespace Go.Proofs.YticfcelbnkiopaaDoor
set_option maxRecDepth 100000

/-- The bytes of a short number. -/
def putL (n : Nat) : List UInt8 := if n < 128 then [UInt8.ofNat n] else UInt8.ofNat (n % 128 + 128) :: putL (n / 128)
termination_by n
def W64 (n : Nat) : Prop := n < 18446744073709551616
theorem putL_len (k : Nat) : ∀ n, n < 128 ^ (k + 1) → (putL n).length ≤ k + 1 := by
  induction k with
  | zero => intro n h; rw [putL, if_pos (by omega)]; simp
  | succ k ih =>
    intro n h
    rw [putL]
    split
    · simp
    · have := ih (n / 128) (by rw [Nat.div_lt_iff_lt_mul (by omega), ← Nat.pow_succ]; exact h)
      simp; omega
theorem putL_len64 (n : Nat) (h : W64 n) : (putL n).length ≤ 10 := putL_len 9 n (by unfold W64 at h; omega)
theorem putL_pos (n : Nat) : 0 < (putL n).length := by
  rw [putL]
  split <;> simp

/-- May the i-th byte, c, be the last one? -/
def shortB (i : Nat) (c : UInt8) : Bool := i == 0 || (c != 0 && (decide (i < 9) || c == 1))

/-- error, number, bytes taken -/
def tkGo : Nat → Nat → Nat → List UInt8 → Nat × Nat × Nat
  | 0, _, _, _ => (3, 0, 0)
  | _ + 1, _, _, [] => (2, 0, 0)
  | f + 1, i, acc, c :: r =>
    if c.toNat < 128 then (if shortB i c then (0, acc + c.toNat * 128 ^ i, i + 1) else (3, 0, 0))
    else tkGo f (i + 1) (acc + (c.toNat % 128) * 128 ^ i) r
def tk (b : List UInt8) : Nat × Nat × Nat := tkGo 10 0 0 b
def tkE (b : List UInt8) : Nat := (tk b).1
def tkN (b : List UInt8) : Nat := (tk b).2.1
def tkR (b : List UInt8) : List UInt8 := if tkE b = 0 then b.drop (tk b).2.2 else []

theorem tkGo_ok (f : Nat) : ∀ i acc b n k, tkGo f i acc b = (0, n, k) → f + i = 10 → acc < 128 ^ i →
    ∃ p r m, b = p ++ r ∧ k = i + p.length ∧ n = acc + m * 128 ^ i ∧ p = putL m ∧ W64 n ∧ (i ≠ 0 → m ≠ 0) := by
  induction f with
  | zero => intro i acc b n k h; simp [tkGo] at h
  | succ f ih =>
    intro i acc b n k h hf ha
    cases b with
    | nil => simp [tkGo] at h
    | cons c r =>
      rw [tkGo] at h
      split at h
      · rename_i hc
        split at h
        · rename_i hs
          simp only [Prod.mk.injEq, true_and] at h
          refine ⟨[c], r, c.toNat, rfl, by simp; omega, by omega, ?_, ?_, ?_⟩
          · rw [putL, if_pos hc]; simp
          · rw [← h.1]
            unfold shortB at hs
            unfold W64
            rcases Nat.lt_or_ge i 9 with h9 | h9
            · have h1 : 128 ^ i ≤ 128 ^ 8 := Nat.pow_le_pow_right (by omega) (by omega)
              have h2 : c.toNat * 128 ^ i ≤ 127 * 128 ^ i := Nat.mul_le_mul_right _ (by omega)
              omega
            · obtain rfl : i = 9 := by omega
              simp at hs
              obtain ⟨_, rfl⟩ := hs
              have : (1 : UInt8).toNat = 1 := rfl
              rw [this]
              omega
          · intro h0
            unfold shortB at hs
            simp [h0] at hs
            intro hz
            exact hs.1 (UInt8.toNat_inj.1 (by simpa using hz))
        · simp at h
      · rename_i hc
        have ha' : acc + c.toNat % 128 * 128 ^ i < 128 ^ (i + 1) := by
          rw [Nat.pow_succ]
          have h2 : c.toNat % 128 * 128 ^ i ≤ 127 * 128 ^ i := Nat.mul_le_mul_right _ (by omega)
          omega
        obtain ⟨p, r', m, rfl, hk, hn, hp, hw, hm⟩ := ih (i + 1) _ r n k h (by omega) ha'
        have hm0 := hm (by omega)
        have hc2 := c.toNat_lt
        refine ⟨c :: p, r', c.toNat % 128 + 128 * m, rfl, by simp; omega, ?_, ?_, hw, fun _ => by omega⟩
        · rw [hn, Nat.pow_succ, Nat.add_mul, Nat.mul_assoc 128 m, Nat.mul_comm 128 (m * 128 ^ i), ← Nat.mul_assoc]; omega
        · rw [putL, if_neg (by omega), hp]
          have e1 : (c.toNat % 128 + 128 * m) / 128 = m := by omega
          have e2 : (c.toNat % 128 + 128 * m) % 128 + 128 = c.toNat := by omega
          rw [e1, e2]
          simp

theorem tk_ok (b : List UInt8) (h : tkE b = 0) : b = putL (tkN b) ++ tkR b ∧ W64 (tkN b) ∧ (tk b).2.2 = (putL (tkN b)).length := by
  have hh : tkGo 10 0 0 b = (0, tkN b, (tk b).2.2) := by
    have : tk b = (tkE b, tkN b, (tk b).2.2) := rfl
    rw [h] at this
    exact this
  obtain ⟨p, r, m, hb, hk, hn, hp, hw, _⟩ := tkGo_ok 10 0 0 b _ _ hh rfl (by simp)
  simp at hn hk
  have hr : tkR b = r := by
    unfold tkR
    rw [if_pos h, hk, hb, List.drop_left]
  rw [hr, hn, ← hp]
  exact ⟨hb, by rw [← hn]; exact hw, hk⟩

theorem tkGo_put (f : Nat) : ∀ i acc m r, f + i = 10 → (i ≠ 0 → m ≠ 0) → acc < 128 ^ i → W64 (acc + m * 128 ^ i) → tkGo f i acc (putL m ++ r) = (0, acc + m * 128 ^ i, i + (putL m).length) := by
  induction f with
  | zero =>
    intro i acc m r hf hm ha hw
    obtain rfl : i = 10 := by omega
    have := hm (by omega)
    unfold W64 at hw
    have h1 : 1 * 128 ^ 10 ≤ m * 128 ^ 10 := Nat.mul_le_mul_right _ (by omega)
    omega
  | succ f ih =>
    intro i acc m r hf hm ha hw
    rw [putL]
    split
    · rename_i h
      have e : (UInt8.ofNat m).toNat = m := by rw [UInt8.toNat_ofNat', Nat.mod_eq_of_lt (by omega)]
      rw [List.cons_append, tkGo, if_pos (by omega), e, if_pos]
      · simp
      · unfold shortB
        by_cases h0 : i = 0
        · simp [h0]
        · have hm0 := hm h0
          have hne : (UInt8.ofNat m != 0) = true := by
            rw [bne_iff_ne]; intro hz; have := congrArg UInt8.toNat hz; rw [e] at this; exact hm0 (by simpa using this)
          by_cases h9 : i < 9
          · simp [h9, hne]
          · obtain rfl : i = 9 := by omega
            have : m = 1 := by
              unfold W64 at hw
              rcases Nat.lt_or_ge m 2 with h2 | h2
              · omega
              · have : 2 * 128 ^ 9 ≤ m * 128 ^ 9 := Nat.mul_le_mul_right _ h2
                omega
            subst this
            simp
    · rename_i h
      have e : (UInt8.ofNat (m % 128 + 128)).toNat = m % 128 + 128 := by rw [UInt8.toNat_ofNat', Nat.mod_eq_of_lt (by omega)]
      have e2 : (m % 128 + 128) % 128 = m % 128 := by omega
      have e3 : acc + m % 128 * 128 ^ i + m / 128 * 128 ^ (i + 1) = acc + m * 128 ^ i := by
        rw [Nat.pow_succ, Nat.mul_comm (128 ^ i) 128, ← Nat.mul_assoc, Nat.add_assoc, ← Nat.add_mul]
        congr 2
        omega
      rw [List.cons_append, tkGo, if_neg (by omega), e, e2, ih (i + 1) _ (m / 128) r (by omega) (fun _ => by omega) ?_ (by rw [e3]; exact hw), e3]
      · simp; omega
      · rw [Nat.pow_succ]
        have h2 : m % 128 * 128 ^ i ≤ 127 * 128 ^ i := Nat.mul_le_mul_right _ (by omega)
        omega

theorem tk_put (n : Nat) (r : List UInt8) (h : W64 n) : tk (putL n ++ r) = (0, n, (putL n).length) := by
  have := tkGo_put 10 0 0 n r rfl (fun h => absurd rfl h) (by simp) (by simpa using h)
  simpa [tk] using this
theorem tk_put_E (n : Nat) (r : List UInt8) (h : W64 n) : tkE (putL n ++ r) = 0 := by unfold tkE; rw [tk_put n r h]
theorem tk_put_N (n : Nat) (r : List UInt8) (h : W64 n) : tkN (putL n ++ r) = n := by unfold tkN; rw [tk_put n r h]
theorem tk_put_R (n : Nat) (r : List UInt8) (h : W64 n) : tkR (putL n ++ r) = r := by unfold tkR; rw [if_pos (tk_put_E n r h), tk_put n r h, List.drop_left]
theorem tk_bad (b : List UInt8) (h : tkE b ≠ 0) : tkN b = 0 ∧ tkR b = [] := by
  refine ⟨?_, by unfold tkR; rw [if_neg h]⟩
  have key : ∀ f i acc b, (tkGo f i acc b).1 ≠ 0 → (tkGo f i acc b).2.1 = 0 := by
    intro f
    induction f with
    | zero => intro i acc b _; rfl
    | succ f ih =>
      intro i acc b hb
      cases b with
      | nil => rfl
      | cons c r =>
        rw [tkGo] at hb ⊢
        split
        · rename_i hc
          rw [if_pos hc] at hb
          split
          · rename_i hs; rw [if_pos hs] at hb; simp at hb
          · rfl
        · rename_i hc
          rw [if_neg hc] at hb
          exact ih _ _ _ hb
  exact key 10 0 0 b h

/-- The bytes of a whole number. -/
def put32L (n : Nat) : List UInt8 := [UInt8.ofNat n, UInt8.ofNat (n / 256), UInt8.ofNat (n / 65536), UInt8.ofNat (n / 16777216)]
/-- Four bytes as a whole number. -/
def get32 (b : List UInt8) : Nat := (b.getD 0 0).toNat + (b.getD 1 0).toNat * 256 + (b.getD 2 0).toNat * 65536 + (b.getD 3 0).toNat * 16777216
theorem get32_lt (b : List UInt8) : get32 b < 4294967296 := by
  unfold get32
  have h0 := (b.getD 0 0).toNat_lt
  have h1 := (b.getD 1 0).toNat_lt
  have h2 := (b.getD 2 0).toNat_lt
  have h3 := (b.getD 3 0).toNat_lt
  omega
theorem get32_put (n : Nat) (r : List UInt8) (h : n < 4294967296) : get32 (put32L n ++ r) = n := by
  simp [get32, put32L, UInt8.toNat_ofNat']
  omega
theorem put32_get (b : List UInt8) (h : 4 ≤ b.length) : put32L (get32 b) ++ b.drop 4 = b := by
  match b, h with
  | a :: c :: d :: e :: r, _ =>
    have ha := a.toNat_lt
    have hc := c.toNat_lt
    have hd := d.toNat_lt
    have he := e.toNat_lt
    simp only [put32L, get32, List.getD_cons_zero, List.getD_cons_succ, List.drop_succ_cons, List.drop_zero, List.cons_append, List.nil_append, List.cons.injEq, and_true]
    refine ⟨?_, ?_, ?_, ?_⟩ <;> apply UInt8.toNat_inj.1 <;> rw [UInt8.toNat_ofNat'] <;> omega
/-- A string taken: the error, the string, what is left. -/
def tsE (b : List UInt8) (most : Int) : Nat := if tkE b ≠ 0 then tkE b else if most < 0 ∨ most < (tkN b : Int) then 4 else if tkN b ≤ (tkR b).length then 0 else 2
def tsS (b : List UInt8) (most : Int) : List UInt8 := if tsE b most = 0 then (tkR b).take (tkN b) else []
def tsR (b : List UInt8) (most : Int) : List UInt8 := if tsE b most = 0 then (tkR b).drop (tkN b) else []
theorem ts_ok (b : List UInt8) (most : Int) (h : tsE b most = 0) : putL (tsS b most).length ++ tsS b most ++ tsR b most = b := by
  unfold tsS tsR
  rw [if_pos h, if_pos h]
  unfold tsE at h
  by_cases h1 : tkE b = 0
  · rw [if_neg (by simp [h1])] at h
    split at h
    · cases h
    · split at h
      · rename_i h3
        rw [List.length_take, Nat.min_eq_left h3, List.append_assoc, List.take_append_drop]
        exact (tk_ok b h1).1.symm
      · cases h
  · rw [if_pos h1] at h
    exact absurd h h1
theorem ts_put (s r : List UInt8) (most : Int) (h : (s.length : Int) ≤ most) (hw : W64 s.length) : tsE (putL s.length ++ (s ++ r)) most = 0 ∧ tsS (putL s.length ++ (s ++ r)) most = s ∧ tsR (putL s.length ++ (s ++ r)) most = r := by
  have hE : tsE (putL s.length ++ (s ++ r)) most = 0 := by
    unfold tsE
    rw [tk_put_E _ _ hw, tk_put_N _ _ hw, tk_put_R _ _ hw, if_neg (by simp), if_neg (by omega), if_pos (by simp)]
  refine ⟨hE, ?_, ?_⟩
  · unfold tsS; rw [if_pos hE, tk_put_N _ _ hw, tk_put_R _ _ hw, List.take_left]
  · unfold tsR; rw [if_pos hE, tk_put_N _ _ hw, tk_put_R _ _ hw, List.drop_left]
end Go.Proofs.YticfcelbnkiopaaDoor

namespace Go.Proofs.YticfcelbnkiopaaDoor
set_option maxRecDepth 100000
open Go.RowKit

theorem hid_out {p : Prop} (h : Go.RowKit.Hid p) : p := h
set_option maxHeartbeats 400000 in
theorem grown_any (v : Value) (xs : List UInt8) (room : Nat) (w : World) (hv : RB w v xs) (hl : xs.length ≤ 16777216) (hr : room ≤ 100) :
    Calls Tryd.prog 124 #[v, .int .i64 (room : Int)] w fun e w' => ∃ v', e = .returned v' ∧ OB w' w.heap.size v' xs ∧ Below w.heap.size w w' := by
  obtain ⟨A, c, rfl, hc, hm, hcell⟩ := hv
  obtain ⟨i0, hi, hz0, hz1, hz2⟩ := info_parts Tryd.info_u8
  have hmk : (Instr.makeSlice 22 (.int .i64 (xs.length : Int)) (.int .i64 ((xs.length : Int) + (room : Int)))).run Tryd.prog w = .ok (.slice (some ⟨w.heap.size, 0, none⟩) xs.length (xs.length + room)) (w.alloc (.cells (madeCells #[.int .u8 0] (xs.length + room)) 5)) := by
    have h := run_make (P := Tryd.prog) w 22 5 i0 (.int .u8 0) Tryd.underlying22 hi hz0 .i64 .i64 (xs.length : Int) ((xs.length : Int) + (room : Int)) (by omega) (by omega) (by rw [hz2]; omega) (by omega)
    have e1 : ((xs.length : Int)).toNat = xs.length := by omega
    have e2 : ((xs.length : Int) + (room : Int)).toNat = xs.length + room := by omega
    rw [e1, e2, hz1, Nat.mul_one] at h
    exact h
  have hcs : ((B8).all xs).length = Nat.min xs.length xs.length := by rw [Ty.all_length]; simp [show B8.sz = 1 from rfl]
  have HK : Go.RowKit.Hid ((madeCells #[.int .u8 0] (xs.length + room)).toList = List.replicate (xs.length + room) (.int .u8 0)) := toList_madeCells_one _ _
  have HG : Go.RowKit.Hid ((w.alloc (.cells (madeCells #[.int .u8 0] (xs.length + room)) 5)).heap[w.heap.size]? = some (.cells (List.replicate (xs.length + room) (.int .u8 0)).toArray 5 (0, 0))) := by
    show _ = _
    rw [heap_alloc_new, ← toList_madeCells_one]
  have HS : Go.RowKit.Hid (0 < ((B8).all xs).length → (some ⟨w.heap.size, 0, none⟩ : Option Addr) = some ⟨w.heap.size, 0, none⟩ ∧ ∃ ad, A = some ad ∧ ∀ j v, ((B8).all xs)[j]? = some v → (w.alloc (.cells (madeCells #[.int .u8 0] (xs.length + room)) 5)).cell? (ad.add j) = some v) := by
    intro hp
    rw [Ty.all_length] at hp; simp only [show B8.sz = 1 from rfl, Nat.mul_one] at hp
    obtain ⟨ad, rfl, hcc⟩ := hcell hp
    exact ⟨rfl, ad, rfl, fun j u hu => cell_below ((Below.refl _ _).alloc (Nat.le_refl _) _) (hcc j u hu)⟩
  have HF : 0 + ((B8).all xs).length ≤ (List.replicate (xs.length + room) (Value.int .u8 0)).length := by rw [Ty.all_length]; simp [show B8.sz = 1 from rfl]
  have HO : ∀ u ∈ B8.all xs, u.oneCell' = true := Ty.all_oneCell xs
  have HL : (B8.all xs).length = xs.length := by rw [Ty.all_length]; simp [show B8.sz = 1 from rfl]
  have HL' := Lib.hid HL
  clear HL
  go_enter Tryd.func124, Tryd.ntmps124
  go_wp2_with (refine wpList_copy_splice rfl (.tmp 13) (.tmp 14) _ _ rfl 5 Tryd.underlying22 (by kernel_rfl) _ _ _ _ _ _ rfl rfl w.heap.size 0 (List.replicate (xs.length + room) (.int .u8 0)) 5 (by exact HG.out) ((B8).all xs) hcs (by exact HS.out) (by exact HF) (by exact HO) w.heap.size w (by exact (Below.refl _ _).alloc (Nat.le_refl _) _) (Nat.le_refl _) ?_; intro w1 hg1 hb1)
  go_ret
  refine ⟨_, rfl, ⟨?_, .inr ⟨w.heap.size, xs.length + room, _, rfl, Nat.le_refl _, hg1.out, by omega, by simp [maxLen]; omega, ?_, ?_⟩⟩, hb1⟩
  · rw [Ty.all_length]
  · rw [List.size_toArray, length_splice _ _ _ (by rw [HL'.out]; simp)]; simp [show B8.sz = 1 from rfl]
  · simp [splice, show B8.sz = 1 from rfl, HL'.out]

theorem drewB {B : Nat} {w w1 : World} (h : Below B w w1) : Below B w w1.drew := h.drew
theorem RB.drew {w : World} {v : Value} {xs : List UInt8} (h : RB w v xs) : RB w.drew v xs := h.below (Below.refl _ _).drew
theorem OB.drew {w : World} {base : Nat} {v : Value} {xs : List UInt8} (h : OB w base v xs) : OB w.drew base v xs := OR.below h (Below.refl _ _).drew

set_option maxHeartbeats 400000 in
theorem Clone_any (v : Value) (xs : List UInt8) (w : World) (hv : RB w v xs) (hl : xs.length ≤ 1000000000) :
    Calls Tryd.prog 74 #[v] w fun e w' => ∃ v', e = .returned v' ∧ OB w' w.heap.size v' xs ∧ Below w.heap.size w w' := by
  have hq := fun (w : World) (a : Option Addr) (n c n2 c2 : Nat) => Lib.run_eql_slice_nil (P := Tryd.prog) w 22 5 a n c n2 c2 Tryd.underlying22
  obtain ⟨A, c, rfl, hc, hm, hcell⟩ := id hv
  cases A with
  | none =>
    have h0 : xs.length = 0 := by
      rcases Nat.eq_zero_or_pos xs.length with h | h
      · exact h
      · obtain ⟨ad, h, _⟩ := hcell h; cases h
    obtain rfl := List.eq_nil_of_length_eq_zero h0
    go_enter Tryd.func74, Tryd.ntmps74
    go_wp2
    go_ret
    exact ⟨_, rfl, OR.nil _ _, Below.refl _ _⟩
  | some ad =>
    clear hcell
    have hb1 : Below w.heap.size w (w.alloc (.cells #[] 5)) := (Below.refl _ _).alloc (Nat.le_refl _) _
    have ho1 : OB (w.alloc (.cells #[] 5)) w.heap.size (.slice (some ⟨w.heap.size, 0, none⟩) 0 0) [] := OB.lit w w.heap.size [] #[] rfl (Nat.le_refl _) (by simp)
    have hr1 := hv.below hb1
    go_enter Tryd.func74, Tryd.ntmps74
    go_wp2_with (at_builtin; refine appBs w.heap.size (.tmp 5) (.tmp 6) _ _ [] xs ho1 hr1 hb1 (by simp) (by simp) hl rfl rfl rfl rfl ?_; intro v2 w2 ho2 hb2 hg2 hat2 hs2)
    go_ret
    exact ⟨_, rfl, by simpa using ho2, hb2⟩

set_option maxHeartbeats 400000 in
theorem Put32_any (v : Value) (xs : List UInt8) (n : Nat) (w : World) (hv : RB w v xs) (hl : xs.length ≤ 16777216) (hn : n < 4294967296) :
    Calls Tryd.prog 85 #[v, .int .u32 (n : Int)] w fun e w' => ∃ v', e = .returned v' ∧ OB w' w.heap.size v' (xs ++ put32L n) ∧ Below w.heap.size w w' := by
  have hl' : xs.length ≤ 1000000000 := by omega
  go_enter Tryd.func85, Tryd.ntmps85
  go_wp2_with (first
    | (go_at_call 124; refine (grown_any v xs 4 _ hv hl (by omega)).mono ?_; rintro e w1 ⟨v1, rfl, ho1, hb1⟩)
    | (at_builtin; go_loud (refine appBs w.heap.size (.tmp 6) (.tmp 18) _ _ xs (put32L n) (OR.below ho1 ((Below.refl _ _).alloc (Nat.le_refl _) _)) (OB.lit _ 0 (put32L n) _ (by simp [put32L]; omega) (Nat.zero_le _) (by simp [put32L])).reads (hb1.alloc hb1.size _) (by simp; exact Nat.le_succ_of_le hb1.size) hl' (by simp [put32L]) rfl rfl rfl rfl ?_); intro v2 w2 ho2 hb2 hg2 hat2 hs2))
  go_ret
  exact ⟨_, rfl, ho2, hb2⟩

theorem W64_len {xs : List UInt8} (h : xs.length ≤ 16777216) : W64 xs.length := by unfold W64; omega

set_option maxHeartbeats 400000 in
theorem TakeBytes_any (v : Value) (xs : List UInt8) (n : Int) (w : World) (hv : RB w v xs) (hl : xs.length ≤ 1000000000) :
    Calls Tryd.prog 131 #[v, .int .i64 n] w fun e w' => ∃ v1 v2, e = .returned (.tuple #[v1, v2, .int .i64 (if n < 0 then 1 else if n ≤ xs.length then 0 else 2)]) ∧
      OB w' w.heap.size v1 (if n < 0 then [] else if n ≤ xs.length then xs.take n.toNat else []) ∧ OB w' w.heap.size v2 (if n < 0 then [] else if n ≤ xs.length then xs.drop n.toNat else []) ∧ (v1.ownBlock = none ∨ v1.ownBlock ≠ v2.ownBlock) ∧ Below w.heap.size w w' := by
  obtain ⟨A, c, rfl, hc⟩ := hv.len
  by_cases h0 : n < 0
  · rw [if_pos h0, if_pos h0, if_pos h0]
    go_enter Tryd.func131, Tryd.ntmps131
    go_wp2
    go_ret3
    exact ⟨_, _, rfl, OR.nil _ _, OR.nil _ _, (.inl rfl), Below.refl _ _⟩
  · rw [if_neg h0, if_neg h0, if_neg h0]
    have h0' : 0 ≤ n := by omega
    by_cases h1 : n ≤ xs.length
    · rw [if_pos h1, if_pos h1, if_pos h1]
      obtain ⟨m, rfl⟩ := Int.eq_ofNat_of_zero_le h0'
      have hm : m ≤ xs.length := by omega
      obtain ⟨A1, hcut1, hcut2, hcut3, hr1⟩ := cutB A c xs 0 m (by omega) hm hc
      obtain ⟨A2, hcut4, hcut5, hcut6, hr2⟩ := cutB A c xs m xs.length hm (Nat.le_refl _) hc
      have hk1 := fun W => hcut3 .i64 W rfl
      have hk2 := fun W => hcut5 .i64 W rfl
      have hq1 := hr1 w hv
      have hq2 := hr2 w hv
      simp only [Nat.sub_zero, List.drop_zero] at hq1
      rw [List.take_of_length_le (Nat.le_refl _)] at hq2
      clear hcut1 hcut2 hcut3 hcut4 hcut5 hcut6 hr1 hr2
      go_enter Tryd.func131, Tryd.ntmps131
      go_wp2
      go_region_held3 (fun _ => True) (trivial) (first
        | (go_at_call 74; refine (Clone_any _ (xs.take m) _ (RB.drew hq1) (by simp; omega)).mono ?_; rintro e w1 ⟨v1, rfl, ho1, hb1⟩)
        | (go_at_call 74; refine (Clone_any _ (xs.drop m) _ ((RB.drew hq2).below hb1) (by simp; omega)).mono ?_; rintro e w2 ⟨v2, rfl, ho2, hb2⟩)
        | fail)
      go_wp2
      go_ret3
      exact ⟨v1, v2, rfl, OR.below ho1 hb2, OR.lower ho2 hb1.size, OR.apart ho1 ho2, below_two (drewB (Below.refl _ _) |>.trans hb1) hb1.size hb2⟩
    · rw [if_neg h1, if_neg h1, if_neg h1]
      have h1' : (xs.length : Int) < n := by omega
      go_enter Tryd.func131, Tryd.ntmps131
      go_wp2
      go_ret3
      exact ⟨_, _, rfl, OR.nil _ _, OR.nil _ _, (.inl rfl), Below.refl _ _⟩

end Go.Proofs.YticfcelbnkiopaaDoor

namespace Go.Proofs.YticfcelbnkiopaaDoor
set_option maxRecDepth 100000
set_option linter.unusedSimpArgs false
open Go.RowKit

/-- A pointer as it is written. -/
def encL (p : PT) : List UInt8 := p.hash ++ put32L p.birth.toNat ++ put32L p.a0.toNat ++ put32L p.a1.toNat
theorem encL_length (p : PT) : (encL p).length = 44 := by simp [encL, put32L, p.hl]
theorem PT.range_hash {w : World} {b : Nat} {t : TypeId} {p : PT} (h : VA w b t p.cells) : w.rangeAt b 0 (p.hash.map cb) := h.range 0 _ (by rw [List.drop_zero, List.length_map, p.hl]; exact p.take32)
theorem PT.rb_hash {w : World} {b : Nat} {t : TypeId} {p : PT} (h : VA w b t p.cells) : RB w (.slice (some ⟨b, 0, none⟩) 32 32) p.hash := by
  have := RR.range (T := B8) (w := w) (b := b) (o := 0) (xs := p.hash) (by rw [U8_all]; exact PT.range_hash h) (by rw [p.hl]; decide)
  rw [p.hl] at this
  exact this
theorem PT.cell32 {w : World} {b : Nat} {t : TypeId} {p : PT} (h : VA w b t p.cells) : w.cell? ⟨b, 32, none⟩ = some (.int .u32 (p.birth.toNat : Int)) := by rw [h.cell]; have := p.c32; rw [List.getElem?_toArray] at this; exact this
theorem PT.cell33 {w : World} {b : Nat} {t : TypeId} {p : PT} (h : VA w b t p.cells) : w.cell? ⟨b, 33, none⟩ = some (.int .u32 (p.a0.toNat : Int)) := by rw [h.cell]; have := p.c33; rw [List.getElem?_toArray] at this; exact this
theorem PT.cell34 {w : World} {b : Nat} {t : TypeId} {p : PT} (h : VA w b t p.cells) : w.cell? ⟨b, 34, none⟩ = some (.int .u32 (p.a1.toNat : Int)) := by rw [h.cell]; have := p.c34; rw [List.getElem?_toArray] at this; exact this
theorem one_u8 (xs : List UInt8) : ∀ v ∈ xs.map cb, v.oneCell' = true := by
  intro v hv
  obtain ⟨x, _, rfl⟩ := List.mem_map.mp hv
  rfl
theorem OB.shape {w : World} {base : Nat} {v : Value} {xs : List UInt8} {n : Nat} (h : OB w base v xs) (hn : xs.length = n) (hp : 0 < n) : ∃ g c, v = .slice (some ⟨g, 0, none⟩) n c ∧ base ≤ g ∧ w.rangeAt g 0 (xs.map cb) := by
  subst hn
  obtain ⟨A, c, rfl, _, _, hc⟩ := h.reads
  rcases h.2 with ⟨h1, _⟩ | ⟨g, cap, cur, h1, h2, _⟩
  · obtain ⟨ad, e, _⟩ := hc hp
    rw [e] at h1; cases h1
  · obtain ⟨ad, e, hcc⟩ := hc hp
    rw [e] at h1 ⊢
    cases h1
    refine ⟨g, _, rfl, h2, fun j v hv => ?_⟩
    have := hcc j v (by rw [U8_all]; exact hv)
    rw [Addr.add_mid] at this
    exact this
/-- An array of bytes, by value. -/
def bytesV (xs : List UInt8) : Value := .agg (xs.map cb).toArray

set_option maxHeartbeats 1600000 in
set_option maxRecDepth 100000 in
theorem Encode_any (p : PT) (w : World) : Calls Tryd.prog 84 #[p.val] w fun e w' => e = .returned (bytesV (encL p)) ∧ Below w.heap.size w w' := by
  unfold PT.val
  go_enter Tryd.func84, Tryd.ntmps84
  go_wp2_with (first
    | (refine wpBox 33 _ rfl p.cells rfl rfl ?_; intro w1 hv1 hb1)
    | (refine wpAlloc 163 rfl (bytesV (List.replicate 44 0)) ((List.replicate 44 (0 : UInt8)).map cb) (by kernel_rfl) rfl rfl ?_; intro w2 hv2 hb2; have hne := hv1.lt; replace hv1 := hv1.below hb2))
  have hb := below_two hb1 hb1.size hb2
  have hvd1 : VA w2.drew w.heap.size 33 p.cells := hv1
  have hvd2 : VA w2.drew w1.heap.size 163 ((List.replicate 44 (0 : UInt8)).map cb) := hv2
  have hbd : Below w.heap.size w w2.drew := hb.drew
  clear hv1 hv2 hb1 hb2 hb
  refine startE (none) (by kernel_rfl) ?_
  refine takeE 0 rfl (by kernel_rfl) (by kernel_rfl) (by kernel_rfl) (fun _ _ _ h => h) rfl (v := ?_) ?_ ?_
  rotate_left
  · intro w' hw'; clear hw'; go_simp; (try with_reducible rfl)
  (try simp only [Act.put, List.setIfInBounds_toArray, List.set_cons_zero, List.set_cons_succ])
  refine takeE 1 rfl (by kernel_rfl) (by kernel_rfl) (by kernel_rfl) (fun _ _ _ h => h) rfl (v := ?_) ?_ ?_
  rotate_left
  · intro w' hw'; clear hw'; go_simp; (try with_reducible rfl)
  (try simp only [Act.put, List.setIfInBounds_toArray, List.set_cons_zero, List.set_cons_succ])
  refine takeE 2 rfl (by kernel_rfl) (by kernel_rfl) (by kernel_rfl) (fun _ _ _ h => h) rfl (v := ?_) ?_ ?_
  rotate_left
  · intro w' hw'; clear hw'; go_simp; (try with_reducible rfl)
  (try simp only [Act.put, List.setIfInBounds_toArray, List.set_cons_zero, List.set_cons_succ])
  refine takeE 3 rfl (by kernel_rfl) (by kernel_rfl) (by kernel_rfl) (fun _ _ _ h => h) rfl (v := ?_) ?_ ?_
  rotate_left
  · intro w' hw'; have h := cell_below (grown_none hw') (PT.cell32 hvd1); clear hw'; go_simp; (try with_reducible rfl)
  (try simp only [Act.put, List.setIfInBounds_toArray, List.set_cons_zero, List.set_cons_succ])
  refine stepE 4 rfl (by kernel_rfl) rfl (fun K hK => ?_)
  (go_simp; (with_reducible refine (Put32_any _ p.hash p.birth.toNat _ (PT.rb_hash hvd1) (by rw [p.hl]; omega) p.birth.toNat_lt).mono ?_); rintro e w3 ⟨v3, rfl, ho3, hb3⟩; refine K_out hK hb3 ?_; clear K hK; replace hvd1 := hvd1.below hb3; replace hvd2 := hvd2.below hb3; replace hbd := below_two hbd hbd.size hb3; clear hb3)
  (try simp only [Act.put, List.setIfInBounds_toArray, List.set_cons_zero, List.set_cons_succ])
  refine takeE 5 rfl (by kernel_rfl) (by kernel_rfl) (by kernel_rfl) (fun _ _ _ h => h) rfl (v := ?_) ?_ ?_
  rotate_left
  · intro w' hw'; clear hw'; go_simp; (try with_reducible rfl)
  (try simp only [Act.put, List.setIfInBounds_toArray, List.set_cons_zero, List.set_cons_succ])
  refine doneE (by kernel_rfl) ?_
  go_wp2_with fail
  have hvd1' : VA w3.drew w.heap.size 33 p.cells := hvd1
  have hvd2' : VA w3.drew w1.heap.size 163 ((List.replicate 44 (0 : UInt8)).map cb) := hvd2
  have hbd' : Below w.heap.size w w3.drew := hbd.drew
  have ho3' := ho3.drew
  clear hvd1 hvd2 hbd ho3
  refine startE (some w1.heap.size) (by kernel_rfl) ?_
  refine takeE 0 rfl (by kernel_rfl) (by kernel_rfl) (by kernel_rfl) (fun _ _ _ h => h) rfl (v := ?_) ?_ ?_
  rotate_left
  · intro w' hw'; clear hw'; go_simp; (try with_reducible rfl)
  (try simp only [Act.put, List.setIfInBounds_toArray, List.set_cons_zero, List.set_cons_succ])
  refine takeE 1 rfl (by kernel_rfl) (by kernel_rfl) (by kernel_rfl) (fun _ _ _ h => h) rfl (v := ?_) ?_ ?_
  rotate_left
  · intro w' hw'; clear hw'; go_simp; (try with_reducible rfl)
  (try simp only [Act.put, List.setIfInBounds_toArray, List.set_cons_zero, List.set_cons_succ])
  refine takeE 2 rfl (by kernel_rfl) (by kernel_rfl) (by kernel_rfl) (fun _ _ _ h => h) rfl (v := ?_) ?_ ?_
  rotate_left
  · intro w' hw'; clear hw'; go_simp; (try with_reducible rfl)
  (try simp only [Act.put, List.setIfInBounds_toArray, List.set_cons_zero, List.set_cons_succ])
  refine takeE 3 rfl (by kernel_rfl) (by kernel_rfl) (by kernel_rfl) (fun _ _ _ h => h) rfl (v := ?_) ?_ ?_
  rotate_left
  · intro w' hw'; have h := hw'.cell (PT.cell33 hvd1') (by simp; omega); clear hw'; go_simp; (try with_reducible rfl)
  (try simp only [Act.put, List.setIfInBounds_toArray, List.set_cons_zero, List.set_cons_succ])
  refine takeE 5 rfl (by kernel_rfl) (by kernel_rfl) (by kernel_rfl) (fun _ _ _ h => h) rfl (v := ?_) ?_ ?_
  rotate_left
  · intro w' hw'; clear hw'; go_simp; (try with_reducible rfl)
  (try simp only [Act.put, List.setIfInBounds_toArray, List.set_cons_zero, List.set_cons_succ])
  refine takeE 6 rfl (by kernel_rfl) (by kernel_rfl) (by kernel_rfl) (fun _ _ _ h => h) rfl (v := ?_) ?_ ?_
  rotate_left
  · intro w' hw'; clear hw'; go_simp; (try with_reducible rfl)
  (try simp only [Act.put, List.setIfInBounds_toArray, List.set_cons_zero, List.set_cons_succ])
  refine takeE 7 rfl (by kernel_rfl) (by kernel_rfl) (by kernel_rfl) (fun _ _ _ h => h) rfl (v := ?_) ?_ ?_
  rotate_left
  · intro w' hw'; have h := hw'.cell (PT.cell34 hvd1') (by simp; omega); clear hw'; go_simp; (try with_reducible rfl)
  (try simp only [Act.put, List.setIfInBounds_toArray, List.set_cons_zero, List.set_cons_succ])
  refine stepE 4 rfl (by kernel_rfl) rfl (fun K hK => ?_)
  (go_simp; (with_reducible refine (Put32_any _ _ p.a0.toNat _ ho3'.reads (by simp [p.hl, put32L]) p.a0.toNat_lt).mono ?_); rintro e w4 ⟨v4, rfl, ho4, hb4⟩; refine K_out hK hb4 ?_; clear K hK; replace hvd1' := hvd1'.below hb4; replace hvd2' := hvd2'.below hb4; replace hbd' := below_two hbd' hbd'.size hb4; clear hb4 ho3')
  (try simp only [Act.put, List.setIfInBounds_toArray, List.set_cons_zero, List.set_cons_succ])
  refine stepE 8 rfl (by kernel_rfl) rfl (fun K hK => ?_)
  (go_simp; (with_reducible refine (Put32_any _ _ p.a1.toNat _ ho4.reads (by simp [p.hl, put32L]) p.a1.toNat_lt).mono ?_); rintro e w5 ⟨v5, rfl, ho5, hb5⟩; refine K_out hK hb5 ?_; clear K hK; obtain ⟨g, c, rfl, hg1, hg2⟩ := OB.shape ho5 (encL_length p) (by decide); have hne2 : g ≠ w1.heap.size := (by have := hvd2'.lt; omega); replace hvd1' := hvd1'.below hb5; replace hvd2' := hvd2'.below hb5; replace hbd' := below_two hbd' hbd'.size hb5; clear hb5 ho4 ho5)
  (try simp only [Act.put, List.setIfInBounds_toArray, List.set_cons_zero, List.set_cons_succ])
  refine takeE 9 rfl (by kernel_rfl) (by kernel_rfl) (by kernel_rfl) (fun _ _ _ h => h) rfl (v := ?_) ?_ ?_
  rotate_left
  · intro w' hw'; refine Eq.trans (exec_arrptr 163 _ rfl 44 _ Tryd.underlying163 _ 44 c rfl (Nat.le_refl _)) ?_; with_reducible rfl
  (try simp only [Act.put, List.setIfInBounds_toArray, List.set_cons_zero, List.set_cons_succ])
  refine takeE 10 rfl (by kernel_rfl) (by kernel_rfl) (by kernel_rfl) (fun _ _ _ h => h) rfl (v := ?_) ?_ ?_
  rotate_left
  · intro w' hw'; refine Eq.trans (exec_load 163 _ rfl g 0 rfl ((encL p).map cb) _ (fun j v hv => hw'.cell (hg2 j v hv) (by simpa using hne2)) Tryd.underlying163 rfl (by rw [List.length_map, encL_length]; kernel_rfl)) ?_; with_reducible rfl
  (try simp only [Act.put, List.setIfInBounds_toArray, List.set_cons_zero, List.set_cons_succ])
  refine stepE 11 rfl (by kernel_rfl) rfl (fun K hK => ?_)
  (refine opStore 163 _ _ rfl w1.heap.size rfl ((encL p).map cb) _ rfl _ hvd2' (by rw [List.length_map, encL_length]; kernel_rfl) (by simp [encL_length]) (one_u8 _) ?_; intro w6 hv6 hg6; refine hK.out _ _ hg6 ?_; clear K hK)
  (try simp only [Act.put, List.setIfInBounds_toArray, List.set_cons_zero, List.set_cons_succ])
  refine doneE (by kernel_rfl) ?_
  have hb6 := hbd'.grown hg6 hbd'.size (fun k hk => by cases hk; omega)
  go_wp2_with fail
  refine bodyPost_ret (results_cell rfl _ hv6 rfl _ Tryd.underlying163 rfl (by rw [List.length_map, encL_length]; kernel_rfl)) rfl ?_
  exact ⟨rfl, hb6⟩
end Go.Proofs.YticfcelbnkiopaaDoor

namespace Go.Proofs.YticfcelbnkiopaaDoor
set_option maxRecDepth 100000
open Go.RowKit

set_option maxHeartbeats 400000 in
theorem Take32_any (v : Value) (xs : List UInt8) (w : World) (hv : RB w v xs) (hl : xs.length ≤ 1000000000) :
    Calls Tryd.prog 94 #[v] w fun e w' => ∃ v', e = .returned (.tuple #[.int .u32 (if 4 ≤ xs.length then (get32 xs : Int) else 0), v', .int .i64 (if 4 ≤ xs.length then 0 else 2)]) ∧
      OB w' w.heap.size v' (if 4 ≤ xs.length then xs.drop 4 else []) ∧ Below w.heap.size w w' := by
  by_cases h4 : 4 ≤ xs.length
  · rw [if_pos h4, if_pos h4, if_pos h4]
    have h4' : (4 : Int) ≤ xs.length := by omega
    have hn : ¬ ((4 : Int) < 0) := by decide
    have hc := TakeBytes_any v xs 4 w hv hl
    rw [if_neg hn, if_neg hn, if_neg hn, if_pos h4', if_pos h4', if_pos h4'] at hc
    clear hn
    go_enter Tryd.func94, Tryd.ntmps94
    go_wp2_with ((go_at_call 131; refine hc.mono ?_; clear hc; rintro e w1 ⟨v1, v2, rfl, ho1, ho2, _, hb1⟩))
    have hlen4 : (xs.take (4 : Int).toNat).length = 4 := by simp; omega
    obtain ⟨A1, c1, rfl, hc1, _, hcell1⟩ := ho1.reads
    obtain ⟨ad, rfl, hcc⟩ := hcell1 (by omega)
    have hk : ∀ j (h : j < xs.length), j < 4 → w1.cell? (ad.add j) = some (.int .u8 (((xs.getD j 0).toNat : Nat) : Int)) := fun j h h' => by
      refine hcc j _ ?_
      rw [U8_all, List.getElem?_map, List.getElem?_take, if_pos (by simpa using h'), List.getElem?_eq_getElem h, List.getD_eq_getElem?_getD, List.getElem?_eq_getElem h]
      rfl
    have k0 := hk 0 (by omega) (by omega)
    rw [show ad.add 0 = ad from by simp [Addr.add]] at k0
    have k1 := hk 1 (by omega) (by omega)
    have k2 := hk 2 (by omega) (by omega)
    have k3 := hk 3 (by omega) (by omega)
    rw [show ad.add 1 = ⟨ad.block, ad.off + 1, none⟩ from rfl] at k1
    rw [show ad.add 2 = ⟨ad.block, ad.off + 2, none⟩ from rfl] at k2
    rw [show ad.add 3 = ⟨ad.block, ad.off + 3, none⟩ from rfl] at k3
    clear hk hcc hcell1
    rw [hlen4]
    generalize hb0 : xs.getD 0 0 = b0 at k0
    generalize hb1' : xs.getD 1 0 = b1 at k1
    generalize hb2 : xs.getD 2 0 = b2 at k2
    generalize hb3 : xs.getD 3 0 = b3 at k3
    have hg : get32 xs = b0.toNat + b1.toNat * 256 + b2.toNat * 65536 + b3.toNat * 16777216 := by unfold get32; rw [hb0, hb1', hb2, hb3]
    have HG := Lib.hid hg
    clear hb0 hb1' hb2 hb3 hg
    go_quiet (fail)
    go_wp2
    go_ret3
    exact ⟨_, by rw [HG.out, or32]; rfl, ho2.below (pw_below_drewN (Below.refl _ _) _), pw_below_drewN hb1 _⟩
  · rw [if_neg h4, if_neg h4, if_neg h4]
    have h4' : ¬ (4 : Int) ≤ xs.length := by omega
    have hn : ¬ ((4 : Int) < 0) := by decide
    have hc := TakeBytes_any v xs 4 w hv hl
    rw [if_neg hn, if_neg hn, if_neg hn, if_neg h4', if_neg h4', if_neg h4'] at hc
    clear hn h4'
    go_enter Tryd.func94, Tryd.ntmps94
    go_wp2_with ((go_at_call 131; refine hc.mono ?_; clear hc; rintro e w1 ⟨v1, v2, rfl, ho1, ho2, _, hb1⟩))
    go_ret3
    exact ⟨_, rfl, OR.nil _ _, hb1⟩

end Go.Proofs.YticfcelbnkiopaaDoor

namespace Go.Proofs.YticfcelbnkiopaaDoor
set_option maxRecDepth 100000
open Go.RowKit

end Go.Proofs.YticfcelbnkiopaaDoor

namespace Go.Proofs.YticfcelbnkiopaaDoor
set_option maxRecDepth 100000
open Go.RowKit

theorem tkR_le (xs : List UInt8) : (tkR xs).length ≤ xs.length := by unfold tkR; split <;> simp

end Go.Proofs.YticfcelbnkiopaaDoor

namespace Go.Proofs.YticfcelbnkiopaaDoor
set_option maxRecDepth 100000
open Go.RowKit

set_option maxHeartbeats 400000 in
theorem rPut32_any (v : Value) (xs : List UInt8) (n : Nat) (w : World) (hv : RB w v xs) (hl : xs.length ≤ 16777216) (hn : n < 4294967296) :
    Calls Tryd.prog 87 #[v, .int .u32 (n : Int)] w fun e w' => ∃ v', e = .returned v' ∧ OB w' w.heap.size v' (xs ++ put32L n) ∧ Below w.heap.size w w' := by
  have hl' : xs.length ≤ 1000000000 := by omega
  have hb0 : Below w.heap.size w (w.alloc (.cells #[] 5)) := (Below.refl _ _).alloc (Nat.le_refl _) _
  have ho0 : OB (w.alloc (.cells #[] 5)) w.heap.size (.slice (some ⟨w.heap.size, 0, none⟩) 0 0) [] := OB.lit w w.heap.size [] #[] rfl (Nat.le_refl _) (by simp)
  have hr0 := hv.below hb0
  go_enter Tryd.func87, Tryd.ntmps87
  go_wp2_with (first
    | (at_builtin; refine appBs w.heap.size (.tmp 6) (.tmp 7) _ _ [] xs ho0 hr0 hb0 (by simp) (by simp) hl' rfl rfl rfl rfl ?_; clear ho0 hr0; intro v1 w1 ho1 hb1 hg1 hat1 hs1; rw [List.nil_append] at ho1)
    | (at_builtin; refine appBs w.heap.size (.tmp 9) (.tmp 21) _ _ xs (put32L n) (OR.below ho1 ((Below.refl _ _).alloc (Nat.le_refl _) _)) (OB.lit _ 0 (put32L n) _ (by simp [put32L]; omega) (Nat.zero_le _) (by simp [put32L])).reads (hb1.alloc hb1.size _) (by simp; exact Nat.le_succ_of_le hb1.size) hl' (by simp [put32L]) rfl rfl rfl rfl ?_; intro v2 w2 ho2 hb2 hg2 hat2 hs2))
  go_ret
  exact ⟨_, rfl, ho2, hb2⟩

/-- What reads so wherever the memory of w still stands. -/
def KB (w : World) (v : Value) (xs : List UInt8) : Prop := ∀ W, Below w.heap.size w W → RB W v xs
theorem KB.of {w : World} {v : Value} {xs : List UInt8} (h : RB w v xs) : KB w v xs := fun _ hb => h.below hb
theorem KB.nil (w : World) : KB w (.slice none 0 0) [] := fun _ _ => RR.nil _

set_option maxHeartbeats 400000 in
theorem rTakeBytes_any (v : Value) (xs : List UInt8) (n : Int) (w0 w : World) (hv : RB w0 v xs) (_h0 : Below w0.heap.size w0 w) :
    Calls Tryd.prog 132 #[v, .int .i64 n] w fun e w' => ∃ v1 v2, e = .returned (.tuple #[v1, v2, .int .i64 (if n < 0 then 1 else if n ≤ xs.length then 0 else 2)]) ∧
      KB w0 v1 (if n < 0 then [] else if n ≤ xs.length then xs.take n.toNat else []) ∧ KB w0 v2 (if n < 0 then [] else if n ≤ xs.length then xs.drop n.toNat else []) ∧ Below w.heap.size w w' := by
  obtain ⟨A, c, rfl, hc⟩ := hv.len
  by_cases h0 : n < 0
  · simp only [h0, ↓reduceIte]
    go_enter Tryd.func132, Tryd.ntmps132
    go_wp2
    go_ret3
    exact ⟨_, _, rfl, KB.nil _, KB.nil _, Below.refl _ _⟩
  · simp only [h0, ↓reduceIte]
    have h0' : 0 ≤ n := by omega
    by_cases h1 : n ≤ xs.length
    · simp only [h1, ↓reduceIte]
      obtain ⟨m, rfl⟩ := Int.eq_ofNat_of_zero_le h0'
      have hm : m ≤ xs.length := by omega
      obtain ⟨A1, hcut1, hcut2, hcut3, hr1⟩ := cutB A c xs 0 m (by omega) hm hc
      obtain ⟨A2, hcut4, hcut5, hcut6, hr2⟩ := cutB A c xs m xs.length hm (Nat.le_refl _) hc
      have hk1 := fun W => hcut3 .i64 W rfl
      have hk2 := fun W => hcut5 .i64 W rfl
      have hq1 := hr1 w0 hv
      have hq2 := hr2 w0 hv
      simp only [Nat.sub_zero, List.drop_zero] at hq1
      rw [List.take_of_length_le (Nat.le_refl _)] at hq2
      clear hcut1 hcut2 hcut3 hcut4 hcut5 hcut6 hr1 hr2
      go_enter Tryd.func132, Tryd.ntmps132
      go_wp2
      go_quiet (fail)
      go_wp2
      go_ret3
      exact ⟨_, _, rfl, KB.of hq1, KB.of hq2, pw_below_drewN (Below.refl _ _) _⟩
    · simp only [h1, ↓reduceIte]
      have h1' : (xs.length : Int) < n := by omega
      go_enter Tryd.func132, Tryd.ntmps132
      go_wp2
      go_ret3
      exact ⟨_, _, rfl, KB.nil _, KB.nil _, Below.refl _ _⟩

end Go.Proofs.YticfcelbnkiopaaDoor

namespace Go.Proofs.YticfcelbnkiopaaDoor
set_option maxRecDepth 100000
open Go.RowKit
set_option linter.unusedSimpArgs false

def PT.absent (p : PT) : Bool := p.may && !(p == PT.hole) && (p.a0 == 0)

set_option maxRecDepth 100000 in
theorem rMay_any (p : PT) (w : World) : Calls Tryd.prog 86 #[p.val] w fun e w' => e = .returned (.bool p.may) ∧ Below w.heap.size w w' := by
  have h33 := p.c33
  have h34 := p.c34
  have hb : Below w.heap.size w (w.alloc (.cells p.cells.toArray 33)) := (Below.refl _ _).alloc (Nat.le_refl _) _
  unfold PT.val u32 at *
  generalize p.cells.toArray = C at h33 h34 hb
  have e1 := u32_eq p.a1 0
  have e2 : ((p.a1.toNat : Int) != (p.a0.toNat : Int)) = (p.a0 != p.a1) := by
    rw [bne, bne, u32_eq]
    by_cases h : p.a0 = p.a1
    · rw [h]
    · rw [beq_eq_false_iff_ne.mpr h, beq_eq_false_iff_ne.mpr (fun e => h e.symm)]
  simp only [UInt32.toNat_zero, Int.natCast_zero] at e1
  by_cases h : p.a0 = 0
  · have hm : p.may = (p.a1 == 0) := by rw [PT.may, if_pos h]
    rw [hm]
    have h0 : ((p.a0.toNat : Int) == 0) = true := by rw [h]; rfl
    clear h hm
    go_enter Tryd.func86, Tryd.ntmps86
    go_wp2
    go_ret
    exact ⟨rfl, hb⟩
  · have hm : p.may = (p.a0 != p.a1) := by rw [PT.may, if_neg h]
    rw [hm]
    have h0 : ((p.a0.toNat : Int) == 0) = false := by
      have : ¬ (p.a0.toNat : Int) = 0 := fun e => h (UInt32.toNat_inj.mp (by simpa using e))
      simpa using this
    clear h hm
    go_enter Tryd.func86, Tryd.ntmps86
    go_wp2
    go_ret
    exact ⟨rfl, hb⟩

set_option maxRecDepth 100000 in
theorem rIsHole_any (p : PT) (w : World) : Calls Tryd.prog 121 #[p.val] w fun e w' => e = .returned (.bool (p == PT.hole)) ∧ Below w.heap.size w w' := by
  unfold PT.val
  go_enter Tryd.func121, Tryd.ntmps121
  go_wp2_with (first
    | (refine wpBox 33 _ rfl p.cells rfl rfl ?_; intro w1 hv1 hb1)
    | (refine stepV (exec_load 33 _ rfl _ _ rfl p.cells _ hv1.all Tryd.underlying33 rfl p.info) rfl ?_)
    | (refine stepV (exec_build 33 _ rfl PT.hole.cells ptr_zero) rfl ?_)
    | (refine stepV (exec_eql 33 _ _ _ rfl _ _ rfl rfl ptr_guard _ (ptr_eqlA p PT.hole _)) rfl ?_))
  go_ret
  exact ⟨rfl, hb1⟩

end Go.Proofs.YticfcelbnkiopaaDoor

namespace Go.Proofs.YticfcelbnkiopaaDoor
set_option maxRecDepth 100000
open Go.RowKit

theorem str_add (x y : List UInt8) : str x ++ str y = str (x ++ y) := by
  apply ByteArray.ext
  show (str x ++ str y).data = _
  rw [ByteArray.data_append]
  simp [str]
theorem str_size (x : List UInt8) : (str x).size = x.length := by simp [str, ByteArray.size]
/-- '+' of two strings. -/
theorem run_add_str {P : Program} (t : TypeId) (x y : List UInt8) (h : x.length + y.length ≤ 9223372036854775807) (w : World) : (binOp .add t (.string (str x)) (.string (str y))).run P w = .ok (.string (str (x ++ y))) w := by
  have hn : ¬ ((((str x).size + (str y).size : Nat) : Int) > IntKind.i64.max) := by rw [str_size, str_size]; simp [IntKind.max, IntKind.bits, IntKind.signed]; omega
  simp only [binOp, Op.stringOp, if_neg hn, str_add, Sem.run_pure]
theorem cat_small (x y : List UInt8) (h : x.length + y.length ≤ 9223372036854775807) : ¬ 9223372036854775807 < (str x).size + (str y).size := by rw [str_size, str_size]; omega
end Go.Proofs.YticfcelbnkiopaaDoor

namespace Go.Proofs.YticfcelbnkiopaaDoor
set_option maxRecDepth 100000
open Go.RowKit
set_option linter.unusedSimpArgs false

set_option maxHeartbeats 1600000 in
set_option maxRecDepth 100000 in
theorem rEncode_any (p : PT) (w : World) : Calls Tryd.prog 88 #[p.val] w fun e w' => ∃ v, e = .returned v ∧ OB w' w.heap.size v (encL p) ∧ Below w.heap.size w w' := by
  unfold PT.val
  go_enter Tryd.func88, Tryd.ntmps88
  go_wp2_with (first
    | (refine wpBox 33 _ rfl p.cells rfl rfl ?_; intro w1 hv1 hb1; have hb0 : Below w1.heap.size w1 (w1.alloc (.cells #[] 5)) := (Below.refl _ _).alloc (Nat.le_refl _) _; have ho0 : OB (w1.alloc (.cells #[] 5)) w1.heap.size (.slice (some ⟨w1.heap.size, 0, none⟩) 0 0) [] := OB.lit w1 w1.heap.size [] #[] rfl (Nat.le_refl _) (by simp); have hr0 := PT.rb_hash (hv1.below hb0))
    | (at_builtin; refine appBs w1.heap.size (.tmp 4) (.tmp 6) _ _ [] p.hash ho0 hr0 hb0 hb0.size (by simp) (by rw [p.hl]; omega) rfl rfl rfl rfl ?_; clear ho0 hr0; intro v5 w2 ho2 hb2 hg2 hat2 hs2; rw [List.nil_append] at ho2; clear hg2 hat2 hb0; have h32 := cell_below hb2 (PT.cell32 hv1); have h33 := cell_below hb2 (PT.cell33 hv1); have h34 := cell_below hb2 (PT.cell34 hv1); replace hb1 := below_two hb1 hb1.size hb2; clear hv1 hb2)
    | (go_at_call 87; (with_reducible refine (rPut32_any _ p.hash p.birth.toNat _ ho2.reads (by rw [p.hl]; omega) p.birth.toNat_lt).mono ?_); rintro e w3 ⟨v3, rfl, ho3, hb3⟩; replace h32 := cell_below hb3 h32; replace h33 := cell_below hb3 h33; replace h34 := cell_below hb3 h34; replace hb1 := below_two hb1 hb1.size hb3; clear ho2 hb3)
    | (go_at_call 87; (with_reducible refine (rPut32_any _ _ p.a0.toNat _ ho3.reads (by simp [p.hl, put32L]) p.a0.toNat_lt).mono ?_); rintro e w4 ⟨v4, rfl, ho4, hb4⟩; replace h32 := cell_below hb4 h32; replace h33 := cell_below hb4 h33; replace h34 := cell_below hb4 h34; replace hb1 := below_two hb1 hb1.size hb4; clear ho3 hb4)
    | (go_at_call 87; (with_reducible refine (rPut32_any _ _ p.a1.toNat _ ho4.reads (by simp [p.hl, put32L]) p.a1.toNat_lt).mono ?_); rintro e w5 ⟨v5, rfl, ho5, hb5⟩; have hlow := hb1.size; replace hb1 := below_two hb1 hb1.size hb5; clear ho4 hb5))
  go_ret
  exact ⟨_, rfl, ho5.lower hlow, hb1⟩
end Go.Proofs.YticfcelbnkiopaaDoor

namespace Go.Proofs.YticfcelbnkiopaaDoor
set_option maxRecDepth 100000
open Go.RowKit
variable {P : Program}

/-- vs, laid over cs from place i on. -/
def lay (cs : List Value) (i : Nat) (vs : List Value) : List Value := cs.take i ++ vs ++ cs.drop (i + vs.length)
theorem lay_length (cs : List Value) (i : Nat) (vs : List Value) (h : i + vs.length ≤ cs.length) : (lay cs i vs).length = cs.length := by
  unfold lay; simp; omega
theorem lay_cons (cs : List Value) (i : Nat) (v : Value) (vs : List Value) (h : i < cs.length) : lay (cs.set i v) (i + 1) vs = lay cs i (v :: vs) := by
  have e : cs.set i v = cs.take i ++ (v :: cs.drop (i + 1)) := by rw [List.set_eq_take_append_cons_drop, if_pos h]
  have hl : (cs.take i).length = i := by rw [List.length_take]; omega
  have e1 : (cs.take i ++ (v :: cs.drop (i + 1))).take (i + 1) = cs.take i ++ [v] := by
    rw [List.take_append, hl, List.take_of_length_le (by omega), show i + 1 - i = 1 by omega]
    rfl
  have e2 : (cs.take i ++ (v :: cs.drop (i + 1))).drop (i + 1 + vs.length) = cs.drop (i + (vs.length + 1)) := by
    rw [List.drop_append, hl, List.drop_of_length_le (by omega), List.nil_append, show i + 1 + vs.length - i = vs.length + 1 by omega, List.drop_succ_cons, List.drop_drop]
    congr 1
    omega
  unfold lay
  rw [e, e1, e2, List.length_cons, List.append_assoc (cs.take i) [v] vs]
  rfl
theorem foldl_lay (off : Nat) : ∀ (vs : List Value) (n : Nat) (cs : List Value), off + n + vs.length ≤ cs.length →
    (vs.zipIdx n).foldl (fun (c : Array Value) (x : Value × Nat) => c.setIfInBounds (off + x.2) x.1) cs.toArray = (lay cs (off + n) vs).toArray
  | [], n, cs, _ => by simp [lay]
  | v :: vs, n, cs, h => by
    simp only [List.length_cons] at h
    rw [List.zipIdx_cons, List.foldl_cons]
    have e : cs.toArray.setIfInBounds (off + n) v = (cs.set (off + n) v).toArray := by simp
    rw [e, foldl_lay off vs (n + 1) (cs.set (off + n) v) (by simp; omega), ← Nat.add_assoc, lay_cons cs (off + n) v vs (by omega)]
theorem fill_cons (place : Nat → Option (Nat × Nat)) (cs : List Value) (i : Nat) (v : Value) (rest : List (Nat × Value)) (off size : Nat) (vs : List Value) (hp : place i = some (off, size)) (hv : v.cells = vs.toArray) (hs : vs.length = size) (hl : off + size ≤ cs.length) :
    Instr.fill place cs.toArray ((i, v) :: rest) = Instr.fill place (lay cs off vs).toArray rest := by
  have h1 : (v.cells.size != size || decide (off + v.cells.size > cs.toArray.size)) = false := by
    rw [hv]; simp; omega
  have h2 : v.cells.zipIdx.foldl (fun cs (c, j) => cs.setIfInBounds (off + j) c) cs.toArray = (lay cs off vs).toArray := by
    rw [hv]
    have := foldl_lay off vs 0 cs (by omega)
    rw [Nat.add_zero] at this
    rw [← this, ← Array.foldl_toList]
    simp
  rw [Instr.fill, hp]
  simp only [h2]
  rw [if_neg]
  have h3 := h1
  simp only [Bool.or_eq_false_iff, bne_eq_false_iff_eq, decide_eq_false_iff_not] at h3
  simp [h3.1]
  have := h3.2
  simp at this
  omega

section
variable {ops : Array Oper} {rest : List Oper} {o : Oper} {a : Act} {Q : Exit → Act → World → Prop} {w : World} {ρ : Operand → Value}
theorem run_storeVar_lay (t : TypeId) (b off : Nat) (v : Value) (vs old : List Value) (hvc : v.cells = vs.toArray) (t2 : TypeId) (hv : VA w b t2 old) (hi : (P.info? t).map (·.size) = some vs.length) (hl : off + vs.length ≤ old.length) (h1 : ∀ v ∈ vs, v.oneCell' = true) :
    (storeVar t ⟨b, off, none⟩ v).run P w = .ok () (w.setRow b (lay old off vs).toArray) := by
  have := run_storeCells_at P b off t2 vs 0 old.toArray w hv (by simpa using hl) h1
  simp only [Nat.add_zero] at this
  cases hq : P.info? t with
  | none => simp [hq] at hi
  | some i =>
    have hs : i.size = vs.length := by simpa [hq] using hi
    simp [storeVar, sizeOf, typeInfo, hq, hvc, hs, this, lay]
theorem exec_lay (t : TypeId) (x y : Operand) (ho : o.op = .store t x y) (b off : Nat) (hx : ρ x = .pointer (some ⟨b, off, none⟩)) (vs old : List Value) (hy : (ρ y).cells = vs.toArray) (t2 : TypeId) (hv : VA w b t2 old) (hi : (P.info? t).map (·.size) = some vs.length) (hl : off + vs.length ≤ old.length) (h1 : ∀ v ∈ vs, v.oneCell' = true) :
    (execOp ρ o).run P w = .ok .skip (w.setRow b (lay old off vs).toArray) := by
  unfold execOp
  simp only [ho, hx, Instr.storeAt, Instr.sureAddr, Sem.run_bind, Sem.run_pure, Result.andThen_ok, run_storeVar_lay t b off (ρ y) vs old hy t2 hv hi hl h1]
/-- A part is laid into a variable. -/
theorem wpLay (t : TypeId) (x y : Operand) (ho : o.op = .store t x y) (b off : Nat) (hx : a.eval x = .pointer (some ⟨b, off, none⟩)) (vs old new : List Value) (hy : (a.eval y).cells = vs.toArray) (t2 : TypeId) (hv : VA w b t2 old) (hi : (P.info? t).map (·.size) = some vs.length) (hl : off + vs.length ≤ old.length) (h1 : ∀ v ∈ vs, v.oneCell' = true)
    (hn : lay old off vs = new) (hw : Region.wanted o (yielded ops a.tmps) = true) (h : ∀ w', VA w' b t2 new → w.grownBy w' (some b) → wpList P ops Q rest (a.put o.dst undef) w') : wpList P ops Q (o :: rest) a w := by
  subst hn
  exact stepS (exec_lay t x y ho b off hx vs old hy t2 hv hi hl h1) hw (h _ (hv.set _) (setRow_grown _ _ _))
end
end Go.Proofs.YticfcelbnkiopaaDoor

namespace Go.Proofs.YticfcelbnkiopaaDoor
set_option maxRecDepth 100000
open Go.RowKit
variable {P : Program} {α : Type}

/-- The world w' is w, but for blocks of F, and new ones. -/
structure Chg (F : Nat → Prop) (w w' : World) : Prop where
  os : w'.os = w.os
  tape : w'.tape = w.tape
  output : w'.output = w.output
  size : w.heap.size ≤ w'.heap.size
  block : ∀ k, k < w.heap.size → ¬ F k → w'.heap[k]? = w.heap[k]?
theorem Chg.refl (F : Nat → Prop) (w : World) : Chg F w w := ⟨rfl, rfl, rfl, Nat.le_refl _, fun _ _ _ => rfl⟩
/-- No block. -/
def Nil : Nat → Prop := fun _ => False
theorem Chg.below {w w' : World} (h : Chg Nil w w') : Below w.heap.size w w' := ⟨h.os, h.tape, h.output, h.size, fun k hk => h.block k hk (fun h => h)⟩
theorem chg_below {w w' : World} (h : Below w.heap.size w w') (F : Nat → Prop) : Chg F w w' := ⟨h.os, h.tape, h.output, h.size, fun k hk _ => h.block k hk⟩
theorem chg_grown {w w' : World} {row : Option Nat} (h : w.grownBy w' row) : Chg (fun k => row = some k) w w' := ⟨h.os, h.tape, h.output, h.size, fun k hk hn => h.block k hk (fun e => hn e.symm)⟩
theorem Chg.drew {F : Nat → Prop} {a w : World} (h : Chg F a w) : Chg F a w.drew := ⟨h.os, h.tape, h.output, h.size, h.block⟩

/-- A thing: the blocks in which it stands, and what is said of them. -/
structure Own where
  foot : Nat → Prop
  holds : World → Prop
  lt : ∀ w b, holds w → foot b → b < w.heap.size
  keep : ∀ w w', holds w → w.heap.size ≤ w'.heap.size → (∀ b, foot b → w'.heap[b]? = w.heap[b]?) → holds w'
/-- Block b holds cs. -/
def Own.blk (b : Nat) (t : TypeId) (cs : List Value) : Own where
  foot k := k = b
  holds w := VA w b t cs
  lt w k h e := by subst e; exact h.lt
  keep w w' h _ hk := (hk b rfl).trans h
/-- v is a row of elements. -/
def Own.row (T : Ty α) (v : Value) (xs : List α) : Own where
  foot k := v.ownBlock = some k
  holds w := OR T w 0 v xs
  lt w k h e := (OR.ge h k e).2
  keep w w' h _ hk := by
    refine ⟨h.1, ?_⟩
    rcases h.2 with h2 | ⟨g, cap, cur, hv, hg, hh, r⟩
    · exact Or.inl h2
    · exact Or.inr ⟨g, cap, cur, hv, hg, by rw [hk g (by rw [hv]; rfl)]; exact hh, r⟩
/-- Nothing. -/
def Own.nil : Own := ⟨fun _ => False, fun _ => True, fun _ _ _ h => h.elim, fun _ _ _ _ _ => trivial⟩

/-- w came of w0 by changes of the blocks of F alone, and of new ones; the things of L lie apart, in such blocks. -/
structure SH (F : Nat → Prop) (w0 w : World) (L : List Own) : Prop where
  chg : Chg F w0 w
  holds : ∀ o ∈ L, o.holds w
  foot : ∀ o ∈ L, ∀ b, o.foot b → F b ∨ w0.heap.size ≤ b
  apart : L.Pairwise fun o o' => ∀ b, o.foot b → ¬ o'.foot b

section
variable {F : Nat → Prop} {w0 w w' : World} {L : List Own}
theorem SH.start (F : Nat → Prop) (w : World) : SH F w w [] := ⟨Chg.refl F w, by simp, by simp, List.Pairwise.nil⟩
theorem SH.below (h : SH Nil w0 w L) : Below w0.heap.size w0 w := h.chg.below
theorem SH.size (h : SH F w0 w L) : w0.heap.size ≤ w.heap.size := h.chg.size
theorem SH.drew (h : SH F w0 w L) : SH F w0 w.drew L := ⟨h.chg.drew, fun o ho => o.keep w w.drew (h.holds o ho) (Nat.le_refl _) (fun _ _ => rfl), h.foot, h.apart⟩
theorem SH.sub {L' : List Own} (h : SH F w0 w L) (hs : L'.Sublist L) : SH F w0 w L' := ⟨h.chg, fun o ho => h.holds o (hs.subset ho), fun o ho => h.foot o (hs.subset ho), h.apart.sublist hs⟩
theorem SH.erase (h : SH F w0 w L) (i : Nat) : SH F w0 w (L.eraseIdx i) := h.sub (List.eraseIdx_sublist L i)
theorem SH.tail {o : Own} (h : SH F w0 w (o :: L)) : SH F w0 w L := h.sub (List.sublist_cons_self o L)
theorem SH.at_ (h : SH F w0 w L) (i : Nat) {o : Own} (hi : L[i]? = some o) : o.holds w := h.holds o (List.mem_of_getElem? hi)
theorem SH.va (h : SH F w0 w L) (i : Nat) {b : Nat} {t : TypeId} {cs : List Value} (hi : L[i]? = some (.blk b t cs)) : VA w b t cs := h.at_ i hi
theorem SH.or0 (h : SH F w0 w L) (i : Nat) {T : Ty α} {v : Value} {xs : List α} (hi : L[i]? = some (.row T v xs)) : OR T w 0 v xs := h.at_ i hi
theorem SH.rr (h : SH F w0 w L) (i : Nat) {T : Ty α} {v : Value} {xs : List α} (hi : L[i]? = some (.row T v xs)) : RR T w v xs := (h.or0 i hi).reads
theorem or_base {T : Ty α} {v : Value} {xs : List α} {b : Nat} (h : OR T w 0 v xs) (hb : ∀ k, v.ownBlock = some k → b ≤ k) : OR T w b v xs := by
  refine ⟨h.1, ?_⟩
  rcases h.2 with h2 | ⟨g, cap, cur, hv, _, r⟩
  · exact Or.inl h2
  · exact Or.inr ⟨g, cap, cur, hv, hb g (by rw [hv]; rfl), r⟩
theorem SH.orow (h : SH Nil w0 w L) (i : Nat) {T : Ty α} {v : Value} {xs : List α} (hi : L[i]? = some (.row T v xs)) : OR T w w0.heap.size v xs :=
  or_base (h.or0 i hi) fun k hk => (h.foot _ (List.mem_of_getElem? hi) k hk).elim (fun h => h.elim) id

/-- A step that changes no block that was there. -/
theorem SH.step (h : SH F w0 w L) (hb : Below w.heap.size w w') : SH F w0 w' L where
  chg := ⟨hb.os.trans h.chg.os, hb.tape.trans h.chg.tape, hb.output.trans h.chg.output, Nat.le_trans h.chg.size hb.size, fun k hk hn => (hb.block k (Nat.lt_of_lt_of_le hk h.chg.size)).trans (h.chg.block k hk hn)⟩
  holds o ho := o.keep w w' (h.holds o ho) hb.size (fun b hf => hb.block b (o.lt w b (h.holds o ho) hf))
  foot := h.foot
  apart := h.apart
/-- The same, with a new thing. -/
theorem SH.push (h : SH F w0 w L) (hb : Below w.heap.size w w') (o : Own) (ho : o.holds w') (hf : ∀ b, o.foot b → w.heap.size ≤ b) : SH F w0 w' (o :: L) where
  chg := (h.step hb).chg
  holds o' h' := by
    rcases List.mem_cons.mp h' with rfl | h'
    · exact ho
    · exact (h.step hb).holds o' h'
  foot o' h' b hb' := by
    rcases List.mem_cons.mp h' with rfl | h'
    · exact .inr (Nat.le_trans h.size (hf b hb'))
    · exact h.foot o' h' b hb'
  apart := List.Pairwise.cons (fun o' h' b h1 h2 => by have := o'.lt w b (h.holds o' h') h2; have := hf b h1; omega) h.apart
/-- A step that changes one thing alone. -/
theorem SH.change (h : SH F w0 w L) (i : Nat) {o : Own} (hi : L[i]? = some o) (hc : Chg o.foot w w') (o' : Own) (ho : o'.holds w') (hf : ∀ b, o'.foot b → o.foot b ∨ w.heap.size ≤ b) : SH F w0 w' (L.set i o') := by
  obtain ⟨hlt, he⟩ := List.getElem?_eq_some_iff.1 hi
  have hm := List.mem_of_getElem? hi
  have hap := List.pairwise_iff_getElem.1 h.apart
  have others : ∀ (j : Nat) (hj : j < L.length), j ≠ i → ∀ b, (L[j]).foot b → ¬ o.foot b := fun j hj hne b h1 h2 => by
    rw [← he] at h2
    rcases Nat.lt_or_ge j i with h3 | h3
    · exact hap j i hj hlt h3 b h1 h2
    · exact hap i j hlt hj (by omega) b h2 h1
  have memset : ∀ x ∈ L.set i o', x = o' ∨ ∃ (j : Nat) (hj : j < L.length), j ≠ i ∧ x = L[j] := fun x hx => by
    obtain ⟨j, hj, rfl⟩ := List.mem_iff_getElem.1 hx
    rw [List.length_set] at hj
    rw [List.getElem_set]
    by_cases e : i = j
    · exact .inl (by rw [if_pos e])
    · exact .inr ⟨j, hj, fun h => e h.symm, by rw [if_neg e]⟩
  refine ⟨⟨hc.os.trans h.chg.os, hc.tape.trans h.chg.tape, hc.output.trans h.chg.output, Nat.le_trans h.chg.size hc.size, fun k hk hn => ?_⟩, ?_, ?_, ?_⟩
  · refine (hc.block k (Nat.lt_of_lt_of_le hk h.chg.size) fun h1 => ?_).trans (h.chg.block k hk hn)
    rcases h.foot o hm k h1 with h2 | h2
    · exact hn h2
    · omega
  · intro x hx
    rcases memset x hx with rfl | ⟨j, hj, hne, rfl⟩
    · exact ho
    · have hh := h.holds _ (List.getElem_mem hj)
      exact Own.keep _ w w' hh hc.size fun b hb => hc.block b (Own.lt _ w b hh hb) (others j hj hne b hb)
  · intro x hx b hb
    rcases memset x hx with rfl | ⟨j, hj, hne, rfl⟩
    · rcases hf b hb with h1 | h1
      · exact h.foot o hm b h1
      · exact .inr (Nat.le_trans h.size h1)
    · exact h.foot _ (List.getElem_mem hj) b hb
  · have new : ∀ (j : Nat) (hj : j < L.length), j ≠ i → ∀ b, (L[j]).foot b → ¬ o'.foot b := fun j hj hne b h1 h2 => by
      rcases hf b h2 with h3 | h3
      · exact others j hj hne b h1 h3
      · have := Own.lt _ w b (h.holds _ (List.getElem_mem hj)) h1; omega
    rw [List.pairwise_iff_getElem]
    intro j k hj hk hjk b h1 h2
    rw [List.length_set] at hj hk
    rw [List.getElem_set] at h1 h2
    by_cases e1 : i = j
    · by_cases e2 : i = k
      · omega
      · rw [if_pos e1] at h1
        rw [if_neg e2] at h2
        exact new k hk (fun h => e2 h.symm) b h2 h1
    · rw [if_neg e1] at h1
      by_cases e2 : i = k
      · rw [if_pos e2] at h2
        exact new j hj (fun h => e1 h.symm) b h1 h2
      · rw [if_neg e2] at h2
        exact hap j k hj hk hjk b h1 h2
/-- A thing, said in another way. -/
theorem SH.alter (h : SH F w0 w L) (i : Nat) {o : Own} (hi : L[i]? = some o) (o' : Own) (ho : o.holds w → o'.holds w) (hf : ∀ b, o'.foot b → o.foot b) : SH F w0 w (L.set i o') :=
  h.change i hi (Chg.refl _ w) o' (ho (h.at_ i hi)) (fun b hb => .inl (hf b hb))
/-- A new block. -/
theorem SH.new (h : SH F w0 w L) (t : TypeId) (cs : List Value) : SH F w0 (w.alloc (.cells cs.toArray t)) (.blk w.heap.size t cs :: L) :=
  h.push (alloc_belowAt w _) _ (VA.new w cs t) (fun b (hb : b = _) => by omega)
/-- A block that is written. -/
theorem SH.setRow (h : SH F w0 w L) (i : Nat) {b : Nat} {t : TypeId} {cs : List Value} (hi : L[i]? = some (.blk b t cs)) (new : List Value) : SH F w0 (w.setRow b new.toArray) (L.set i (.blk b t new)) := by
  refine h.change i hi (o' := .blk b t new) ?_ ((h.va i hi).set new) (fun k hk => .inl hk)
  have := chg_grown (setRow_grown w b new.toArray)
  exact ⟨this.os, this.tape, this.output, this.size, fun k hk hn => this.block k hk (fun e => hn (by injection e with e; exact e.symm))⟩
/-- A row that a law of the kit has grown. -/
theorem SH.grow (h : SH F w0 w L) (i : Nat) {T : Ty α} {v v' : Value} {xs ys : List α} (hi : L[i]? = some (.row T v xs)) (ho : OR T w' 0 v' ys) (hg : w.grownBy w' v.ownBlock) (hat : v'.ownBlock = v.ownBlock ∨ ∃ b, v'.ownBlock = some b ∧ w.heap.size ≤ b) : SH F w0 w' (L.set i (.row T v' ys)) := by
  refine h.change i hi (chg_grown hg) _ ho (fun k (hk : v'.ownBlock = some k) => ?_)
  rcases hat with hat | ⟨b, hb, hle⟩
  · exact .inl (by show v.ownBlock = some k; rw [← hat]; exact hk)
  · exact .inr (by rw [hb] at hk; injection hk with hk; omega)
/-- Row of a call's own: a new thing. -/
theorem SH.pushRow (h : SH F w0 w L) (hb : Below w.heap.size w w') {T : Ty α} {v : Value} {xs : List α} (ho : OR T w' w.heap.size v xs) : SH F w0 w' (.row T v xs :: L) :=
  h.push hb _ (ho.lower (Nat.zero_le _)) (fun k hk => (OR.ge ho k hk).1)
theorem SH.nilRow (h : SH F w0 w L) (T : Ty α) : SH F w0 w (.row T (.slice none 0 0) [] :: L) :=
  h.push (Below.refl _ _) _ (OR.nil w 0) (fun k hk => by cases hk)
end

/-- A type of several cells. -/
structure AT (P : Program) (α : Type) where
  id : TypeId
  enc : α → List Value
  n : Nat
  len : ∀ x, (enc x).length = n
  one : ∀ x, ∀ v ∈ enc x, v.oneCell' = true
  d : TypeDesc
  under : P.underlying id = some d
  row : d.isRow = true
  size : (P.info? id).map (·.size) = some n
  zero : α
  zinfo : (P.info? id).map (·.zero) = some (some (.agg (enc zero).toArray))
  zbuilt : P.built id [] = some (enc zero).toArray
/-- Its value. -/
def AT.val (T : AT P α) (x : α) : Value := .agg (T.enc x).toArray

section
variable {ops : Array Oper} {rest : List Oper} {o o1 o2 : Oper} {a : Act} {Q : Exit → Act → World → Prop} {F : Nat → Prop} {w0 w : World} {L : List Own} {ρ : Operand → Value}

theorem AT.sz (T : AT P α) (x : α) : (P.info? T.id).map (·.size) = some (T.enc x).length := by rw [T.len]; exact T.size
/-- var x T -/
theorem wAlloc (T : AT P α) (H : SH F w0 w L) (ho : o.op = .alloc T.id) (hw : Region.wanted o (yielded ops a.tmps) = true)
    (h : ∀ w', SH F w0 w' (.blk w.heap.size T.id (T.enc T.zero) :: L) → wpList P ops Q rest (a.put o.dst (.pointer (some ⟨w.heap.size, 0, none⟩))) w') : wpList P ops Q (o :: rest) a w :=
  stepV (exec_alloc T.id ho _ (T.enc T.zero) T.zinfo rfl) hw (h _ (H.new _ _))
/-- x := y -/
theorem wVar (T : AT P α) (x : α) (H : SH F w0 w L) (ho1 : o1.op = .alloc T.id) (d : Nat) (y : Operand) (ho2 : o2.op = .store T.id (.tmp d) y)
    (hx : (a.put o1.dst (.pointer (some ⟨w.heap.size, 0, none⟩))).eval (.tmp d) = .pointer (some ⟨w.heap.size, 0, none⟩))
    (hy : (a.put o1.dst (.pointer (some ⟨w.heap.size, 0, none⟩))).eval y = .agg (T.enc x).toArray)
    (hw1 : Region.wanted o1 (yielded ops a.tmps) = true) (hw2 : Region.wanted o2 (yielded ops (a.put o1.dst (.pointer (some ⟨w.heap.size, 0, none⟩))).tmps) = true)
    (h : ∀ w', SH F w0 w' (.blk w.heap.size T.id (T.enc x) :: L) → wpList P ops Q rest ((a.put o1.dst (.pointer (some ⟨w.heap.size, 0, none⟩))).put o2.dst undef) w') : wpList P ops Q (o1 :: o2 :: rest) a w := by
  refine wpVar T.id ho1 _ (T.enc T.zero) T.zinfo rfl d y ho2 (T.enc x) hx hy (by rw [T.len, T.len]) (T.sz x) (T.one x) hw1 hw2 fun w' hv hb => h w' ?_
  exact H.push hb _ hv (fun k (hk : k = _) => by omega)
theorem wBox (T : AT P α) (x : α) (H : SH F w0 w L) (y : Operand) (ho : o.op = .box T.id y) (hx : a.eval y = .agg (T.enc x).toArray) (hw : Region.wanted o (yielded ops a.tmps) = true)
    (h : ∀ w', SH F w0 w' (.blk w.heap.size T.id (T.enc x) :: L) → wpList P ops Q rest (a.put o.dst (.pointer (some ⟨w.heap.size, 0, none⟩))) w') : wpList P ops Q (o :: rest) a w :=
  stepV (exec_box T.id y ho (T.enc x) hx) hw (h _ (H.new _ _))
theorem wLoad (T : AT P α) (x : α) (H : SH F w0 w L) (i : Nat) {b off : Nat} {t : TypeId} {cs : List Value} (hi : L[i]? = some (.blk b t cs)) (hp : (cs.drop off).take T.n = T.enc x) (y : Operand) (ho : o.op = .load T.id y) (hx : a.eval y = .pointer (some ⟨b, off, none⟩)) (hw : Region.wanted o (yielded ops a.tmps) = true)
    (h : wpList P ops Q rest (a.put o.dst (.agg (T.enc x).toArray)) w) : wpList P ops Q (o :: rest) a w :=
  stepV (exec_load T.id y ho b off hx (T.enc x) T.d ((H.va i hi).range off _ (by rw [T.len]; exact hp)) T.under T.row (T.sz x)) hw h
theorem wZero (T : AT P α) (ho : o.op = .build T.id #[]) (hw : Region.wanted o (yielded ops a.tmps) = true) (h : wpList P ops Q rest (a.put o.dst (.agg (T.enc T.zero).toArray)) w) : wpList P ops Q (o :: rest) a w :=
  stepV (exec_zero T.id ho _ T.zbuilt) hw h
theorem wStore (T : AT P α) (x : α) (H : SH F w0 w L) (i : Nat) {b : Nat} {t : TypeId} {cs : List Value} (hi : L[i]? = some (.blk b t cs)) (hl : cs.length = T.n) (p y : Operand) (ho : o.op = .store T.id p y) (hx : a.eval p = .pointer (some ⟨b, 0, none⟩)) (hy : a.eval y = .agg (T.enc x).toArray) (hw : Region.wanted o (yielded ops a.tmps) = true)
    (h : ∀ w', SH F w0 w' (L.set i (.blk b t (T.enc x))) → wpList P ops Q rest (a.put o.dst undef) w') : wpList P ops Q (o :: rest) a w :=
  stepS (exec_store T.id p y ho b hx (T.enc x) cs hy t (H.va i hi) (T.sz x) (by rw [T.len]; exact hl) (T.one x)) hw (h _ (H.setRow i hi _))
theorem wLay (T : AT P α) (x : α) (H : SH F w0 w L) (i : Nat) {b off : Nat} {t : TypeId} {cs : List Value} (hi : L[i]? = some (.blk b t cs)) (hl : off + T.n ≤ cs.length) (new : List Value) (hn : lay cs off (T.enc x) = new) (p y : Operand) (ho : o.op = .store T.id p y) (hx : a.eval p = .pointer (some ⟨b, off, none⟩)) (hy : a.eval y = .agg (T.enc x).toArray) (hw : Region.wanted o (yielded ops a.tmps) = true)
    (h : ∀ w', SH F w0 w' (L.set i (.blk b t new)) → wpList P ops Q rest (a.put o.dst undef) w') : wpList P ops Q (o :: rest) a w := by
  subst hn
  exact stepS (exec_lay T.id p y ho b off hx (T.enc x) cs (by rw [hy]; rfl) t (H.va i hi) (T.sz x) (by rw [T.len]; exact hl) (T.one x)) hw (h _ (H.setRow i hi _))
/-- A number is laid into a variable. -/
theorem wCell (t' : TypeId) (v : Value) (hs : (P.info? t').map (·.size) = some 1) (hc : v.cells = [v].toArray) (h1 : v.oneCell' = true) (H : SH F w0 w L) (i : Nat) {b off : Nat} {t : TypeId} {cs : List Value} (hi : L[i]? = some (.blk b t cs)) (hl : off + 1 ≤ cs.length) (new : List Value) (hn : lay cs off [v] = new) (p y : Operand) (ho : o.op = .store t' p y) (hx : a.eval p = .pointer (some ⟨b, off, none⟩)) (hy : a.eval y = v) (hw : Region.wanted o (yielded ops a.tmps) = true)
    (h : ∀ w', SH F w0 w' (L.set i (.blk b t new)) → wpList P ops Q rest (a.put o.dst undef) w') : wpList P ops Q (o :: rest) a w := by
  subst hn
  exact stepS (exec_lay t' p y ho b off hx [v] cs (by rw [hy]; exact hc) t (H.va i hi) (by simpa using hs) hl (fun u hu => by rw [List.mem_singleton.mp hu]; exact h1)) hw (h _ (H.setRow i hi _))
/-- A part of several cells is built, and laid. -/
theorem wLayV (t' : TypeId) (vs : List Value) (h1 : ∀ v ∈ vs, v.oneCell' = true) (hs : (P.info? t').map (·.size) = some vs.length) (H : SH F w0 w L) (i : Nat) {b off : Nat} {t : TypeId} {cs : List Value} (hi : L[i]? = some (.blk b t cs)) (hl : off + vs.length ≤ cs.length) (new : List Value) (hn : lay cs off vs = new) (p y : Operand) (ho : o.op = .store t' p y) (hx : a.eval p = .pointer (some ⟨b, off, none⟩)) (hy : a.eval y = .agg vs.toArray) (hw : Region.wanted o (yielded ops a.tmps) = true)
    (h : ∀ w', SH F w0 w' (L.set i (.blk b t new)) → wpList P ops Q rest (a.put o.dst undef) w') : wpList P ops Q (o :: rest) a w := by
  subst hn
  exact stepS (exec_lay t' p y ho b off hx vs cs (by rw [hy]; rfl) t (H.va i hi) hs hl h1) hw (h _ (H.setRow i hi _))
end
end Go.Proofs.YticfcelbnkiopaaDoor

namespace Go.Proofs.YticfcelbnkiopaaDoor
set_option maxRecDepth 100000
open Go.RowKit
variable {P : Program} {α : Type}

/-- The block of a row. -/
def rowF (v : Value) : Nat → Prop := fun k => v.ownBlock = some k
section
variable {F : Nat → Prop} {w0 w w' : World} {L : List Own}
/-- A callee that was handed a thing. -/
theorem SH.via (h : SH F w0 w L) (i : Nat) {o o' : Own} (hi : L[i]? = some o) (k : SH o.foot w w' [o']) : SH F w0 w' (L.set i o') :=
  h.change i hi k.chg o' (k.holds o' (List.mem_singleton.mpr rfl)) (fun b hb => k.foot o' (List.mem_singleton.mpr rfl) b hb)
theorem SH.row (T : Ty α) {v : Value} {xs : List α} (h : OR T w 0 v xs) : SH (rowF v) w w [.row T v xs] :=
  ⟨Chg.refl _ w, fun o ho => by rw [List.mem_singleton.mp ho]; exact h, fun o ho b hb => by rw [List.mem_singleton.mp ho] at hb; exact .inl hb, List.pairwise_singleton _ _⟩
theorem Chg.trans {a b c : World} (h : Chg F a b) (k : Below b.heap.size b c) : Chg F a c := ⟨k.os.trans h.os, k.tape.trans h.tape, k.output.trans h.output, Nat.le_trans h.size k.size, fun i hi hn => (k.block i (Nat.lt_of_lt_of_le hi h.size)).trans (h.block i hi hn)⟩
theorem SH.set {L' : List Own} (h : SH F w0 w L) (e : L = L') : SH F w0 w L' := e ▸ h
end

/-- append(v, ys...) -/
theorem run_append (T : Ty α) {W : World} (base : Nat) (t t2 : TypeId) (z : Value) (ht : P.underlying t = some (.slice T.id)) (hinfo : (P.info? T.id).map (fun i => (i.zero, i.size, i.bytes)) = some (some z, T.sz, T.bytes)) (hz : z.cells.size = T.sz)
    (v vy : Value) (xs ys : List α) (HO : OR T W base v xs) (HR : RR T W vy ys) (hbase : base ≤ W.heap.size) (hl : (xs.length + ys.length) * T.bytes ≤ 140737488355328) :
    ∃ v1 w1, (Builtin.append_ #[t, t] t2 #[v, vy]).run P W = .ok v1 w1 ∧ OR T w1 base v1 (xs ++ ys) ∧ W.grownBy w1 v.ownBlock ∧ (v1.ownBlock = v.ownBlock ∨ v1.ownBlock = some W.heap.size) := by
  obtain ⟨i0, hi, hzz⟩ := Option.map_eq_some_iff.1 hinfo
  simp only [Prod.mk.injEq] at hzz
  obtain ⟨hz0, hz1, hz2⟩ := hzz
  have hlen : xs.length + ys.length ≤ 140737488355328 := Nat.le_trans (Nat.le_mul_of_pos_right _ T.hby) hl
  obtain ⟨A, c, rfl, hc, hm, hcell⟩ := HR
  rcases Nat.eq_zero_or_pos ys.length with h0 | h0
  · obtain rfl : ys = [] := List.eq_nil_of_length_eq_zero h0
    refine ⟨v, W, ?_, by simpa using HO, World.grownBy.refl W _, .inl rfl⟩
    rcases HO.2 with ⟨rfl, hn⟩ | ⟨g, cap, cur, rfl, _, hgg, hnc, _, hcs, _⟩
    · cases A <;> simp [Builtin.append_, run_underlying ht, sizeOf, typeInfo, hi, Builtin.lenOf, Builtin.firstCells, loadCells, loadCellsFrom]
    · cases A <;> simp [Builtin.append_, run_underlying ht, sizeOf, typeInfo, hi, Builtin.lenOf, Builtin.firstCells, hnc, storeCells, loadCells, loadCellsFrom]
  · obtain ⟨ad, rfl, hcc⟩ := hcell h0
    obtain ⟨v1, w1, h1, h2, h3, _, h5⟩ := run_append_own_at (P := P) W base t t2 T.id i0 z T.sz T.bytes ht hi hz0 hz1 hz2 hz T.hsz v xs.length (T.all xs) HO ad ys.length c (T.all ys) (Ty.all_length ys) hcc (Ty.all_oneCell ys) (by simp only [maxLen]; omega) hl hbase
    exact ⟨v1, w1, h1, by unfold OR; rw [List.length_append, Ty.all_append]; exact h2, h3, h5⟩

/-- What append asks of a kind of elements. -/
structure ST (P : Program) (α : Type) extends Ty α where
  t : TypeId
  z : Value
  ht : P.underlying t = some (.slice id)
  hinfo : (P.info? id).map (fun i => (i.zero, i.size, i.bytes)) = some (some z, sz, bytes)
  hz : z.cells.size = sz

section
variable {ops : Array Oper} {rest : List Oper} {o : Oper} {a : Act} {Q : Exit → Act → World → Prop} {F : Nat → Prop} {w0 w : World} {L : List Own} {ρ : Operand → Value}
theorem exec_append (T : ST P α) (H : SH F w0 w L) (i : Nat) {v : Value} {xs : List α} (hi : L[i]? = some (.row T.toTy v xs)) (vy : Value) (ys : List α) (HR : RR T.toTy w vy ys) (hl : (xs.length + ys.length) * T.bytes ≤ 140737488355328)
    (s x : Operand) (ho : o.op = .call { callee := .builtin .append, args := #[s, x], argTypes := #[T.t, T.t] }) (hs : ρ s = v) (hx : ρ x = vy) :
    ∃ v1 w1, (execOp ρ o).run P w = .ok (.value v1) w1 ∧ SH F w0 w1 (L.set i (.row T.toTy v1 (xs ++ ys))) := by
  obtain ⟨v1, w1, h1, h2, h3, h4⟩ := run_append T.toTy 0 T.t o.type T.z T.ht T.hinfo T.hz v vy xs ys (H.or0 i hi) HR (Nat.zero_le _) hl
  refine ⟨v1, w1, ?_, H.grow i hi h2 h3 ?_⟩
  · unfold execOp
    simp only [ho, resolve, invoke, builtin, Sem.run_bind, Sem.run_pure, Result.andThen_ok, List.map_toArray, List.map_cons, List.map_nil, hs, hx, h1]
  · rcases h4 with h4 | h4
    · exact .inl h4
    · exact .inr ⟨_, h4, Nat.le_refl _⟩
theorem wAppend (T : ST P α) (H : SH F w0 w L) (i : Nat) {v : Value} {xs : List α} (hi : L[i]? = some (.row T.toTy v xs)) (vy : Value) (ys : List α) (HR : RR T.toTy w vy ys) (hl : (xs.length + ys.length) * T.bytes ≤ 140737488355328)
    (s x : Operand) (ho : o.op = .call { callee := .builtin .append, args := #[s, x], argTypes := #[T.t, T.t] }) (hs : a.eval s = v) (hx : a.eval x = vy) (hw : Region.wanted o (yielded ops a.tmps) = true)
    (h : ∀ v1 w1, SH F w0 w1 (L.set i (.row T.toTy v1 (xs ++ ys))) → wpList P ops Q rest (a.put o.dst v1) w1) : wpList P ops Q (o :: rest) a w := by
  obtain ⟨v1, w1, h1, h2⟩ := exec_append T H i hi vy ys HR hl s x ho hs hx
  exact stepV h1 hw (h v1 w1 h2)
/-- Behind a literal row. -/
theorem RR.lit (T : Ty α) (w : World) (ys : List α) (cs : Array Value) (hcs : cs.toList = T.all ys) (hm : ys.length ≤ 1000000000) : RR T (w.alloc (.cells cs T.id)) (.slice (some ⟨w.heap.size, 0, none⟩) ys.length ys.length) ys :=
  (OR.lit T w 0 ys cs hcs (Nat.zero_le _) (by omega)).reads
theorem wAppLit (T : ST P α) (ys : List α) (cs : Array Value) (hcs : cs.toList = T.all ys) (hm : ys.length ≤ 1000000000) (n : Nat) (hn : ys.length = n) (H : SH F w0 w L) (i : Nat) {v : Value} {xs : List α} (hi : L[i]? = some (.row T.toTy v xs)) (hl : (xs.length + n) * T.bytes ≤ 140737488355328)
    (s x : Operand) (ho : o.op = .call { callee := .builtin .append, args := #[s, x], argTypes := #[T.t, T.t] }) (hs : a.eval s = v) (hx : a.eval x = .slice (some ⟨w.heap.size, 0, none⟩) n n) (hw : Region.wanted o (yielded ops a.tmps) = true)
    (h : ∀ v1 w1, SH F w0 w1 (L.set i (.row T.toTy v1 (xs ++ ys))) → wpList P ops Q rest (a.put o.dst v1) w1) : wpList P ops Q (o :: rest) a (w.alloc (.cells cs T.id)) := by
  subst hn
  exact wAppend T (H.step (alloc_belowAt w _)) i hi _ ys (RR.lit T.toTy w ys cs hcs hm) hl s x ho hs hx hw h
/-- The same, at the operation. -/
theorem opV {K : Act → World → Prop} {w' : World} {v : Value} (hr : (execOp a.eval o).run P w = .ok (.value v) w') (h : K (a.put o.dst v) w') : o.wp P a w K Q := by
  unfold Oper.wp; rw [hr]; exact h
theorem oAppend {K : Act → World → Prop} (T : ST P α) (H : SH F w0 w L) (i : Nat) {v : Value} {xs : List α} (hi : L[i]? = some (.row T.toTy v xs)) (vy : Value) (ys : List α) (HR : RR T.toTy w vy ys) (hl : (xs.length + ys.length) * T.bytes ≤ 140737488355328)
    (s x : Operand) (ho : o.op = .call { callee := .builtin .append, args := #[s, x], argTypes := #[T.t, T.t] }) (hs : a.eval s = v) (hx : a.eval x = vy)
    (h : ∀ v1 w1, SH F w0 w1 (L.set i (.row T.toTy v1 (xs ++ ys))) → K (a.put o.dst v1) w1) : o.wp P a w K Q := by
  obtain ⟨v1, w1, h1, h2⟩ := exec_append T H i hi vy ys HR hl s x ho hs hx
  exact opV h1 (h v1 w1 h2)
theorem oAppLit {K : Act → World → Prop} (T : ST P α) (ys : List α) (cs : Array Value) (hcs : cs.toList = T.all ys) (hm : ys.length ≤ 1000000000) (n : Nat) (hn : ys.length = n) (H : SH F w0 w L) (i : Nat) {v : Value} {xs : List α} (hi : L[i]? = some (.row T.toTy v xs)) (hl : (xs.length + n) * T.bytes ≤ 140737488355328)
    (s x : Operand) (ho : o.op = .call { callee := .builtin .append, args := #[s, x], argTypes := #[T.t, T.t] }) (hs : a.eval s = v) (hx : a.eval x = .slice (some ⟨w.heap.size, 0, none⟩) n n)
    (h : ∀ v1 w1, SH F w0 w1 (L.set i (.row T.toTy v1 (xs ++ ys))) → K (a.put o.dst v1) w1) : o.wp P a (w.alloc (.cells cs T.id)) K Q := by
  subst hn
  exact oAppend T (H.step (alloc_belowAt w _)) i hi _ ys (RR.lit T.toTy w ys cs hcs hm) hl s x ho hs hx h
end

/-! A region that draws its order; S holds of each world on the way. -/
section
variable {ops : Array Oper} {Q : Exit → Act → World → Prop} {S : World → Prop}
theorem startS (S : World → Prop) {id : Nat} {a : Act} {w : World} (hm : P.follows .mixedOrders = true) (h0 : S w.drew) (h : wpAnyH P .any ops Q S ops.size (Array.replicate ops.size false) a w.drew) : (Code.region id ops true).wp P Q a w :=
  wp_region_held_drew (S := S) hm h0 (fun _ => h)
theorem takeS (i : Nat) {oi : Oper} {v : Value} {fuel : Nat} {listed : Array Bool} {a : Act} {w : World} (h0 : S w) (hi : ops.toList[i]? = some oi) (hs : Region.noSelect ops = true) (hf : Region.free .any ops listed i = true) (hr : (Region.ready .any ops listed).contains i = true)
    (hQ : ∀ c a w, Q (.panic c) (a.put oi.dst v) w → Q (.panic c) a w) (hw : Region.wanted oi (yielded ops a.tmps) = true)
    (hy : ∀ w', S w' → (execOp a.eval oi).run P w' = .ok (.value v) w') (h : wpAnyH P .any ops Q S fuel (listed.setIfInBounds i true) (a.put oi.dst v) w) : wpAnyH P .any ops Q S (fuel + 1) listed a w :=
  wpAnyH_take (by simpa using hi) hs hf hr hQ (.inl ⟨hw, hy⟩) h0 h
theorem skipS (i : Nat) {oi : Oper} {fuel : Nat} {listed : Array Bool} {a : Act} {w : World} (h0 : S w) (hi : ops.toList[i]? = some oi) (hs : Region.noSelect ops = true) (hf : Region.free .any ops listed i = true) (hr : (Region.ready .any ops listed).contains i = true)
    (hQ : ∀ c a w, Q (.panic c) (a.put oi.dst undef) w → Q (.panic c) a w) (hw : Region.wanted oi (yielded ops a.tmps) = false)
    (h : wpAnyH P .any ops Q S fuel (listed.setIfInBounds i true) (a.put oi.dst undef) w) : wpAnyH P .any ops Q S (fuel + 1) listed a w :=
  wpAnyH_take (by simpa using hi) hs hf hr hQ (.inr ⟨hw, rfl⟩) h0 h
theorem stepS' (i : Nat) {oi : Oper} {fuel : Nat} {listed : Array Bool} {a : Act} {w : World} (hi : ops.toList[i]? = some oi) (hr : Region.ready .any ops listed = [i]) (hw : Region.wanted oi (yielded ops a.tmps) = true)
    (h : ∀ K : Act → World → Prop, Shut (∀ a' w', S w' → wpAnyH P .any ops Q S fuel (listed.setIfInBounds i true) a' w' → K a' w') → oi.wp P a w K Q) : wpAnyH P .any ops Q S (fuel + 1) listed a w :=
  wpAnyH_ready hr (by simp) (AllReadyH.cons (by simpa using hi) (fun K hK => by rw [if_pos hw]; exact h K (fun a' w' hb he => hK a' w' hb (fun _ => he))) AllReadyH.nil)
theorem doneS {fuel : Nat} {listed : Array Bool} {a : Act} {w : World} (hr : Region.ready .any ops listed = []) (h : Q .normal a w) : wpAnyH P .any ops Q S fuel listed a w := wpAnyH_done hr h fuel
end

theorem u8_eqI (a b : UInt8) : ((a.toNat : Int) == (b.toNat : Int)) = (a == b) := by
  by_cases h : a = b
  · subst h; simp
  · have : ¬ (a.toNat : Int) = (b.toNat : Int) := fun e => h (UInt8.toNat_inj.mp (by omega))
    rw [beq_eq_false_iff_ne.mpr this, beq_eq_false_iff_ne.mpr h]
/-- []byte("..") of a constant. -/
theorem const_conv (w : World) (C : Array Value) (n c : Nat) : (convert 22 22 (.slice (some ⟨w.heap.size, 0, none⟩) n c)).run Tryd.prog (w.alloc (.cells C 5)) = .ok (.slice (some ⟨w.heap.size, 0, none⟩) n c) (w.alloc (.cells C 5 (C.size, C.size + 1))) :=
  Lib.run_convert_bytes_const w 22 5 C n c Tryd.underlying22 Tryd.underlying5
theorem const_rr (w : World) (ys : List UInt8) (cs : Array Value) (fr : Nat × Nat) (hcs : cs.toList = ys.map cb) (hm : ys.length ≤ 1000000000) : RB (w.alloc (.cells cs 5 fr)) (.slice (some ⟨w.heap.size, 0, none⟩) ys.length ys.length) ys :=
  ⟨_, _, rfl, Nat.le_refl _, by omega, fun _ => ⟨_, rfl, fun j u hu => by
    rw [Addr.add_mid, Nat.zero_add, World.cell?_alloc_mark, ← Array.getElem?_toList, hcs, ← U8_all]
    exact hu⟩⟩
/-! An operation's form, looked at reducibly. -/
section
variable {ops : Array Oper} {rest : List Oper} {Q : Exit → Act → World → Prop} {a : Act} {w : World} {d : Option Tmp} {ty t t2 : TypeId} {p : String} {af : Array Edge} {gd : Option (Nat × Bool)} {x y z : Operand}
theorem gBox (h : wpList P ops Q (⟨d, .box t x, ty, p, af, gd⟩ :: rest) a w) : wpList P ops Q (⟨d, .box t x, ty, p, af, gd⟩ :: rest) a w := h
theorem gAlloc (h : wpList P ops Q (⟨d, .alloc t, ty, p, af, gd⟩ :: rest) a w) : wpList P ops Q (⟨d, .alloc t, ty, p, af, gd⟩ :: rest) a w := h
theorem gLoad (h : wpList P ops Q (⟨d, .load t x, ty, p, af, gd⟩ :: rest) a w) : wpList P ops Q (⟨d, .load t x, ty, p, af, gd⟩ :: rest) a w := h
theorem gStore (h : wpList P ops Q (⟨d, .store t x y, ty, p, af, gd⟩ :: rest) a w) : wpList P ops Q (⟨d, .store t x y, ty, p, af, gd⟩ :: rest) a w := h
theorem gBuild {ps : Array (Nat × Operand)} (h : wpList P ops Q (⟨d, .build t ps, ty, p, af, gd⟩ :: rest) a w) : wpList P ops Q (⟨d, .build t ps, ty, p, af, gd⟩ :: rest) a w := h
theorem gBin {b : BinOp} (h : wpList P ops Q (⟨d, .binOp b t x y t2, ty, p, af, gd⟩ :: rest) a w) : wpList P ops Q (⟨d, .binOp b t x y t2, ty, p, af, gd⟩ :: rest) a w := h
theorem gMake (h : wpList P ops Q (⟨d, .makeSlice t x y, ty, p, af, gd⟩ :: rest) a w) : wpList P ops Q (⟨d, .makeSlice t x y, ty, p, af, gd⟩ :: rest) a w := h
theorem gIndex (h : wpList P ops Q (⟨d, .index t x y, ty, p, af, gd⟩ :: rest) a w) : wpList P ops Q (⟨d, .index t x y, ty, p, af, gd⟩ :: rest) a w := h
theorem gArr (h : wpList P ops Q (⟨d, .sliceToArrayPointer t x, ty, p, af, gd⟩ :: rest) a w) : wpList P ops Q (⟨d, .sliceToArrayPointer t x, ty, p, af, gd⟩ :: rest) a w := h
end
/-- Bytes. -/
def sB : ST Tryd.prog UInt8 := ⟨B8, 22, .int .u8 0, Tryd.underlying22, Tryd.info_u8, rfl⟩
end Go.Proofs.YticfcelbnkiopaaDoor

namespace Go.Proofs.YticfcelbnkiopaaDoor
set_option maxRecDepth 100000
open Go.RowKit
section
variable {P : Program} {ops : Array Oper} {Q : Exit → Act → World → Prop} {md : Region.Mode} {S : World → Prop} {W : Nat → Bool}

/-- Number j waits for number i, at once or by others. -/
def reachB (md : Region.Mode) (ops : Array Oper) : Nat → Nat → Nat → Bool
  | 0, _, _ => false
  | f + 1, j, i => ((ops[j]?).map fun o => o.after.any fun e => Region.binds md e && (e.on == i || reachB md ops f e.on i)).getD false
/-- Each writer waits for number i. -/
def waitsB (md : Region.Mode) (ops : Array Oper) (W : Nat → Bool) (i : Nat) : Bool := (List.range ops.size).all fun j => !W j || reachB md ops 4 j i
def Closed (md : Region.Mode) (ops : Array Oper) (listed : Array Bool) : Prop := ∀ (k : Nat) (o : Oper), ops[k]? = some o → listed.getD k false = true → ∀ e ∈ o.after, Region.binds md e = true → listed.getD e.on false = true
def closedB (md : Region.Mode) (ops : Array Oper) (listed : Array Bool) : Bool := (List.range ops.size).all fun k => !listed.getD k false || ((ops[k]?).map fun o => o.after.all fun e => !Region.binds md e || listed.getD e.on false).getD true
theorem closedB_spec {listed : Array Bool} (h : closedB md ops listed = true) : Closed md ops listed := fun k o hk hl e he hb => by
  simp only [closedB, List.all_eq_true, List.mem_range] at h
  have h1 := h k (Array.getElem?_eq_some_iff.1 hk).1
  rw [hl, hk] at h1
  simp only [Bool.not_true, Bool.false_or, Option.map_some, Option.getD_some, Array.all_eq_true_iff_forall_mem] at h1
  have h2 := h1 e he
  rw [hb] at h2
  simpa using h2
theorem Closed.set {listed : Array Bool} (h : Closed md ops listed) {j : Nat} (hj : j ∈ Region.ready md ops listed) : Closed md ops (listed.setIfInBounds j true) := fun k o hk hl e he hb => by
  obtain ⟨_, oj, hoj, hall⟩ := mem_ready.1 hj
  by_cases hjk : j = k
  · subst hjk
    rw [hoj] at hk
    injection hk with hk
    subst hk
    exact getD_set_true (hall e he hb)
  · rw [getD_set_ne false hjk] at hl
    exact getD_set_true (h k o hk hl e he hb)
theorem reachB_spec {listed : Array Bool} (h : Closed md ops listed) {i : Nat} : ∀ (f j : Nat) (o : Oper), ops[j]? = some o → (∀ e ∈ o.after, Region.binds md e = true → listed.getD e.on false = true) → reachB md ops f j i = true → listed.getD i false = true
  | 0, _, _, _, _, hr => by simp [reachB] at hr
  | f + 1, j, o, ho, hall, hr => by
    rw [reachB, ho] at hr
    simp only [Option.map_some, Option.getD_some] at hr
    obtain ⟨e, he, hb⟩ := Array.any_eq_true'.1 hr
    simp only [Bool.and_eq_true, Bool.or_eq_true, beq_iff_eq] at hb
    have hl := hall e he hb.1
    rcases hb.2 with h1 | h1
    · rw [← h1]; exact hl
    · cases ho2 : ops[e.on]? with
      | none =>
        cases f with
        | zero => simp [reachB] at h1
        | succ f => rw [reachB, ho2] at h1; simp at h1
      | some o2 => exact reachB_spec h f e.on o2 ho2 (h e.on o2 ho2 hl) h1
theorem waitsB_spec {i : Nat} (h : waitsB md ops W i = true) {listed : Array Bool} (hc : Closed md ops listed) {j : Nat} (hj : j ∈ Region.ready md ops listed) (hW : W j = true) : listed.getD i false = true := by
  obtain ⟨_, oj, hoj, hall⟩ := mem_ready.1 hj
  simp only [waitsB, List.all_eq_true, List.mem_range] at h
  have h1 := h j (Array.getElem?_eq_some_iff.1 hoj).1
  rw [hW] at h1
  simp only [Bool.not_true, Bool.false_or] at h1
  exact reachB_spec hc 4 j oj hoj hall h1
/-- Whatever order: an operation that is no writer keeps S. -/
def wpAnyL (P : Program) (md : Region.Mode) (ops : Array Oper) (Q : Exit → Act → World → Prop) (S : World → Prop) (W : Nat → Bool) : Nat → Array Bool → Act → World → Prop
  | 0, listed, a, w => Region.ready md ops listed = [] ∧ Q .normal a w
  | fuel + 1, listed, a, w =>
    (Region.ready md ops listed = [] → Q .normal a w) ∧
    ∀ i ∈ Region.ready md ops listed, wpOp P ops Q i (fun a' w' => (W i = false → S w → S w') ∧ wpAnyL P md ops Q S W fuel (listed.setIfInBounds i true) a' w') a w
theorem wpAny_of_L : ∀ (fuel : Nat) (listed : Array Bool) (a : Act) (w : World), wpAnyL P md ops Q S W fuel listed a w → wpAny P md ops Q fuel listed a w
  | 0, _, _, _, h => h
  | fuel + 1, _, _, _, h => ⟨h.1, fun i hi => wpOp_mono (fun a' w' h' => wpAny_of_L fuel _ a' w' h'.2) (h.2 i hi)⟩
theorem wpAnyL_first {T : World → Prop} {i : Nat} {oi : Oper} {v : Value} (hi : ops[i]? = some oi) (hT : ∀ (j : Nat) (listed : Array Bool) (w w' : World), Closed md ops listed → j ∈ Region.ready md ops listed → listed.getD i true = false → (W j = false → S w → S w') → T w → T w') (hsel : ∀ (j : Nat) (o : Oper) cs b, ops[j]? = some o → o.op ≠ .select cs b)
    (hQ : ∀ c a w, Q (.panic c) (a.put oi.dst v) w → Q (.panic c) a w) :
    ∀ (fuel : Nat) (listed : Array Bool) (a : Act) (w : World),
      (∀ j oj, ops[j]? = some oj → j ≠ i → listed.getD j true = false → (∀ e ∈ oj.after, Region.binds md e = true → e.on ≠ i) → oi.apart ops oj = true) →
      Closed md ops listed → i ∈ Region.ready md ops listed → YieldsIf P ops T oi v a → T w →
      wpAnyL P md ops Q S W fuel (listed.setIfInBounds i true) (a.put oi.dst v) w → wpAnyL P md ops Q S W (fuel + 1) listed a w := by
  intro fuel
  induction fuel with
  | zero =>
    intro listed a w _ hcl hr hy hS H
    refine ⟨fun h => (by rw [h] at hr; cases hr), fun j hj => ?_⟩
    by_cases hji : j = i
    · subst hji; exact hy.wpOp hi hS ⟨fun _ h => h, H⟩
    · have := ready_mono hj hji
      rw [H.1] at this
      cases this
  | succ fuel ih =>
    intro listed a w hfree hcl hr hy hS H
    refine ⟨fun h => (by rw [h] at hr; cases hr), fun j hj => ?_⟩
    by_cases hji : j = i
    · subst hji; exact hy.wpOp hi hS ⟨fun _ h => h, H⟩
    · have h1 := H.2 j (ready_mono hj hji)
      obtain ⟨hjun, oj, hoj, hall⟩ := mem_ready.1 hj
      have hnot : ∀ e ∈ oj.after, Region.binds md e = true → e.on ≠ i := fun e he hb heq => by
        have h1 := hall e he hb
        have h0 := (mem_ready.1 hr).1
        rw [heq] at h1
        rcases Nat.lt_or_ge i listed.size with h' | h'
        · simp [h'] at h0 h1; rw [h0] at h1; cases h1
        · simp [Array.getElem?_eq_none h'] at h1
      have h2 := wpOp_putIf hoj (hfree j oj hoj hji hjun hnot) (fun cs b => hsel i oi cs b hi) (fun cs b => hsel j oj cs b hoj) hQ hy h1
      have hfree' : ∀ k ok, ops[k]? = some ok → k ≠ i → (listed.setIfInBounds j true).getD k true = false →
          (∀ e ∈ ok.after, Region.binds md e = true → e.on ≠ i) → oi.apart ops ok = true := fun k ok hk hki hun hno => by
        refine hfree k ok hk hki ?_ hno
        by_cases hjk : j = k
        · subst hjk; exact hjun
        · rw [getD_set_ne true hjk] at hun; exact hun
      refine wpOp_mono (fun a' w' h3 => ⟨h3.2.1, ih (listed.setIfInBounds j true) a' w' hfree' (hcl.set hj) (ready_mono hr (Ne.symm hji)) h3.1 (hT j listed w w' hcl hj (mem_ready.1 hr).1 h3.2.1 hS) ?_⟩) h2
      rw [Array.setIfInBounds_comm _ _ hji]
      exact h3.2.2

theorem startL (S : World → Prop) (W : Nat → Bool) {id : Nat} {a : Act} {w : World} (hm : P.follows .mixedOrders = true) (h : wpAnyL P .any ops Q S W ops.size (Array.replicate ops.size false) a w.drew) : (Code.region id ops true).wp P Q a w :=
  wp_region_any hm (wpAny_of_L _ _ _ _ h)
/-- What is read in worlds of S. -/
theorem takeL (i : Nat) {oi : Oper} {v : Value} {fuel : Nat} {listed : Array Bool} {a : Act} {w : World} (h0 : S w) (hi : ops.toList[i]? = some oi) (hWt : waitsB .any ops W i = true) (hs : Region.noSelect ops = true) (hf : Region.free .any ops listed i = true) (hr : (Region.ready .any ops listed).contains i = true) (hcl : closedB .any ops listed = true)
    (hQ : ∀ c a w, Q (.panic c) (a.put oi.dst v) w → Q (.panic c) a w) (hw : Region.wanted oi (yielded ops a.tmps) = true)
    (hy : ∀ w', S w' → (execOp a.eval oi).run P w' = .ok (.value v) w') (h : wpAnyL P .any ops Q S W fuel (listed.setIfInBounds i true) (a.put oi.dst v) w) : wpAnyL P .any ops Q S W (fuel + 1) listed a w :=
  have hi2 : ops[i]? = some oi := by simpa using hi
  wpAnyL_first (T := S) hi2 (fun j listed w w' hc hj hi0 hk hS => by
    cases hWj : W j with
    | false => exact hk hWj hS
    | true =>
      have h1 := waitsB_spec hWt hc hj hWj
      rcases Nat.lt_or_ge i listed.size with h' | h'
      · simp [h'] at hi0 h1; rw [hi0] at h1; cases h1
      · simp [Array.getElem?_eq_none h'] at h1) (Region.noSelect_spec hs) hQ fuel listed a w (Region.free_spec hi2 hf) (closedB_spec hcl) (by simpa using hr) (.inl ⟨hw, hy⟩) h0 h
/-- What is told in every world. -/
theorem takeP (i : Nat) {oi : Oper} {v : Value} {fuel : Nat} {listed : Array Bool} {a : Act} {w : World} (hi : ops.toList[i]? = some oi) (hs : Region.noSelect ops = true) (hf : Region.free .any ops listed i = true) (hr : (Region.ready .any ops listed).contains i = true) (hcl : closedB .any ops listed = true)
    (hQ : ∀ c a w, Q (.panic c) (a.put oi.dst v) w → Q (.panic c) a w) (hw : Region.wanted oi (yielded ops a.tmps) = true)
    (hy : ∀ w', (execOp a.eval oi).run P w' = .ok (.value v) w') (h : wpAnyL P .any ops Q S W fuel (listed.setIfInBounds i true) (a.put oi.dst v) w) : wpAnyL P .any ops Q S W (fuel + 1) listed a w :=
  have hi2 : ops[i]? = some oi := by simpa using hi
  wpAnyL_first (T := fun _ => True) hi2 (fun _ _ _ _ _ _ _ _ _ => trivial) (Region.noSelect_spec hs) hQ fuel listed a w (Region.free_spec hi2 hf) (closedB_spec hcl) (by simpa using hr) (.inl ⟨hw, fun w' _ => hy w'⟩) trivial h
theorem skipL (i : Nat) {oi : Oper} {fuel : Nat} {listed : Array Bool} {a : Act} {w : World} (hi : ops.toList[i]? = some oi) (hs : Region.noSelect ops = true) (hf : Region.free .any ops listed i = true) (hr : (Region.ready .any ops listed).contains i = true) (hcl : closedB .any ops listed = true)
    (hQ : ∀ c a w, Q (.panic c) (a.put oi.dst undef) w → Q (.panic c) a w) (hw : Region.wanted oi (yielded ops a.tmps) = false)
    (h : wpAnyL P .any ops Q S W fuel (listed.setIfInBounds i true) (a.put oi.dst undef) w) : wpAnyL P .any ops Q S W (fuel + 1) listed a w :=
  have hi2 : ops[i]? = some oi := by simpa using hi
  wpAnyL_first (T := fun _ => True) hi2 (fun _ _ _ _ _ _ _ _ _ => trivial) (Region.noSelect_spec hs) hQ fuel listed a w (Region.free_spec hi2 hf) (closedB_spec hcl) (by simpa using hr) (.inr ⟨hw, rfl⟩) trivial h
theorem stepL (i : Nat) {oi : Oper} {fuel : Nat} {listed : Array Bool} {a : Act} {w : World} (hi : ops.toList[i]? = some oi) (hr : Region.ready .any ops listed = [i]) (hw : Region.wanted oi (yielded ops a.tmps) = true)
    (h : ∀ K : Act → World → Prop, Shut (∀ a' w', (W i = false → S w → S w') → wpAnyL P .any ops Q S W fuel (listed.setIfInBounds i true) a' w' → K a' w') → oi.wp P a w K Q) : wpAnyL P .any ops Q S W (fuel + 1) listed a w := by
  have hi2 : ops[i]? = some oi := by simpa using hi
  refine ⟨fun h0 => (by rw [h0] at hr; cases hr), fun j hj => ?_⟩
  rw [hr] at hj
  obtain rfl := List.mem_singleton.mp hj
  unfold wpOp
  simp only [hi2, hw, if_true]
  exact .inl (h _ (fun a' w' h1 h2 => ⟨h1, h2⟩))
theorem doneL {fuel : Nat} {listed : Array Bool} {a : Act} {w : World} (hr : Region.ready .any ops listed = []) (h : Q .normal a w) : wpAnyL P .any ops Q S W fuel listed a w := by
  cases fuel with
  | zero => exact ⟨hr, h⟩
  | succ fuel => exact ⟨fun _ => h, by rw [hr]; simp⟩
end
section
variable {P : Program} {ops : Array Oper} {o : Oper} {a : Act} {Q : Exit → Act → World → Prop} {F : Nat → Prop} {w0 w : World} {L : List Own} {K : Act → World → Prop}
theorem opS {w' : World} (hr : (execOp a.eval o).run P w = .ok .skip w') (h : K (a.put o.dst undef) w') : o.wp P a w K Q := by
  unfold Oper.wp; rw [hr]; exact h
theorem oCell (t' : TypeId) (v : Value) (hs : (P.info? t').map (·.size) = some 1) (hc : v.cells = [v].toArray) (h1 : v.oneCell' = true) (H : SH F w0 w L) (i : Nat) {b off : Nat} {t : TypeId} {cs : List Value} (hi : L[i]? = some (.blk b t cs)) (hl : off + 1 ≤ cs.length) (new : List Value) (hn : lay cs off [v] = new) (p y : Operand) (ho : o.op = .store t' p y) (hx : a.eval p = .pointer (some ⟨b, off, none⟩)) (hy : a.eval y = v)
    (h : ∀ w', SH F w0 w' (L.set i (.blk b t new)) → K (a.put o.dst undef) w') : o.wp P a w K Q := by
  subst hn
  exact opS (exec_lay t' p y ho b off hx [v] cs (by rw [hy]; exact hc) t (H.va i hi) (by simpa using hs) hl (fun u hu => by rw [List.mem_singleton.mp hu]; exact h1)) (h _ (H.setRow i hi _))
end
section
variable {P : Program} {ops : Array Oper} {rest : List Oper} {o : Oper} {a : Act} {Q : Exit → Act → World → Prop} {F : Nat → Prop} {w0 w : World} {L : List Own}
/-- A number is put into a variable of its own. -/
theorem wBox1 (t : TypeId) (v : Value) (hc : v.cells = [v].toArray) (H : SH F w0 w L) (y : Operand) (ho : o.op = .box t y) (hx : a.eval y = v) (hw : Region.wanted o (yielded ops a.tmps) = true)
    (h : ∀ w', SH F w0 w' (.blk w.heap.size t [v] :: L) → wpList P ops Q rest (a.put o.dst (.pointer (some ⟨w.heap.size, 0, none⟩))) w') : wpList P ops Q (o :: rest) a w := by
  refine stepV (w' := w.alloc (.cells v.cells t)) ?_ hw (h _ (by rw [hc]; exact H.new t [v]))
  unfold execOp
  simp only [ho, hx]
  rfl
theorem wAlloc1 (t : TypeId) (z : Value) (hz : (P.info? t).map (·.zero) = some (some z)) (hc : z.cells = [z].toArray) (H : SH F w0 w L) (ho : o.op = .alloc t) (hw : Region.wanted o (yielded ops a.tmps) = true)
    (h : ∀ w', SH F w0 w' (.blk w.heap.size t [z] :: L) → wpList P ops Q rest (a.put o.dst (.pointer (some ⟨w.heap.size, 0, none⟩))) w') : wpList P ops Q (o :: rest) a w :=
  stepV (exec_alloc t ho z [z] hz hc) hw (h _ (H.new t [z]))
end
end Go.Proofs.YticfcelbnkiopaaDoor

namespace Go.Proofs.YticfcelbnkiopaaDoor
set_option maxRecDepth 100000
open Go.RowKit
section
variable {ops : Array Oper} {rest : List Oper} {o : Oper} {a : Act} {Q : Exit → Act → World → Prop} {w : World}
theorem appRoom (s x : Operand) (g n cap : Nat) (L ys : List UInt8) (vy : Value) (HV : VA w g 5 (L.map cb)) (HR : RB w vy ys) (hp : 0 < ys.length) (hcap : cap ≤ L.length) (hroom : n + ys.length ≤ cap)
    (hgd : o.guard = none) (ho : o.op = .call { callee := .builtin .append, args := #[s, x], argTypes := #[22, 22] }) (hs : a.eval s = .slice (some ⟨g, 0, none⟩) n cap) (hx : a.eval x = vy)
    (h : ∀ w', VA w' g 5 ((L.take n ++ ys ++ L.drop (n + ys.length)).map cb) → w.grownBy w' (some g) → wpList Tryd.prog ops Q rest (a.put o.dst (.slice (some ⟨g, 0, none⟩) (n + ys.length) cap)) w') :
    wpList Tryd.prog ops Q (o :: rest) a w := by
  obtain ⟨A, c, rfl, hc, hm, hcell⟩ := HR
  obtain ⟨ad, rfl, hcc⟩ := hcell hp
  obtain ⟨i0, hi, hz⟩ := Option.map_eq_some_iff.1 Tryd.info_u8
  simp only [Prod.mk.injEq] at hz
  obtain ⟨_, hz1, _⟩ := hz
  have hone : ∀ u ∈ ys.map cb, u.oneCell' = true := by
    intro u hu
    obtain ⟨y, _, rfl⟩ := List.mem_map.mp hu
    rfl
  rw [U8_all] at hcc
  have hr := run_append_room (P := Tryd.prog) w 22 o.type 5 i0 Tryd.underlying22 hi g n cap (L.map cb).toArray HV ad ys.length c (ys.map cb) (by rw [hz1]; simp) hcc hone hroom (by rw [hz1]; simp; omega)
  have e1 : (L.map cb).toArray.toList.take (n * i0.size) ++ ys.map cb ++ (L.map cb).toArray.toList.drop (n * i0.size + (ys.map cb).length) = (L.take n ++ ys ++ L.drop (n + ys.length)).map cb := by
    rw [hz1]
    simp
  rw [e1] at hr
  refine wpList_plain hgd fun K hK => ?_
  unfold Oper.wp execOp
  simp only [ho, resolve, invoke, builtin, Sem.run_bind, Sem.run_pure, Result.andThen_ok, List.map_toArray, List.map_cons, List.map_nil, hs, hx, hr]
  exact hK _ _ (h _ (HV.set _) (setRow_grown _ _ _))
/-- make([]byte, 0, n). -/
theorem exec_make0 {ρ : Operand → Value} (n : Nat) (h63 : n ≤ 1000000) (l c : Operand) (ho : o.op = .makeSlice 22 l c) (hl : ρ l = .int .i64 0) (hc : ρ c = .int .i64 (n : Int)) :
    (execOp ρ o).run Tryd.prog w = .ok (.value (.slice (some ⟨w.heap.size, 0, none⟩) 0 n)) (w.alloc (.cells ((List.replicate n (0 : UInt8)).map cb).toArray 5)) := by
  obtain ⟨i0, hi, hz0, hz1, hz2⟩ := info_parts Tryd.info_u8
  have h := run_make (P := Tryd.prog) w 22 5 i0 (.int .u8 0) Tryd.underlying22 hi hz0 .i64 .i64 0 (n : Int) (by omega) (by omega) (by rw [hz2]; omega) (by omega)
  have e1 : (madeCells #[.int .u8 0] n) = ((List.replicate n (0 : UInt8)).map cb).toArray := by
    apply Array.toList_inj.mp
    rw [toList_madeCells_one]
    simp
  have e2 : ((n : Int)).toNat = n := by omega
  rw [hz1, Nat.mul_one, e2] at h
  unfold execOp
  simp only [ho, hl, hc, h, Sem.run_bind, Sem.run_pure, Result.andThen_ok]
  rw [show (Value.int IntKind.u8 0).cells = #[.int .u8 0] from rfl, e1]
  rfl
theorem wpMake0 (n : Nat) (h63 : n ≤ 1000000) (l c : Operand) (ho : o.op = .makeSlice 22 l c) (hl : a.eval l = .int .i64 0) (hc : a.eval c = .int .i64 (n : Int)) (hw : Region.wanted o (yielded ops a.tmps) = true)
    (h : ∀ w', VA w' w.heap.size 5 ((List.replicate n (0 : UInt8)).map cb) → Below w.heap.size w w' → wpList Tryd.prog ops Q rest (a.put o.dst (.slice (some ⟨w.heap.size, 0, none⟩) 0 n)) w') : wpList Tryd.prog ops Q (o :: rest) a w :=
  stepV (exec_make0 n h63 l c ho hl hc) hw (h _ (VA.new w _ _) (alloc_belowAt w _))
/-- A block of the call's own, read as a row. -/
theorem OB.ofVA {base g : Nat} {xs : List UInt8} (h : VA w g 5 (xs.map cb)) (hb : base ≤ g) (hm : xs.length ≤ 1000000000) : OB w base (.slice (some ⟨g, 0, none⟩) xs.length xs.length) xs := by
  refine ⟨by rw [U8_all]; simp [U8], .inr ⟨g, xs.length, _, rfl, hb, h, Nat.le_refl _, by simp [maxLen]; omega, by simp [U8], by rw [U8_all]; simp only [U8, Nat.mul_one]; rw [List.take_of_length_le (by simp)]⟩⟩
end
end Go.Proofs.YticfcelbnkiopaaDoor
