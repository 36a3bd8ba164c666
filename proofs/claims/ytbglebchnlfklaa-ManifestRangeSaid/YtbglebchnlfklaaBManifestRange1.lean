/- Ground of the statement ManifestRange, part 1: Kit, Eq, Agg, Fill, Base, Sep, Sep2, Sep3, AggB, Auto. -/
import Derived.Below
import Derived.Deep.Draws
import Derived.Deep.AppendLies
import Derived.Maps.AppendAt
import Derived.OwnWalk
import Derived.Laws.BytesArg
import Derived.Laws.MakeOwn
import Derived.Laws.OwnMore
import Derived.Laws.CopyOwn
import Derived.Tactics
import Derived.Lib.ConvBytes
import Derived.Lib.Hide
import Derived.Laws.Slices
import Derived.WalkKit
import Derived.KernelRfl
import Derived.RowKit3
import Derived.Deep.LoopGhost
import Derived.Deep.QuietTactic
import Derived.BigQuiet
import Derived.WideLaws
import Derived.Deep.DeepCutAuto
import Derived.Deep.CutBlock
import Derived.Deep.RegionHeld3
import Derived.Laws.Rows
import Derived.Laws.IdiomCopy
import Derived.Laws.BitsLemmas
import Derived.WalkSpells
import Derived.Outline
import Derived.Laws.StructEq
import Derived.Deep.MidRow
import Derived.Laws.Tables
import Derived.Test.YtbglebchnlfklaaProg
import Derived.Lib.SmallJoins
import Derived.OrdersHeld
namespace Go.Proofs.Ytbglebchnlfklaa
set_option maxRecDepth 100000
open Go.RowKit

theorem i64w (x : Int) (h0 : -9223372036854775808 ≤ x) (h1 : x ≤ 9223372036854775807) : IntKind.i64.wrap x = x := by rw [IntKind.wrap_i64]; omega

/-- A kind of elements: its type, cells and bytes of one, and the cells of each. -/
structure Ty (α : Type) where
  id : Nat
  sz : Nat
  bytes : Nat
  zero : Value
  enc : α → List Value
  hlen : ∀ x, (enc x).length = sz
  hone : ∀ x, ∀ u ∈ enc x, u.oneCell' = true
  hsz : 0 < sz
  hby : 0 < bytes

variable {α : Type} {T : Ty α} {P : Program}

/-- All cells of a row. -/
def Ty.all (T : Ty α) (xs : List α) : List Value := xs.flatMap T.enc
theorem Ty.all_nil : T.all ([] : List α) = [] := rfl
theorem Ty.all_length (xs : List α) : (T.all xs).length = xs.length * T.sz := by
  unfold Ty.all
  induction xs with
  | nil => simp
  | cons x xs ih => rw [List.flatMap_cons, List.length_append, ih, T.hlen, List.length_cons, Nat.succ_mul, Nat.add_comm]
theorem Ty.all_append (xs ys : List α) : T.all (xs ++ ys) = T.all xs ++ T.all ys := by simp [Ty.all]
theorem Ty.all_one (x : α) : T.all [x] = T.enc x := by simp [Ty.all]
theorem Ty.all_cons (x : α) (xs : List α) : T.all (x :: xs) = T.enc x ++ T.all xs := by simp [Ty.all]
theorem Ty.all_oneCell (xs : List α) : ∀ u ∈ T.all xs, u.oneCell' = true := by
  intro u hu
  simp only [Ty.all, List.mem_flatMap] at hu
  obtain ⟨x, _, hx⟩ := hu
  exact T.hone x u hx
theorem Ty.all_drop (xs : List α) (i : Nat) : (T.all xs).drop (i * T.sz) = T.all (xs.drop i) := by
  induction xs generalizing i with
  | nil => simp [Ty.all]
  | cons x xs ih =>
    cases i with
    | zero => simp
    | succ i =>
      rw [Ty.all_cons, List.drop_succ_cons, Nat.succ_mul, Nat.add_comm, ← List.drop_drop, ← T.hlen x, List.drop_left, T.hlen, ih]
theorem Ty.all_take (xs : List α) (i : Nat) : (T.all xs).take (i * T.sz) = T.all (xs.take i) := by
  induction xs generalizing i with
  | nil => simp [Ty.all]
  | cons x xs ih =>
    cases i with
    | zero => simp [Ty.all]
    | succ i =>
      rw [Ty.all_cons, List.take_succ_cons, Ty.all_cons, List.take_append, T.hlen, Nat.succ_mul, List.take_of_length_le (by rw [T.hlen]; omega), Nat.add_sub_cancel, ih]
theorem Ty.all_get (xs : List α) (i : Nat) (h : i < xs.length) (j : Nat) (hj : j < T.sz) : (T.all xs)[i * T.sz + j]? = (T.enc xs[i])[j]? := by
  have h1 : (T.all xs)[i * T.sz + j]? = ((T.all xs).drop (i * T.sz))[j]? := by rw [List.getElem?_drop]
  rw [h1, Ty.all_drop, List.drop_eq_getElem_cons h, Ty.all_cons, List.getElem?_append_left (by rw [T.hlen]; exact hj)]

/-- The slice value v reads as xs in w. -/
def RR (T : Ty α) (w : World) (v : Value) (xs : List α) : Prop :=
  ∃ A c, v = .slice A xs.length c ∧ xs.length ≤ c ∧ xs.length ≤ 9223372036854775807 ∧
    (0 < xs.length → ∃ ad, A = some ad ∧ ∀ j u, (T.all xs)[j]? = some u → w.cell? (ad.add j) = some u)

/-- v is a row of the call's own, from block base on, that reads as xs. -/
def OR (T : Ty α) (w : World) (base : Nat) (v : Value) (xs : List α) : Prop := w.ownsRow base T.id T.sz v xs.length (T.all xs)

theorem cell_below {w w1 : World} (h : Below w.heap.size w w1) {a : Addr} {v : Value} (hc : w.cell? a = some v) : w1.cell? a = some v := (h.cell (World.block_lt_of_cell? w a hc)).trans hc

theorem pw_below_drewN {B : Nat} {w W : World} (h : Below B w W) (n : Nat) : Below B w (W.drewN n) := ⟨h.os, h.tape, h.output, h.size, h.block⟩

theorem RR.below {w w1 : World} {v : Value} {xs : List α} (h : RR T w v xs) (hb : Below w.heap.size w w1) : RR T w1 v xs := by
  obtain ⟨A, c, e, h1, h2, h3⟩ := h
  refine ⟨A, c, e, h1, h2, fun hp => ?_⟩
  obtain ⟨ad, e2, hc⟩ := h3 hp
  exact ⟨ad, e2, fun j u hj => cell_below hb (hc j u hj)⟩

theorem OR.reads {w : World} {base : Nat} {v : Value} {xs : List α} (h : OR T w base v xs) : RR T w v xs := by
  rcases Nat.eq_zero_or_pos xs.length with h0 | h0
  · rcases h.2 with ⟨rfl, _⟩ | ⟨g, cap, cur, rfl, _, _, h1, h2, _⟩
    · exact ⟨none, 0, by rw [h0], by omega, by omega, fun hp => by omega⟩
    · exact ⟨_, cap, rfl, h1, by omega, fun hp => by omega⟩
  · obtain ⟨g, cap, rfl, _, _⟩ := h.form h0
    have hm : xs.length ≤ cap ∧ xs.length ≤ 9223372036854775807 := by
      rcases h.2 with ⟨h1, _⟩ | ⟨g', cap', cur, he, _, _, h1, h2, _⟩
      · cases h1
      · injection he with _ _ he
        subst he
        simp only [maxLen] at h2
        omega
    exact ⟨_, cap, rfl, hm.1, hm.2, fun _ => ⟨_, rfl, fun j u hj => h.cells (g := g) rfl j _ hj⟩⟩

theorem OR.below {w w1 : World} {base : Nat} {v : Value} {xs : List α} (h : OR T w base v xs) (hb : Below w.heap.size w w1) : OR T w1 base v xs :=
  World.ownsRow.kept h (row := none) ⟨hb.os, hb.tape, hb.output, hb.size, fun i hi _ => hb.block i hi⟩ (by cases v.ownBlock <;> simp)
theorem OR.other {w w1 : World} {base : Nat} {v : Value} {xs : List α} {row : Option Nat} (h : OR T w base v xs) (hg : w.grownBy w1 row) (hne : v.ownBlock = none ∨ v.ownBlock ≠ row) : OR T w1 base v xs := World.ownsRow.kept h hg hne
theorem OR.nil (w : World) (base : Nat) : OR T w base (.slice none 0 0) [] := ⟨by simp [Ty.all], .inl ⟨rfl, rfl⟩⟩
theorem OR.lower {w : World} {base base' : Nat} {v : Value} {xs : List α} (h : OR T w base v xs) (hb : base' ≤ base) : OR T w base' v xs := by
  refine ⟨h.1, ?_⟩
  rcases h.2 with h2 | ⟨g, cap, cur, h3, h4, h5⟩
  · exact .inl h2
  · exact .inr ⟨g, cap, cur, h3, by omega, h5⟩
theorem OR.ge {w : World} {base : Nat} {v : Value} {xs : List α} (h : OR T w base v xs) : ∀ k, v.ownBlock = some k → base ≤ k ∧ k < w.heap.size := World.ownsRow.lt h

/-- A row that lay before another one was made is another one. -/
theorem OR.apart {β : Type} {T2 : Ty β} {w w1 : World} {b : Nat} {v v2 : Value} {xs : List α} {ys : List β} (h : OR T w b v xs) (h2 : OR T2 w1 w.heap.size v2 ys) : v.ownBlock = none ∨ v.ownBlock ≠ v2.ownBlock := by
  cases hv : v.ownBlock with
  | none => exact .inl rfl
  | some k =>
    refine .inr fun e => ?_
    have h3 := (OR.ge h k hv).2
    have h4 := (OR.ge h2 k e.symm).1
    omega
theorem RR.len {w : World} {v : Value} {xs : List α} (h : RR T w v xs) : ∃ A c, v = .slice A xs.length c ∧ xs.length ≤ c := by
  obtain ⟨A, c, e, h1, _⟩ := h
  exact ⟨A, c, e, h1⟩
theorem RR.nil (w : World) : RR T w (.slice none 0 0) [] := ⟨none, 0, rfl, by simp, by simp, fun h => by simp at h⟩

/-- A cut of a row that is read: the value behind it, and what it reads. -/
theorem RR.cut (T : Ty α) {t : TypeId} (ht : P.underlying t = some (.slice T.id)) {z : Value} (hinfo : (P.info? T.id).map (fun i => (i.zero, i.size, i.bytes)) = some (some z, T.sz, T.bytes))
    (A : Option Addr) (c : Nat) (xs : List α) (i j : Nat) (hij : i ≤ j) (hj : j ≤ xs.length) (hc : xs.length ≤ c) :
    ∃ A', (∀ (kl kh : IntKind) (W : World), (Instr.slice t (.slice A xs.length c) (some (.int kl (i : Int))) (some (.int kh (j : Int))) none).run P W = .ok (.slice A' (j - i) (c - i)) W) ∧
      (∀ (kl : IntKind) (W : World), j = xs.length → (Instr.slice t (.slice A xs.length c) (some (.int kl (i : Int))) none none).run P W = .ok (.slice A' (xs.length - i) (c - i)) W) ∧
      (∀ (kh : IntKind) (W : World), i = 0 → (Instr.slice t (.slice A xs.length c) none (some (.int kh (j : Int))) none).run P W = .ok (.slice A' j c) W) ∧
      ∀ w, RR T w (.slice A xs.length c) xs → RR T w (.slice A' (j - i) (c - i)) ((xs.take j).drop i) := by
  obtain ⟨i0, hi, hzz⟩ := Option.map_eq_some_iff.1 hinfo
  simp only [Prod.mk.injEq] at hzz
  obtain ⟨_, hsz, _⟩ := hzz
  have hel : P.elem t = T.id := by simp [Program.elem, ht]
  have hu : P.underlying t = some (.slice (P.elem t)) := by rw [hel]; exact ht
  refine ⟨if c = i then A else A.map (·.add (i * T.sz)), fun kl kh W => ?_, fun kl W he => ?_, fun kh W he => ?_, fun w h => ?_⟩
  · rw [run_slice_lh W t A xs.length c hu kl kh (i : Int) (j : Int) (by omega) (by omega) (by omega), hel]
    simp [sizeOf, typeInfo, hi, hsz, sliced, Result.andThen]
  · rw [run_slice_l W t A xs.length c hu kl (i : Int) (by omega) (by omega), hel]
    simp [sizeOf, typeInfo, hi, hsz, sliced, Result.andThen]
  · subst he
    have ha : (A.map fun x => x.add 0) = A := by cases A <;> simp [Addr.add]
    rw [run_slice_h W t A xs.length c hu kh (j : Int) (by omega) (by omega), hel]
    simp [sizeOf, typeInfo, hi, hsz, sliced, Result.andThen, ha]
  · obtain ⟨A2, c2, e, h1, h2, h3⟩ := h
    injection e with e1 e2 e3
    subst e1; subst e3
    have hl : ((xs.take j).drop i).length = j - i := by rw [List.length_drop, List.length_take]; omega
    refine ⟨if c = i then A else A.map (·.add (i * T.sz)), c - i, by rw [hl], by omega, by omega, fun hp => ?_⟩
    obtain ⟨ad, rfl, hcell⟩ := h3 (by omega)
    rw [if_neg (by omega)]
    refine ⟨ad.add (i * T.sz), rfl, fun k u hk => ?_⟩
    have ha : (ad.add (i * T.sz)).add k = ad.add (i * T.sz + k) := by
      unfold Addr.add
      by_cases h1 : i * T.sz = 0 <;> by_cases h2 : k = 0 <;> simp [h1, h2, Nat.add_assoc]
    rw [ha]
    refine hcell _ _ ?_
    rw [← Ty.all_drop, List.getElem?_drop, ← Ty.all_take, List.getElem?_take] at hk
    split at hk
    · exact hk
    · cases hk

/-- An element that is read. -/
theorem RR.at_ {w : World} {A : Option Addr} {n c : Nat} {xs : List α} (h : RR T w (.slice A n c) xs) (i : Nat) (hi : i < xs.length) :
    ∃ ad, A = some ad ∧ ∀ j u, (T.enc xs[i])[j]? = some u → w.cell? (ad.add (i * T.sz + j)) = some u := by
  obtain ⟨A2, c2, e, h1, h2, h3⟩ := h
  injection e with e1 e2 e3
  subst e1
  obtain ⟨ad, rfl, hcell⟩ := h3 (by omega)
  refine ⟨ad, rfl, fun j u hj => hcell _ _ ?_⟩
  have hlt : j < T.sz := by have := (List.getElem?_eq_some_iff.1 hj).1; rwa [T.hlen] at this
  rw [Ty.all_get xs i hi j hlt]
  exact hj

/-- Every block from B on is the call's own or new: two steps. -/
theorem below_two {B : Nat} {w w1 w2 : World} (h : Below B w w1) (hB : B ≤ w1.heap.size) (k : Below w1.heap.size w1 w2) : Below B w w2 := h.trans (k.mono hB)

section
variable {ops : Array Oper} {rest : List Oper} {o : Oper} {a : Act} {Q : Exit → Act → World → Prop}

/-- append(v, x): the goal's world is that behind the variadic's box. -/
theorem wp_append1 (T : Ty α) {w0 W : World} (base : Nat) (hgd : o.guard = none) (s x : Operand) (t : TypeId) (z : Value)
    (ho : o.op = .call { callee := .builtin .append, args := #[s, x], argTypes := #[t, t] })
    (ht : P.underlying t = some (.slice T.id)) (hinfo : (P.info? T.id).map (fun i => (i.zero, i.size, i.bytes)) = some (some z, T.sz, T.bytes)) (hz : z.cells.size = T.sz)
    (v : Value) (xs : List α) (y : α) (cs : Array Value) (hs : a.eval s = v) (hx : a.eval x = .slice (some ⟨W.heap.size, 0, none⟩) 1 1)
    (hy : cs.toList = T.enc y)
    (HO : OR T W base v xs) (HB : Below base w0 W) (hbase : base ≤ W.heap.size) (hl : (xs.length + 1) * T.bytes ≤ 140737488355328)
    (h : ∀ v1 w1, OR T w1 base v1 (xs ++ [y]) → Below base w0 w1 → W.grownBy w1 v.ownBlock → (v1.ownBlock = v.ownBlock ∨ ∃ b, v1.ownBlock = some b ∧ W.heap.size ≤ b) → base ≤ w1.heap.size → wpList P ops Q rest (a.put o.dst v1) w1) :
    wpList P ops Q (o :: rest) a (W.alloc (.cells cs T.id)) := by
  obtain ⟨i0, hi, hzz⟩ := Option.map_eq_some_iff.1 hinfo
  simp only [Prod.mk.injEq] at hzz
  obtain ⟨hz0, hz1, hz2⟩ := hzz
  have hlen : xs.length + 1 ≤ 140737488355328 := Nat.le_trans (Nat.le_mul_of_pos_right _ T.hby) hl
  refine wpList_append_own_at (W.alloc (.cells cs T.id)) hgd s x t ho base T.id i0 z T.sz T.bytes ht hi hz0 hz1 hz2 hz T.hsz v xs.length (T.all xs) hs (World.ownsRow.alloc HO _) ⟨W.heap.size, 0, none⟩ 1 1 (T.enc y) hx (by rw [T.hlen]; simp)
    (by rw [← hy]; exact World.news_of_block (cs := cs) (t := T.id) (fr := (0, 0)) (heap_alloc_new W _)) (T.hone y) (by simp only [maxLen]; omega) hl (by simp; omega) ?_
  intro v1 w1 hown hg _ hat
  have hg' := World.grownBy.trans (World.grownBy_alloc W (.cells cs T.id) v.ownBlock) hg
  refine h v1 w1 (by unfold OR; rw [List.length_append, Ty.all_append, Ty.all_one]; exact hown) ((HB.alloc hbase _).grown hg (by simp; omega) (fun k hk => (OR.ge HO k hk).1)) hg' ?_ (Nat.le_trans hbase hg'.size)
  rcases hat with hat | hat
  · exact .inl hat
  · exact .inr ⟨_, hat, by simp⟩

/-- append(v, ys...): ys a row that is read. -/
theorem wp_appendN (T : Ty α) {w0 W : World} (base : Nat) (hgd : o.guard = none) (s x : Operand) (t : TypeId) (z : Value)
    (ho : o.op = .call { callee := .builtin .append, args := #[s, x], argTypes := #[t, t] })
    (ht : P.underlying t = some (.slice T.id)) (hinfo : (P.info? T.id).map (fun i => (i.zero, i.size, i.bytes)) = some (some z, T.sz, T.bytes)) (hz : z.cells.size = T.sz)
    (v : Value) (xs ys : List α) (vy : Value) (hs : a.eval s = v) (hx : a.eval x = vy)
    (HO : OR T W base v xs) (HR : RR T W vy ys) (HB : Below base w0 W) (hbase : base ≤ W.heap.size) (hl : (xs.length + ys.length) * T.bytes ≤ 140737488355328)
    (h : ∀ v1 w1, OR T w1 base v1 (xs ++ ys) → Below base w0 w1 → W.grownBy w1 v.ownBlock → (v1.ownBlock = v.ownBlock ∨ ∃ b, v1.ownBlock = some b ∧ W.heap.size ≤ b) → base ≤ w1.heap.size → wpList P ops Q rest (a.put o.dst v1) w1) :
    wpList P ops Q (o :: rest) a W := by
  obtain ⟨i0, hi, hzz⟩ := Option.map_eq_some_iff.1 hinfo
  simp only [Prod.mk.injEq] at hzz
  obtain ⟨hz0, hz1, hz2⟩ := hzz
  have hlen : xs.length + ys.length ≤ 140737488355328 := Nat.le_trans (Nat.le_mul_of_pos_right _ T.hby) hl
  obtain ⟨A, c, rfl, hc, hm, hcell⟩ := HR
  have hrun : ∃ v1 w1, (Builtin.append_ #[t, t] o.type #[v, .slice A ys.length c]).run P W = .ok v1 w1 ∧ OR T w1 base v1 (xs ++ ys) ∧ W.grownBy w1 v.ownBlock ∧ (v1.ownBlock = v.ownBlock ∨ v1.ownBlock = some W.heap.size) := by
    rcases Nat.eq_zero_or_pos ys.length with h0 | h0
    · obtain rfl : ys = [] := List.eq_nil_of_length_eq_zero h0
      refine ⟨v, W, ?_, by simpa using HO, World.grownBy.refl W _, .inl rfl⟩
      rcases HO.2 with ⟨rfl, hn⟩ | ⟨g, cap, cur, rfl, _, hgg, hnc, _, hcs, _⟩
      · cases A <;> simp [Builtin.append_, run_underlying ht, sizeOf, typeInfo, hi, Builtin.lenOf, Builtin.firstCells, loadCells, loadCellsFrom]
      · cases A <;> simp [Builtin.append_, run_underlying ht, sizeOf, typeInfo, hi, Builtin.lenOf, Builtin.firstCells, hnc, storeCells, loadCells, loadCellsFrom]
    · obtain ⟨ad, rfl, hcc⟩ := hcell h0
      obtain ⟨v1, w1, h1, h2, h3, _, h5⟩ := run_append_own_at (P := P) W base t o.type T.id i0 z T.sz T.bytes ht hi hz0 hz1 hz2 hz T.hsz v xs.length (T.all xs) HO ad ys.length c (T.all ys) (Ty.all_length ys) hcc (Ty.all_oneCell ys) (by simp only [maxLen]; omega) hl hbase
      exact ⟨v1, w1, h1, by unfold OR; rw [List.length_append, Ty.all_append]; exact h2, h3, h5⟩
  obtain ⟨v1, w1, h1, h2, h3, h4⟩ := hrun
  refine wpList_plain hgd fun K hK => ?_
  unfold Oper.wp execOp
  simp only [ho, resolve, invoke, builtin, Sem.run_bind, Sem.run_pure, Result.andThen_ok, List.map_toArray, List.map_cons, List.map_nil, hs, hx, h1]
  refine hK _ _ (h v1 w1 h2 (HB.grown h3 hbase (fun k hk => (OR.ge HO k hk).1)) h3 ?_ (Nat.le_trans hbase h3.size))
  rcases h4 with h4 | h4
  · exact .inl h4
  · exact .inr ⟨_, h4, Nat.le_refl _⟩
end

theorem grown_none {w w' : World} (h : w.grownBy w' none) : Below w.heap.size w w' := ⟨h.os, h.tape, h.output, h.size, fun k hk => h.block k hk (by simp)⟩
theorem below_grown {w w' : World} (h : Below w.heap.size w w') (row : Option Nat) : w.grownBy w' row := ⟨h.os, h.tape, h.output, h.size, fun k hk _ => h.block k hk⟩

/-! A region that draws its order, whose steps leave what was there as it was, but for the block 'row': S is always 'as in the world at hand'. -/
def wpE (P : Program) (ops : Array Oper) (Q : Exit → Act → World → Prop) (row : Option Nat) (fuel : Nat) (listed : Array Bool) (a : Act) (w : World) : Prop := wpAnyH P .any ops Q (fun w' => w.grownBy w' row) fuel listed a w
section
variable {ops : Array Oper} {Q : Exit → Act → World → Prop} {row : Option Nat}
theorem wpAnyH_imp {md : Region.Mode} {S S' : World → Prop} (hS : ∀ w, S' w → S w) : ∀ (fuel : Nat) (listed : Array Bool) (a : Act) (w : World), wpAnyH P md ops Q S' fuel listed a w → wpAnyH P md ops Q S fuel listed a w
  | 0, _, _, _, h => h
  | fuel + 1, _, _, _, h => ⟨h.1, fun i hi => wpOp_mono (fun a' w' h' => ⟨hS _ h'.1, wpAnyH_imp hS fuel _ a' w' h'.2⟩) (h.2 i hi)⟩
theorem startE (row : Option Nat) {id : Nat} {a : Act} {w : World} (hm : P.follows .mixedOrders = true) (h : wpE P ops Q row ops.size (Array.replicate ops.size false) a w.drew) : (Code.region id ops true).wp P Q a w :=
  wp_region_held_drew (S := fun w' => w.drew.grownBy w' row) hm (World.grownBy.refl _ _) (fun _ => h)
theorem takeE (i : Nat) {oi : Oper} {v : Value} {fuel : Nat} {listed : Array Bool} {a : Act} {w : World} (hi : ops.toList[i]? = some oi) (hs : Region.noSelect ops = true) (hf : Region.free .any ops listed i = true) (hr : (Region.ready .any ops listed).contains i = true)
    (hQ : ∀ c a w, Q (.panic c) (a.put oi.dst v) w → Q (.panic c) a w) (hw : Region.wanted oi (yielded ops a.tmps) = true)
    (hy : ∀ w', w.grownBy w' row → (execOp a.eval oi).run P w' = .ok (.value v) w') (h : wpE P ops Q row fuel (listed.setIfInBounds i true) (a.put oi.dst v) w) : wpE P ops Q row (fuel + 1) listed a w :=
  wpAnyH_take (by simpa using hi) hs hf hr hQ (.inl ⟨hw, hy⟩) (World.grownBy.refl _ _) h
theorem skipE (i : Nat) {oi : Oper} {fuel : Nat} {listed : Array Bool} {a : Act} {w : World} (hi : ops.toList[i]? = some oi) (hs : Region.noSelect ops = true) (hf : Region.free .any ops listed i = true) (hr : (Region.ready .any ops listed).contains i = true)
    (hQ : ∀ c a w, Q (.panic c) (a.put oi.dst undef) w → Q (.panic c) a w) (hw : Region.wanted oi (yielded ops a.tmps) = false)
    (h : wpE P ops Q row fuel (listed.setIfInBounds i true) (a.put oi.dst undef) w) : wpE P ops Q row (fuel + 1) listed a w :=
  wpAnyH_take (by simpa using hi) hs hf hr hQ (.inr ⟨hw, rfl⟩) (World.grownBy.refl _ _) h
theorem stepE (i : Nat) {oi : Oper} {fuel : Nat} {listed : Array Bool} {a : Act} {w : World} (hi : ops.toList[i]? = some oi) (hr : Region.ready .any ops listed = [i]) (hw : Region.wanted oi (yielded ops a.tmps) = true)
    (h : ∀ K : Act → World → Prop, Shut (∀ a' w', w.grownBy w' row → wpE P ops Q row fuel (listed.setIfInBounds i true) a' w' → K a' w') → oi.wp P a w K Q) : wpE P ops Q row (fuel + 1) listed a w :=
  wpAnyH_ready hr (by simp) (AllReadyH.cons (by simpa using hi) (fun K hK => by rw [if_pos hw]; exact h K (fun a' w' hb he => hK a' w' hb (fun _ => wpAnyH_imp (fun w2 h2 => World.grownBy.trans hb h2) _ _ _ _ he))) AllReadyH.nil)
/-- Behind a step that only makes memory: on with the walk. -/
theorem K_out {P : Program} {fuel : Nat} {listed : Array Bool} {K : Act → World → Prop} {a' : Act} {w w' : World} (hK : Shut (∀ a' w', w.grownBy w' row → wpE P ops Q row fuel listed a' w' → K a' w')) (hb : Below w.heap.size w w')
    (h : wpE P ops Q row fuel listed a' w') : K a' w' := hK.out a' w' (below_grown hb row) h
theorem doneE {fuel : Nat} {listed : Array Bool} {a : Act} {w : World} (hr : Region.ready .any ops listed = []) (h : Q .normal a w) : wpE P ops Q row fuel listed a w := wpAnyH_done hr h fuel
end

/-- A literal row. -/
theorem OR.lit (T : Ty α) (w : World) (base : Nat) (xs : List α) (cs : Array Value) (hcs : cs.toList = T.all xs) (hb : base ≤ w.heap.size) (hm : xs.length ≤ 9223372036854775807) :
    OR T (w.alloc (.cells cs T.id)) base (.slice (some ⟨w.heap.size, 0, none⟩) xs.length xs.length) xs := by
  have h := World.ownsRow_lit (base := base) (e := T.id) (size := T.sz) w cs xs.length hb (by simpa [maxLen] using hm) (by rw [← Array.length_toList, hcs, Ty.all_length])
  unfold OR
  rw [hcs] at h
  exact h

/-! Bytes. -/
abbrev cb (x : UInt8) : Value := .int .u8 (x.toNat : Int)
def U8 (e : Nat) : Ty UInt8 where
  id := e
  sz := 1
  bytes := 1
  zero := .int .u8 0
  enc := fun x => [cb x]
  hlen := fun _ => rfl
  hone := fun x u hu => by simp at hu; subst hu; rfl
  hsz := by omega
  hby := by omega
theorem U8_all (e : Nat) (xs : List UInt8) : (U8 e).all xs = xs.map cb := by
  unfold Ty.all U8
  induction xs with
  | nil => rfl
  | cons x xs ih => simp [List.flatMap_cons, ih]

def str (xs : List UInt8) : ByteArray := ⟨xs.toArray⟩
@[simp, go_sem] theorem str_toList (xs : List UInt8) : (str xs).toList = xs := ByteArray.toList_mk xs
theorem str_inj {xs ys : List UInt8} (h : str xs = str ys) : xs = ys := by
  unfold str at h
  injection h with h
  simpa using congrArg Array.toList h

/-- string(v). -/
theorem RR.string {e : Nat} {w : World} {v : Value} {xs : List UInt8} (h : RR (U8 e) w v xs) {src dst e' : TypeId} (hs : P.underlying src = some (.slice e')) (he : P.underlying e' = some (.int .u8)) (hd : P.underlying dst = some .string) :
    (convert src dst v).run P w = .ok (.string (str xs)) w := by
  obtain ⟨A, c, rfl, hc, hm, hcell⟩ := h
  rcases Nat.eq_zero_or_pos xs.length with h0 | h0
  · obtain rfl : xs = [] := List.eq_nil_of_length_eq_zero h0
    rw [run_convert_bytes_string w src dst e' _ _ c hs he hd]
    cases A <;> simp [Conv.bytesToString, str, loadCells, loadCellsFrom, ByteArray.empty, ByteArray.emptyWithCapacity] <;> rfl
  · obtain ⟨ad, rfl, hcc⟩ := hcell h0
    have hl : (loadCells ad xs.length).run P w = .ok (xs.map cb).toArray w := by
      have := run_loadCells_list (P := P) w ad (xs.map cb) (fun j v hj => hcc j v (by rw [U8_all]; exact hj))
      simpa using this
    have hl2 : (xs.map cb) = (xs.map fun x => ((x.toNat : Int))).map (Value.int .u8) := by simp [cb]
    rw [hl2] at hl
    rw [run_convert_bytes_string w src dst e' _ _ c hs he hd, run_bytesToString w _ xs.length c (xs.map fun x => ((x.toNat : Int))) hl, foldl_push_bytes]
    simp [str, ByteArray.empty, ByteArray.emptyWithCapacity, Function.comp_def]
    rfl
end Go.Proofs.Ytbglebchnlfklaa

namespace Go.Proofs.Ytbglebchnlfklaa
set_option maxRecDepth 100000
open Go.RowKit
variable {P : Program} {α : Type}

/-- Two values of a type are told apart by '=='. -/
structure EqT (P : Program) (t : TypeId) (n : Nat) (ag : Bool) (D : Nat) (enc : α → List Value) (val : α → Value) (eq : α → α → Bool) : Prop where
  isAg : ∀ w, (isAgg t).run P w = .ok ag w
  size : ∀ w, (sizeOf t).run P w = .ok n w
  len : ∀ x, (enc x).length = n
  vals : ∀ x, val x = if ag = true then .agg (enc x).toArray else (enc x).headD undef
  one : ag = false → n = 1
  eqs : ∀ d w x y, (Op.equalIn (d + D) t (val x) (val y)).run P w = .ok (eq x y) w

theorem EqT.part {t : TypeId} {n D : Nat} {ag : Bool} {enc : α → List Value} {val : α → Value} {eq : α → α → Bool} (h : EqT P t n ag D enc val eq) (cs : List Value) (off : Nat) (x : α) (hx : (cs.drop off).take n = enc x) (hl : off + n ≤ cs.length) (w : World) :
    (part t cs.toArray off).run P w = .ok (val x) w := by
  unfold Go.part
  rw [Sem.run_bind, h.isAg w, Result.andThen_ok]
  cases ag with
  | true =>
    simp only [if_true, Sem.run_bind, h.size w, Result.andThen_ok, Sem.run_pure]
    rw [h.vals x, if_pos rfl, ← hx]
    congr 2
    apply Array.toList_inj.mp
    simp
  | false =>
    have hn := h.one rfl
    subst hn
    have hlt : off < cs.length := by omega
    have e1 : cs.toArray[off]? = some (val x) := by
      rw [h.vals x]
      simp only [Bool.false_eq_true, if_false, List.getElem?_toArray]
      rw [← hx, List.getElem?_eq_getElem hlt, List.drop_eq_getElem_cons hlt]
      rfl
    simp only [Bool.false_eq_true, if_false]
    rw [e1]
    simp

theorem flatMap_len {enc : α → List Value} {n : Nat} (h : ∀ x, (enc x).length = n) (xs : List α) : (xs.flatMap enc).length = xs.length * n := by
  induction xs with
  | nil => simp
  | cons x xs ih => simp [ih, h, Nat.succ_mul, Nat.add_comm]
theorem flatMap_at {enc : α → List Value} {n : Nat} (h : ∀ x, (enc x).length = n) : ∀ (xs : List α) (i : Nat) (hi : i < xs.length), ((xs.flatMap enc).drop (i * n)).take n = enc xs[i]
  | [], i, hi => by simp at hi
  | x :: xs, 0, _ => by simp [h]
  | x :: xs, i + 1, hi => by
    rw [List.flatMap_cons, Nat.succ_mul, Nat.add_comm, ← List.drop_drop, List.drop_left' (h x), flatMap_at h xs i (by simpa using hi)]
    rfl
theorem all_range_zip {eq : α → α → Bool} : ∀ (xs ys : List α), xs.length = ys.length → ((xs.zip ys).all fun p => eq p.1 p.2) = (List.range xs.length).all fun i => match xs[i]?, ys[i]? with | some a, some b => eq a b | _, _ => true
  | [], [], _ => rfl
  | [], _ :: _, h => by simp at h
  | _ :: _, [], h => by simp at h
  | x :: xs, y :: ys, h => by
    rw [List.length_cons, List.range_succ_eq_map, List.all_cons, List.all_map, List.zip_cons_cons, List.all_cons, all_range_zip xs ys (by simpa using h)]
    rfl

theorem EqT.arr {t e : TypeId} {n m D : Nat} {ag : Bool} {enc : α → List Value} {val : α → Value} {eq : α → α → Bool} (h : EqT P e n ag D enc val eq) (ht : P.underlying t = some (.array m e))
    (d : Nat) (w : World) (xs ys : List α) (hx : xs.length = m) (hy : ys.length = m) :
    (Op.equalIn (d + (D + 1)) t (.agg (xs.flatMap enc).toArray) (.agg (ys.flatMap enc).toArray)).run P w = .ok ((xs.zip ys).all fun p => eq p.1 p.2) w := by
  rw [all_range_zip xs ys (by omega), hx, List.range_eq_range', ← Nat.add_assoc, Op.equalIn]
  simp only [Sem.run_bind, run_underlying ht, Result.andThen_ok, h.size, Std.Legacy.Range.forIn_eq_forIn_range', Std.Legacy.Range.size, Nat.sub_zero, Nat.add_sub_cancel, Nat.div_one]
  have hl : ∀ i ∈ List.range' 0 m 1, i < m := fun i hi => by simpa using (List.mem_range'_1.1 hi).2
  generalize List.range' 0 m 1 = l at hl ⊢
  induction l with
  | nil => simp
  | cons i l ih =>
    have hi : i < m := hl i (by simp)
    have hix : i < xs.length := by omega
    have hiy : i < ys.length := by omega
    have hmul : i * n + n ≤ m * n := by rw [← Nat.succ_mul]; exact Nat.mul_le_mul_right _ hi
    have px := h.part (xs.flatMap enc) (i * n) xs[i] (flatMap_at h.len xs i hix) (by rw [flatMap_len h.len, hx]; exact hmul) w
    have py := h.part (ys.flatMap enc) (i * n) ys[i] (flatMap_at h.len ys i hiy) (by rw [flatMap_len h.len, hy]; exact hmul) w
    have pe := h.eqs d w xs[i] ys[i]
    simp only [List.forIn_cons, Sem.run_bind, px, py, pe, Result.andThen_ok, List.all_cons, List.getElem?_eq_getElem hix, List.getElem?_eq_getElem hiy]
    cases hb : eq xs[i] ys[i]
    · simp
    · simp only [Bool.not_true, Bool.false_eq_true, if_false, Sem.run_pure, Result.andThen_ok, Bool.true_and]
      exact ih fun j hj => hl j (by simp [hj])
theorem zip_all_eq [BEq α] [LawfulBEq α] : ∀ (xs ys : List α), xs.length = ys.length → ((xs.zip ys).all fun p => p.1 == p.2) = (xs == ys)
  | [], [], _ => rfl
  | [], _ :: _, h => by simp at h
  | _ :: _, [], h => by simp at h
  | x :: xs, y :: ys, h => by rw [List.zip_cons_cons, List.all_cons, zip_all_eq xs ys (by simpa using h), List.cons_beq_cons]

/-- Whole numbers of one cell. -/
theorem EqT.int (t : TypeId) (k : IntKind) (ht : P.underlying t = some (.int k)) (hs : ∀ w, (sizeOf t).run P w = .ok 1 w) (num : α → Int) :
    EqT P t 1 false 1 (fun x => [.int k (num x)]) (fun x => .int k (num x)) (fun x y => num x == num y) where
  isAg w := by unfold isAgg; rw [Sem.run_bind, run_underlying ht w]; rfl
  size := hs
  len x := rfl
  vals x := rfl
  one _ := rfl
  eqs d w x y := run_equalIn_int w d t k k _ _ ht

/-- Rows of so many elements. -/
abbrev RowOf (α : Type) (m : Nat) := { l : List α // l.length = m }
theorem EqT.row {t e : TypeId} {n m D : Nat} {ag : Bool} {enc : α → List Value} {val : α → Value} {eq : α → α → Bool} (h : EqT P e n ag D enc val eq) (ht : P.underlying t = some (.array m e)) (hs : ∀ w, (sizeOf t).run P w = .ok (m * n) w) :
    EqT P t (m * n) true (D + 1) (fun l : RowOf α m => l.1.flatMap enc) (fun l => .agg (l.1.flatMap enc).toArray) (fun x y => (x.1.zip y.1).all fun p => eq p.1 p.2) where
  isAg w := by unfold isAgg; rw [Sem.run_bind, run_underlying ht w]; rfl
  size := hs
  len x := by rw [flatMap_len h.len, x.2]
  vals x := rfl
  one h := by cases h
  eqs d w x y := h.arr ht d w x.1 y.1 x.2 y.2
/-- Fields by name, type and place. -/
def eqF (d : Nat) (xs ys : Array Value) : List (String × TypeId × Nat) → Sem Bool
  | [] => pure true
  | f :: fs =>
    if f.1 ≠ "_" then do
      let a ← part f.2.1 xs f.2.2
      let b ← part f.2.1 ys f.2.2
      let r ← Op.equalIn d f.2.1 a b
      if (!r) = true then pure false else eqF d xs ys fs
    else eqF d xs ys fs
theorem eqFields_eq (d : Nat) (xs ys : Array Value) : ∀ fs : List Field, Op.eqFields d xs ys fs = eqF d xs ys (fs.map fun f => (f.name, f.type, f.offset))
  | [] => rfl
  | f :: fs => by rw [Op.eqFields, List.map_cons, eqF, eqFields_eq d xs ys fs]
/-- One field of a struct. -/
theorem eqF_cons {β : Type} {n D : Nat} {ag : Bool} {enc : β → List Value} {val : β → Value} {eq : β → β → Bool} (name : String) (t : TypeId) (o : Nat) (fs : List (String × TypeId × Nat)) (h : EqT P t n ag D enc val eq) (hn : name ≠ "_") (d : Nat) (hD : D ≤ d) (xs ys : List Value) (x y : β)
    (hx : (xs.drop o).take n = enc x) (hy : (ys.drop o).take n = enc y) (hl : o + n ≤ xs.length) (hl2 : o + n ≤ ys.length) (w : World) (r : Bool) (hr : (eqF d xs.toArray ys.toArray fs).run P w = .ok r w) :
    (eqF d xs.toArray ys.toArray ((name, t, o) :: fs)).run P w = .ok (eq x y && r) w := by
  obtain ⟨d, rfl⟩ : ∃ k, d = k + D := ⟨d - D, by omega⟩
  rw [eqF, if_pos hn]
  simp only [Sem.run_bind, h.part xs o x hx hl w, h.part ys o y hy hl2 w, h.eqs d w x y, Result.andThen_ok]
  cases eq x y
  · simp
  · simp [hr]
theorem eqF_nil (d : Nat) (xs ys : Array Value) (w : World) : (eqF d xs ys []).run P w = .ok true w := by simp [eqF]
end Go.Proofs.Ytbglebchnlfklaa

namespace Go.Proofs.Ytbglebchnlfklaa
set_option maxRecDepth 100000
open Go.RowKit
variable {P : Program} {α : Type}

/-- Block b holds cs. -/
def VA (w : World) (b : Nat) (t : TypeId) (cs : List Value) : Prop := w.heap[b]? = some (.cells cs.toArray t (0, 0))
theorem VA.lt {w : World} {b : Nat} {t : TypeId} {cs : List Value} (h : VA w b t cs) : b < w.heap.size := by
  rcases Nat.lt_or_ge b w.heap.size with h2 | h2
  · exact h2
  · rw [VA, Array.getElem?_eq_none h2] at h; cases h
theorem VA.grown {w w1 : World} {b : Nat} {t : TypeId} {cs : List Value} {row : Option Nat} (h : VA w b t cs) (hg : w.grownBy w1 row) (hne : some b ≠ row) : VA w1 b t cs := (hg.block b h.lt hne).trans h
theorem VA.below {w w1 : World} {b : Nat} {t : TypeId} {cs : List Value} (h : VA w b t cs) (hb : Below w.heap.size w w1) : VA w1 b t cs := (hb.block b h.lt).trans h
theorem VA.cell {w : World} {b : Nat} {t : TypeId} {cs : List Value} (h : VA w b t cs) (i : Nat) : w.cell? ⟨b, i, none⟩ = cs[i]? := by
  unfold World.cell?
  rw [show (⟨b, i, none⟩ : Addr).block = b from rfl, h]
  simp
theorem VA.frozen {w : World} {b : Nat} {t : TypeId} {cs : List Value} (h : VA w b t cs) (i : Nat) : w.frozen? ⟨b, i, none⟩ = false := by
  unfold World.frozen?
  rw [show (⟨b, i, none⟩ : Addr).block = b from rfl, h]
  simp
theorem VA.range {w : World} {b : Nat} {t : TypeId} {cs : List Value} (h : VA w b t cs) (o : Nat) (xs : List Value) (hx : (cs.drop o).take xs.length = xs) : w.rangeAt b o xs := fun j v hv => by
  rw [h.cell, ← hv, ← hx, List.getElem?_take, List.getElem?_drop]
  have := (List.getElem?_eq_some_iff.1 hv).1
  rw [if_pos this]
theorem VA.all {w : World} {b : Nat} {t : TypeId} {cs : List Value} (h : VA w b t cs) : w.rangeAt b 0 cs := h.range 0 cs (by simp)
theorem VA.new (w : World) (cs : List Value) (t : TypeId) : VA (w.alloc (.cells cs.toArray t)) w.heap.size t cs := heap_alloc_new w _
theorem RR.range {T : Ty α} {w : World} {b o : Nat} {xs : List α} (h : w.rangeAt b o (T.all xs)) (hm : xs.length ≤ 9223372036854775807) : RR T w (.slice (some ⟨b, o, none⟩) xs.length xs.length) xs :=
  ⟨some ⟨b, o, none⟩, xs.length, rfl, Nat.le_refl _, by simpa [maxLen] using hm, fun _ => ⟨_, rfl, fun j v hv => by rw [Addr.add_mid]; exact h j v hv⟩⟩

section
variable {ops : Array Oper} {rest : List Oper} {o o1 o2 : Oper} {a : Act} {Q : Exit → Act → World → Prop} {w w' : World} {ρ : Operand → Value}

/-- An operation that yields a value. -/
theorem stepV {v : Value} (hr : (execOp a.eval o).run P w = .ok (.value v) w') (hw : Region.wanted o (yielded ops a.tmps) = true) (h : wpList P ops Q rest (a.put o.dst v) w') : wpList P ops Q (o :: rest) a w :=
  wpList_step fun K hK => by
    rw [if_pos hw]
    unfold Oper.wp
    rw [hr]
    exact hK _ _ h
theorem stepS (hr : (execOp a.eval o).run P w = .ok .skip w') (hw : Region.wanted o (yielded ops a.tmps) = true) (h : wpList P ops Q rest (a.put o.dst undef) w') : wpList P ops Q (o :: rest) a w :=
  wpList_step fun K hK => by
    rw [if_pos hw]
    unfold Oper.wp
    rw [hr]
    exact hK _ _ h

theorem exec_load (t : TypeId) (x : Operand) (ho : o.op = .load t x) (b off : Nat) (hx : ρ x = .pointer (some ⟨b, off, none⟩)) (cs : List Value) (d : TypeDesc) (hc : w.rangeAt b off cs)
    (hu : P.underlying t = some d) (hd : d.isRow = true) (hi : (P.info? t).map (·.size) = some cs.length) : (execOp ρ o).run P w = .ok (.value (.agg cs.toArray)) w := by
  unfold execOp
  simp only [ho, hx, run_loadAt_mid w b off t cs d hc hu hd hi, Sem.run_bind, Sem.run_pure, Result.andThen_ok]
theorem run_loadAt_any (w : World) (ad : Addr) (ty : TypeId) (cs : List Value) (d : TypeDesc) (hc : ∀ (j : Nat) (v : Value), cs[j]? = some v → w.cell? (ad.add j) = some v)
    (hu : P.underlying ty = some d) (hd : d.isRow = true) (hi : (P.info? ty).map (·.size) = some cs.length) : (Instr.loadAt ty (.pointer (some ad))).run P w = .ok (.agg cs.toArray) w := by
  have hl : (loadCells ad cs.length).run P w = .ok cs.toArray w := run_loadCells_list (P := P) w ad cs hc
  have hv : (loadVar ty ad).run P w = .ok (.agg cs.toArray) w := by
    cases hq : P.info? ty with
    | none => simp [hq] at hi
    | some i =>
      have hs : i.size = cs.length := by simpa [hq] using hi
      have hagg : (isAgg ty).run P w = .ok true w := by
        unfold isAgg
        rw [Sem.run_bind, run_underlying hu w]
        cases d <;> simp_all
      simp [loadVar, Sem.run_bind, hagg, sizeOf, typeInfo, hq, hs, hl]
  simp only [Instr.loadAt, Instr.sureAddr, Sem.run_bind, Sem.run_pure, Result.andThen_ok, hv]
theorem exec_loadA (t : TypeId) (x : Operand) (ho : o.op = .load t x) (ad : Addr) (hx : ρ x = .pointer (some ad)) (cs : List Value) (d : TypeDesc) (hc : ∀ (j : Nat) (v : Value), cs[j]? = some v → w.cell? (ad.add j) = some v)
    (hu : P.underlying t = some d) (hd : d.isRow = true) (hi : (P.info? t).map (·.size) = some cs.length) : (execOp ρ o).run P w = .ok (.value (.agg cs.toArray)) w := by
  unfold execOp
  simp only [ho, hx, run_loadAt_any w ad t cs d hc hu hd hi, Sem.run_bind, Sem.run_pure, Result.andThen_ok]
theorem exec_arrptr (arr : TypeId) (x : Operand) (ho : o.op = .sliceToArrayPointer arr x) (n : Nat) (e : TypeId) (ht : P.underlying arr = some (.array n e)) (A : Option Addr) (len c : Nat) (hx : ρ x = .slice A len c) (hl : n ≤ len) : (execOp ρ o).run P w = .ok (.value (.pointer A)) w := by
  have h : ¬ len < n := by omega
  unfold execOp
  simp only [ho, hx, Instr.arrayAt, Sem.run_bind, run_underlying ht, Result.andThen_ok, if_neg h, Sem.run_pure]
theorem exec_build (t : TypeId) (parts : Array (Nat × Operand)) (ho : o.op = .build t parts) (cs : List Value) (h : P.built t (parts.map fun (i, x) => (i, ρ x)).toList = some cs.toArray) : (execOp ρ o).run P w = .ok (.value (.agg cs.toArray)) w := by
  unfold execOp
  simp only [ho, run_build w _ _ _ h, Sem.run_bind, Sem.run_pure, Result.andThen_ok]
theorem exec_buildL (t : TypeId) (parts : List (Nat × Operand)) (ho : o.op = .build t parts.toArray) (vals : List (Nat × Value)) (hv : parts.map (fun x => (x.1, ρ x.2)) = vals) (cs : List Value) (h : P.built t vals = some cs.toArray) : (execOp ρ o).run P w = .ok (.value (.agg cs.toArray)) w :=
  exec_build t parts.toArray ho cs (by subst hv; simpa using h)
theorem exec_zero (t : TypeId) (ho : o.op = .build t #[]) (cs : List Value) (h : P.built t [] = some cs.toArray) : (execOp ρ o).run P w = .ok (.value (.agg cs.toArray)) w :=
  exec_build t #[] ho cs (by simpa using h)
theorem exec_eql (t tx : TypeId) (x y : Operand) (ho : o.op = .binOp .eql t x y tx) (xs ys : Array Value) (hx : ρ x = .agg xs) (hy : ρ y = .agg ys) (hm : P.eqGuardType P.depth t = false) (r : Bool) (h : (binOp .eql t (.agg xs) (.agg ys)).run P w = .ok (.bool r) w) :
    (execOp ρ o).run P w = .ok (.value (.bool r)) w := by
  unfold execOp
  simp only [ho, hx, hy, run_eqGuard_agg w _ _ _ _ _ _ hm, h, Sem.run_bind, Sem.run_pure, Result.andThen_ok]
theorem exec_neq (t tx : TypeId) (x y : Operand) (ho : o.op = .binOp .neq t x y tx) (xs ys : Array Value) (hx : ρ x = .agg xs) (hy : ρ y = .agg ys) (hm : P.eqGuardType P.depth t = false) (r : Bool) (h : (binOp .eql t (.agg xs) (.agg ys)).run P w = .ok (.bool r) w) :
    (execOp ρ o).run P w = .ok (.value (.bool (!r))) w := by
  have h2 : (binOp .neq t (.agg xs) (.agg ys)).run P w = .ok (.bool (!r)) w := by
    rw [run_neq_struct]
    rw [run_eql_struct] at h
    generalize (Op.equalIn 10000 t (.agg xs) (.agg ys)).run P w = q at h ⊢
    cases q with
    | ok b w2 => simp only [Result.andThen_ok] at h ⊢; cases h; rfl
    | halt x w2 => simp [Result.andThen] at h
  unfold execOp
  simp only [ho, hx, hy, run_eqGuard_agg w _ _ _ _ _ _ hm, h2, Sem.run_bind, Sem.run_pure, Result.andThen_ok]
theorem exec_index {e : TypeId} {m n D : Nat} {ag : Bool} {enc : α → List Value} {val : α → Value} {eq : α → α → Bool} (h : EqT P e n ag D enc val eq) (t : TypeId) (x y : Operand) (ho : o.op = .index t x y) (ht : P.underlying t = some (.array m e)) (xs : List α) (hx : ρ x = .agg (xs.flatMap enc).toArray) (hl : xs.length = m)
    (i : Nat) (k : IntKind) (hy : ρ y = .int k (i : Int)) (hi : i < xs.length) : (execOp ρ o).run P w = .ok (.value (val xs[i])) w := by
  have h1 : 0 ≤ (i : Int) ∧ (i : Int) < (m : Int) := by omega
  have hmul : i * n + n ≤ xs.length * n := by rw [← Nat.succ_mul]; exact Nat.mul_le_mul_right _ hi
  have hp := h.part (xs.flatMap enc) (i * n) xs[i] (flatMap_at h.len xs i hi) (by rw [flatMap_len h.len]; exact hmul) w
  unfold execOp
  simp only [ho, hx, hy, Instr.index, asIntOf, Sem.run_bind, Sem.run_pure, Result.andThen_ok, run_underlying ht, if_pos h1, Sem.run_ite, h.size, Int.toNat_natCast, hp]
theorem exec_box (t : TypeId) (x : Operand) (ho : o.op = .box t x) (cs : List Value) (hx : ρ x = .agg cs.toArray) : (execOp ρ o).run P w = .ok (.value (.pointer (some ⟨w.heap.size, 0, none⟩))) (w.alloc (.cells cs.toArray t)) := by
  unfold execOp
  simp only [ho, hx]
  rfl
theorem exec_alloc (t : TypeId) (ho : o.op = .alloc t) (z : Value) (cs : List Value) (hz : (P.info? t).map (·.zero) = some (some z)) (hc : z.cells = cs.toArray) : (execOp ρ o).run P w = .ok (.value (.pointer (some ⟨w.heap.size, 0, none⟩))) (w.alloc (.cells cs.toArray t)) := by
  cases hq : P.info? t with
  | none => simp [hq] at hz
  | some i =>
    simp only [hq, Option.map_some, Option.some.injEq] at hz
    unfold execOp
    simp only [ho, Instr.alloc, zeroValue, typeInfo, Sem.run_bind, run_program, Sem.run_pure, Result.andThen_ok, hq, hz, newVar, newRow, hc]
    rfl
theorem exec_store (t : TypeId) (x y : Operand) (ho : o.op = .store t x y) (b : Nat) (hx : ρ x = .pointer (some ⟨b, 0, none⟩)) (cs old : List Value) (hy : ρ y = .agg cs.toArray) (t2 : TypeId) (hv : VA w b t2 old) (hi : (P.info? t).map (·.size) = some cs.length) (hl : old.length = cs.length) (h1 : ∀ v ∈ cs, v.oneCell' = true) :
    (execOp ρ o).run P w = .ok .skip (w.setRow b cs.toArray) := by
  unfold execOp
  simp only [ho, hx, hy, Instr.storeAt, Instr.sureAddr, Sem.run_bind, Sem.run_pure, Result.andThen_ok, run_storeVar_row w b t2 t old.toArray cs.toArray hv (by simpa using hi) (by simpa using hl) (all_oneCell_toArray h1)]

theorem VA.set {w : World} {b : Nat} {t : TypeId} {old : List Value} (h : VA w b t old) (cs : List Value) : VA (w.setRow b cs.toArray) b t cs := setRow_heap w b old.toArray cs.toArray t (0, 0) h
theorem setRow_grown (w : World) (b : Nat) (cs : Array Value) : w.grownBy (w.setRow b cs) (some b) := ⟨rfl, rfl, rfl, by simp, fun k _ hk => by
  simp only [World.setRow, Array.getElem?_modify]
  rw [if_neg (fun e => hk (by rw [e]))]⟩
theorem alloc_belowAt (w : World) (o : Obj) : Below w.heap.size w (w.alloc o) := (Below.refl _ _).alloc (Nat.le_refl _) _

theorem run_loadVar_va {w : World} {b : Nat} {t2 : TypeId} {cs : List Value} (hv : VA w b t2 cs) (t : TypeId) (d : TypeDesc) (hu : P.underlying t = some d) (hd : d.isRow = true) (hi : (P.info? t).map (·.size) = some cs.length) : (loadVar t ⟨b, 0, none⟩).run P w = .ok (.agg cs.toArray) w :=
  run_loadVar_mid w b 0 t cs d hv.all hu hd hi
theorem results_cell {fn : Func} {d : Tmp} {t : TypeId} (h : fn.results = #[.cell d t]) (tmps : Array Value) {w : World} {b : Nat} {t2 : TypeId} {cs : List Value} (hv : VA w b t2 cs) (hp : tmps.getD d undef = .pointer (some ⟨b, 0, none⟩)) (td : TypeDesc) (hu : P.underlying t = some td) (hd : td.isRow = true) (hi : (P.info? t).map (·.size) = some cs.length) :
    (results fn tmps).run P w = .ok (.agg cs.toArray) w := by
  have hp2 : tmps[d]?.getD undef = .pointer (some ⟨b, 0, none⟩) := by rw [← hp]; simp
  simp [results, h, hp2, asAddr, run_loadVar_va hv t td hu hd hi]
theorem results_cell_tmp {fn : Func} {d e : Tmp} {t : TypeId} (h : fn.results = #[.cell d t, .tmp e]) (tmps : Array Value) {w : World} {b : Nat} {t2 : TypeId} {cs : List Value} (hv : VA w b t2 cs) (hp : tmps.getD d undef = .pointer (some ⟨b, 0, none⟩)) (td : TypeDesc) (hu : P.underlying t = some td) (hd : td.isRow = true) (hi : (P.info? t).map (·.size) = some cs.length) :
    (results fn tmps).run P w = .ok (.tuple #[.agg cs.toArray, tmps.getD e undef]) w := by
  have hp2 : tmps[d]?.getD undef = .pointer (some ⟨b, 0, none⟩) := by rw [← hp]; simp
  simp [results, h, hp2, asAddr, run_loadVar_va hv t td hu hd hi]
/-- A variable is made, and a value laid into it. -/
theorem wpVar (t : TypeId) (ho1 : o1.op = .alloc t) (z : Value) (zs : List Value) (hz : (P.info? t).map (·.zero) = some (some z)) (hc : z.cells = zs.toArray) (d : Nat) (y : Operand) (ho2 : o2.op = .store t (.tmp d) y) (cs : List Value)
    (hx : (a.put o1.dst (.pointer (some ⟨w.heap.size, 0, none⟩))).eval (.tmp d) = .pointer (some ⟨w.heap.size, 0, none⟩))
    (hy : (a.put o1.dst (.pointer (some ⟨w.heap.size, 0, none⟩))).eval y = .agg cs.toArray) (hl : zs.length = cs.length) (hi : (P.info? t).map (·.size) = some cs.length) (h1 : ∀ v ∈ cs, v.oneCell' = true)
    (hw1 : Region.wanted o1 (yielded ops a.tmps) = true) (hw2 : Region.wanted o2 (yielded ops (a.put o1.dst (.pointer (some ⟨w.heap.size, 0, none⟩))).tmps) = true)
    (h : ∀ w', VA w' w.heap.size t cs → Below w.heap.size w w' → wpList P ops Q rest ((a.put o1.dst (.pointer (some ⟨w.heap.size, 0, none⟩))).put o2.dst undef) w') : wpList P ops Q (o1 :: o2 :: rest) a w := by
  refine stepV (exec_alloc t ho1 z zs hz hc) hw1 ?_
  have hv := VA.new w zs t
  refine stepS (exec_store t (.tmp d) y ho2 w.heap.size hx cs zs hy t hv hi hl h1) hw2 ?_
  exact h _ (hv.set cs) ((alloc_belowAt w _).grown (setRow_grown _ _ _) (alloc_belowAt w _).size (fun k hk => by cases hk; exact Nat.le_refl _))
/-- A value is put into a variable of its own. -/
theorem wpBox (t : TypeId) (x : Operand) (ho : o.op = .box t x) (cs : List Value) (hx : a.eval x = .agg cs.toArray) (hw : Region.wanted o (yielded ops a.tmps) = true)
    (h : ∀ w', VA w' w.heap.size t cs → Below w.heap.size w w' → wpList P ops Q rest (a.put o.dst (.pointer (some ⟨w.heap.size, 0, none⟩))) w') : wpList P ops Q (o :: rest) a w :=
  stepV (exec_box t x ho cs hx) hw (h _ (VA.new w cs t) (alloc_belowAt w _))
/-- A variable is made. -/
theorem wpAlloc (t : TypeId) (ho : o.op = .alloc t) (z : Value) (zs : List Value) (hz : (P.info? t).map (·.zero) = some (some z)) (hc : z.cells = zs.toArray) (hw : Region.wanted o (yielded ops a.tmps) = true)
    (h : ∀ w', VA w' w.heap.size t zs → Below w.heap.size w w' → wpList P ops Q rest (a.put o.dst (.pointer (some ⟨w.heap.size, 0, none⟩))) w') : wpList P ops Q (o :: rest) a w :=
  stepV (exec_alloc t ho z zs hz hc) hw (h _ (VA.new w zs t) (alloc_belowAt w _))
/-- A value is laid into a variable. -/
theorem wpStore (t : TypeId) (x y : Operand) (ho : o.op = .store t x y) (b : Nat) (hx : a.eval x = .pointer (some ⟨b, 0, none⟩)) (cs old : List Value) (hy : a.eval y = .agg cs.toArray) (t2 : TypeId) (hv : VA w b t2 old) (hi : (P.info? t).map (·.size) = some cs.length) (hl : old.length = cs.length) (h1 : ∀ v ∈ cs, v.oneCell' = true)
    (hw : Region.wanted o (yielded ops a.tmps) = true) (h : ∀ w', VA w' b t2 cs → w.grownBy w' (some b) → wpList P ops Q rest (a.put o.dst undef) w') : wpList P ops Q (o :: rest) a w :=
  stepS (exec_store t x y ho b hx cs old hy t2 hv hi hl h1) hw (h _ (hv.set cs) (setRow_grown _ _ _))
/-- The same, at the operation: a step of a region that draws its order. -/
theorem opStore {K : Act → World → Prop} (t : TypeId) (x y : Operand) (ho : o.op = .store t x y) (b : Nat) (hx : a.eval x = .pointer (some ⟨b, 0, none⟩)) (cs old : List Value) (hy : a.eval y = .agg cs.toArray) (t2 : TypeId) (hv : VA w b t2 old) (hi : (P.info? t).map (·.size) = some cs.length) (hl : old.length = cs.length) (h1 : ∀ v ∈ cs, v.oneCell' = true)
    (h : ∀ w', VA w' b t2 cs → w.grownBy w' (some b) → K (a.put o.dst undef) w') : o.wp P a w K Q := by
  unfold Oper.wp
  rw [exec_store t x y ho b hx cs old hy t2 hv hi hl h1]
  exact h _ (hv.set cs) (setRow_grown _ _ _)
end
end Go.Proofs.Ytbglebchnlfklaa

namespace Go.Proofs.Ytbglebchnlfklaa
set_option maxRecDepth 100000
open Go.RowKit
variable {P : Program}

/-- vs, laid over cs from place i on. -/
def lay (cs : List Value) (i : Nat) (vs : List Value) : List Value := cs.take i ++ vs ++ cs.drop (i + vs.length)
theorem lay_length (cs : List Value) (i : Nat) (vs : List Value) (h : i + vs.length ≤ cs.length) : (lay cs i vs).length = cs.length := by
  unfold lay; simp; omega
theorem lay_cons (cs : List Value) (i : Nat) (v : Value) (vs : List Value) (h : i < cs.length) : lay (cs.set i v) (i + 1) vs = lay cs i (v :: vs) := by
  have e : cs.set i v = cs.take i ++ (v :: cs.drop (i + 1)) := by rw [List.set_eq_take_append_cons_drop, if_pos h]
  have hl : (cs.take i).length = i := by rw [List.length_take]; omega
  have e1 : (cs.take i ++ (v :: cs.drop (i + 1))).take (i + 1) = cs.take i ++ [v] := by
    rw [List.take_append, hl, List.take_of_length_le (by omega), show i + 1 - i = 1 by omega]
    rfl
  have e2 : (cs.take i ++ (v :: cs.drop (i + 1))).drop (i + 1 + vs.length) = cs.drop (i + (vs.length + 1)) := by
    rw [List.drop_append, hl, List.drop_of_length_le (by omega), List.nil_append, show i + 1 + vs.length - i = vs.length + 1 by omega, List.drop_succ_cons, List.drop_drop]
    congr 1
    omega
  unfold lay
  rw [e, e1, e2, List.length_cons, List.append_assoc (cs.take i) [v] vs]
  rfl
theorem foldl_lay (off : Nat) : ∀ (vs : List Value) (n : Nat) (cs : List Value), off + n + vs.length ≤ cs.length →
    (vs.zipIdx n).foldl (fun (c : Array Value) (x : Value × Nat) => c.setIfInBounds (off + x.2) x.1) cs.toArray = (lay cs (off + n) vs).toArray
  | [], n, cs, _ => by simp [lay]
  | v :: vs, n, cs, h => by
    simp only [List.length_cons] at h
    rw [List.zipIdx_cons, List.foldl_cons]
    have e : cs.toArray.setIfInBounds (off + n) v = (cs.set (off + n) v).toArray := by simp
    rw [e, foldl_lay off vs (n + 1) (cs.set (off + n) v) (by simp; omega), ← Nat.add_assoc, lay_cons cs (off + n) v vs (by omega)]
theorem fill_cons (place : Nat → Option (Nat × Nat)) (cs : List Value) (i : Nat) (v : Value) (rest : List (Nat × Value)) (off size : Nat) (vs : List Value) (hp : place i = some (off, size)) (hv : v.cells = vs.toArray) (hs : vs.length = size) (hl : off + size ≤ cs.length) :
    Instr.fill place cs.toArray ((i, v) :: rest) = Instr.fill place (lay cs off vs).toArray rest := by
  have h1 : (v.cells.size != size || decide (off + v.cells.size > cs.toArray.size)) = false := by
    rw [hv]; simp; omega
  have h2 : v.cells.zipIdx.foldl (fun cs (c, j) => cs.setIfInBounds (off + j) c) cs.toArray = (lay cs off vs).toArray := by
    rw [hv]
    have := foldl_lay off vs 0 cs (by omega)
    rw [Nat.add_zero] at this
    rw [← this, ← Array.foldl_toList]
    simp
  rw [Instr.fill, hp]
  simp only [h2]
  rw [if_neg]
  have h3 := h1
  simp only [Bool.or_eq_false_iff, bne_eq_false_iff_eq, decide_eq_false_iff_not] at h3
  simp [h3.1]
  have := h3.2
  simp at this
  omega

section
variable {ops : Array Oper} {rest : List Oper} {o : Oper} {a : Act} {Q : Exit → Act → World → Prop} {w : World} {ρ : Operand → Value}
theorem run_storeVar_lay (t : TypeId) (b off : Nat) (v : Value) (vs old : List Value) (hvc : v.cells = vs.toArray) (t2 : TypeId) (hv : VA w b t2 old) (hi : (P.info? t).map (·.size) = some vs.length) (hl : off + vs.length ≤ old.length) (h1 : ∀ v ∈ vs, v.oneCell' = true) :
    (storeVar t ⟨b, off, none⟩ v).run P w = .ok () (w.setRow b (lay old off vs).toArray) := by
  have := run_storeCells_at P b off t2 vs 0 old.toArray w hv (by simpa using hl) h1
  simp only [Nat.add_zero] at this
  cases hq : P.info? t with
  | none => simp [hq] at hi
  | some i =>
    have hs : i.size = vs.length := by simpa [hq] using hi
    simp [storeVar, sizeOf, typeInfo, hq, hvc, hs, this, lay]
theorem exec_lay (t : TypeId) (x y : Operand) (ho : o.op = .store t x y) (b off : Nat) (hx : ρ x = .pointer (some ⟨b, off, none⟩)) (vs old : List Value) (hy : (ρ y).cells = vs.toArray) (t2 : TypeId) (hv : VA w b t2 old) (hi : (P.info? t).map (·.size) = some vs.length) (hl : off + vs.length ≤ old.length) (h1 : ∀ v ∈ vs, v.oneCell' = true) :
    (execOp ρ o).run P w = .ok .skip (w.setRow b (lay old off vs).toArray) := by
  unfold execOp
  simp only [ho, hx, Instr.storeAt, Instr.sureAddr, Sem.run_bind, Sem.run_pure, Result.andThen_ok, run_storeVar_lay t b off (ρ y) vs old hy t2 hv hi hl h1]
/-- A part is laid into a variable. -/
theorem wpLay (t : TypeId) (x y : Operand) (ho : o.op = .store t x y) (b off : Nat) (hx : a.eval x = .pointer (some ⟨b, off, none⟩)) (vs old new : List Value) (hy : (a.eval y).cells = vs.toArray) (t2 : TypeId) (hv : VA w b t2 old) (hi : (P.info? t).map (·.size) = some vs.length) (hl : off + vs.length ≤ old.length) (h1 : ∀ v ∈ vs, v.oneCell' = true)
    (hn : lay old off vs = new) (hw : Region.wanted o (yielded ops a.tmps) = true) (h : ∀ w', VA w' b t2 new → w.grownBy w' (some b) → wpList P ops Q rest (a.put o.dst undef) w') : wpList P ops Q (o :: rest) a w := by
  subst hn
  exact stepS (exec_lay t x y ho b off hx vs old hy t2 hv hi hl h1) hw (h _ (hv.set _) (setRow_grown _ _ _))
end
end Go.Proofs.Ytbglebchnlfklaa

namespace Go.Proofs.Ytbglebchnlfklaa
set_option maxRecDepth 100000
open Go.RowKit

theorem Try.info_u8 : (Try.prog.info? 5).map (fun i => (i.zero, i.size, i.bytes)) = some (some (.int .u8 0), 1, 1) := by kernel_rfl

abbrev B8 : Ty UInt8 := U8 5
/-- v reads as the bytes xs in w. -/
abbrev RB (w : World) (v : Value) (xs : List UInt8) : Prop := RR B8 w v xs
/-- v is a row of bytes of the call's own. -/
abbrev OB (w : World) (base : Nat) (v : Value) (xs : List UInt8) : Prop := OR B8 w base v xs

/-- A cut of bytes that are read. -/
theorem cutB (A : Option Addr) (c : Nat) (xs : List UInt8) (i j : Nat) (hij : i ≤ j) (hj : j ≤ xs.length) (hc : xs.length ≤ c) :
    ∃ A', (∀ (kl kh : IntKind) (W : World), (Instr.slice 22 (.slice A xs.length c) (some (.int kl (i : Int))) (some (.int kh (j : Int))) none).run Try.prog W = .ok (.slice A' (j - i) (c - i)) W) ∧
      (∀ (kl : IntKind) (W : World), j = xs.length → (Instr.slice 22 (.slice A xs.length c) (some (.int kl (i : Int))) none none).run Try.prog W = .ok (.slice A' (xs.length - i) (c - i)) W) ∧
      (∀ (kh : IntKind) (W : World), i = 0 → (Instr.slice 22 (.slice A xs.length c) none (some (.int kh (j : Int))) none).run Try.prog W = .ok (.slice A' j c) W) ∧
      ∀ w, RB w (.slice A xs.length c) xs → RB w (.slice A' (j - i) (c - i)) ((xs.take j).drop i) :=
  RR.cut (P := Try.prog) B8 Try.underlying22 Try.info_u8 A c xs i j hij hj hc

section
variable {ops : Array Oper} {rest : List Oper} {o : Oper} {a : Act} {Q : Exit → Act → World → Prop}
/-- append(v, y) of a byte. -/
theorem appB {w0 W : World} (base : Nat) (s x : Operand) (v : Value) (xs : List UInt8) (y : UInt8) (n : Int) (HO : OB W base v xs) (HB : Below base w0 W) (hbase : base ≤ W.heap.size) (hl : xs.length ≤ 1000000000) (hn : n = (y.toNat : Int))
    (hgd : o.guard = none) (ho : o.op = .call { callee := .builtin .append, args := #[s, x], argTypes := #[22, 22] })
    (hs : a.eval s = v) (hx : a.eval x = .slice (some ⟨W.heap.size, 0, none⟩) 1 1)
    (h : ∀ v1 w1, OB w1 base v1 (xs ++ [y]) → Below base w0 w1 → W.grownBy w1 v.ownBlock → (v1.ownBlock = v.ownBlock ∨ ∃ b, v1.ownBlock = some b ∧ W.heap.size ≤ b) → base ≤ w1.heap.size → wpList Try.prog ops Q rest (a.put o.dst v1) w1) :
    wpList Try.prog ops Q (o :: rest) a (W.alloc (.cells #[.int .u8 n] 5)) := by
  subst hn
  exact wp_append1 B8 base hgd s x 22 _ ho Try.underlying22 Try.info_u8 rfl v xs y #[cb y] hs hx rfl HO HB hbase (by show (xs.length + 1) * 1 ≤ _; omega) h
/-- append(v, ys...). -/
theorem appBs {w0 W : World} (base : Nat) (s x : Operand) (v vy : Value) (xs ys : List UInt8) (HO : OB W base v xs) (HR : RB W vy ys) (HB : Below base w0 W) (hbase : base ≤ W.heap.size) (hl : xs.length ≤ 1000000000) (hl2 : ys.length ≤ 1000000000)
    (hgd : o.guard = none) (ho : o.op = .call { callee := .builtin .append, args := #[s, x], argTypes := #[22, 22] })
    (hs : a.eval s = v) (hx : a.eval x = vy)
    (h : ∀ v1 w1, OB w1 base v1 (xs ++ ys) → Below base w0 w1 → W.grownBy w1 v.ownBlock → (v1.ownBlock = v.ownBlock ∨ ∃ b, v1.ownBlock = some b ∧ W.heap.size ≤ b) → base ≤ w1.heap.size → wpList Try.prog ops Q rest (a.put o.dst v1) w1) :
    wpList Try.prog ops Q (o :: rest) a W :=
  wp_appendN B8 base hgd s x 22 _ ho Try.underlying22 Try.info_u8 rfl v xs ys vy hs hx HO HR HB hbase (by show (xs.length + ys.length) * 1 ≤ _; omega) h
end

/-- A literal row of bytes. -/
theorem OB.lit (w : World) (base : Nat) (xs : List UInt8) (cs : Array Value) (hcs : cs.toList = xs.map cb) (hb : base ≤ w.heap.size) (hm : xs.length ≤ 9223372036854775807) :
    OB (w.alloc (.cells cs 5)) base (.slice (some ⟨w.heap.size, 0, none⟩) xs.length xs.length) xs := OR.lit B8 w base xs cs (by rw [hcs, U8_all]) hb hm
theorem RB.at0 {w : World} {A : Option Addr} {n c : Nat} {xs : List UInt8} (h : RB w (.slice A n c) xs) (hp : 0 < xs.length) : ∃ ad, A = some ad ∧ ∀ (j : Nat) (u : Value), (xs.map cb)[j]? = some u → w.cell? (ad.add j) = some u := by
  obtain ⟨A2, c2, e, _, _, h3⟩ := h
  injection e with e1 e2 e3
  subst e1
  obtain ⟨ad, rfl, hcell⟩ := h3 hp
  rw [U8_all] at hcell
  exact ⟨ad, rfl, hcell⟩
/-- A byte of a row that is read. -/
theorem RB.byte {w : World} {A : Option Addr} {n c : Nat} {xs : List UInt8} (h : RB w (.slice A n c) xs) (hp : 0 < xs.length) : ∃ ad, A = some ad ∧ ∀ k, k < xs.length → w.cell? (ad.add k) = some (.int .u8 ((xs.getD k 0).toNat : Int)) := by
  obtain ⟨ad, rfl, hcc⟩ := h.at0 hp
  refine ⟨ad, rfl, fun k hk => hcc k _ ?_⟩
  rw [List.getElem?_map, List.getD_eq_getElem?_getD, List.getElem?_eq_getElem hk]
  rfl
end Go.Proofs.Ytbglebchnlfklaa

namespace Go.Proofs.Ytbglebchnlfklaa
set_option maxRecDepth 100000
open Go.RowKit
variable {P : Program} {α : Type}

/-- The world w' is w, but for blocks of F, and new ones. -/
structure Chg (F : Nat → Prop) (w w' : World) : Prop where
  os : w'.os = w.os
  tape : w'.tape = w.tape
  output : w'.output = w.output
  size : w.heap.size ≤ w'.heap.size
  block : ∀ k, k < w.heap.size → ¬ F k → w'.heap[k]? = w.heap[k]?
theorem Chg.refl (F : Nat → Prop) (w : World) : Chg F w w := ⟨rfl, rfl, rfl, Nat.le_refl _, fun _ _ _ => rfl⟩
/-- No block. -/
def Nil : Nat → Prop := fun _ => False
theorem Chg.below {w w' : World} (h : Chg Nil w w') : Below w.heap.size w w' := ⟨h.os, h.tape, h.output, h.size, fun k hk => h.block k hk (fun h => h)⟩
theorem chg_below {w w' : World} (h : Below w.heap.size w w') (F : Nat → Prop) : Chg F w w' := ⟨h.os, h.tape, h.output, h.size, fun k hk _ => h.block k hk⟩
theorem chg_grown {w w' : World} {row : Option Nat} (h : w.grownBy w' row) : Chg (fun k => row = some k) w w' := ⟨h.os, h.tape, h.output, h.size, fun k hk hn => h.block k hk (fun e => hn e.symm)⟩
theorem Chg.drew {F : Nat → Prop} {a w : World} (h : Chg F a w) : Chg F a w.drew := ⟨h.os, h.tape, h.output, h.size, h.block⟩

/-- A thing: the blocks in which it stands, and what is said of them. -/
structure Own where
  foot : Nat → Prop
  holds : World → Prop
  lt : ∀ w b, holds w → foot b → b < w.heap.size
  keep : ∀ w w', holds w → w.heap.size ≤ w'.heap.size → (∀ b, foot b → w'.heap[b]? = w.heap[b]?) → holds w'
/-- Block b holds cs. -/
def Own.blk (b : Nat) (t : TypeId) (cs : List Value) : Own where
  foot k := k = b
  holds w := VA w b t cs
  lt w k h e := by subst e; exact h.lt
  keep w w' h _ hk := (hk b rfl).trans h
/-- v is a row of elements. -/
def Own.row (T : Ty α) (v : Value) (xs : List α) : Own where
  foot k := v.ownBlock = some k
  holds w := OR T w 0 v xs
  lt w k h e := (OR.ge h k e).2
  keep w w' h _ hk := by
    refine ⟨h.1, ?_⟩
    rcases h.2 with h2 | ⟨g, cap, cur, hv, hg, hh, r⟩
    · exact Or.inl h2
    · exact Or.inr ⟨g, cap, cur, hv, hg, by rw [hk g (by rw [hv]; rfl)]; exact hh, r⟩
/-- Nothing. -/
def Own.nil : Own := ⟨fun _ => False, fun _ => True, fun _ _ _ h => h.elim, fun _ _ _ _ _ => trivial⟩

/-- w came of w0 by changes of the blocks of F alone, and of new ones; the things of L lie apart, in such blocks. -/
structure SH (F : Nat → Prop) (w0 w : World) (L : List Own) : Prop where
  chg : Chg F w0 w
  holds : ∀ o ∈ L, o.holds w
  foot : ∀ o ∈ L, ∀ b, o.foot b → F b ∨ w0.heap.size ≤ b
  apart : L.Pairwise fun o o' => ∀ b, o.foot b → ¬ o'.foot b

section
variable {F : Nat → Prop} {w0 w w' : World} {L : List Own}
theorem SH.start (F : Nat → Prop) (w : World) : SH F w w [] := ⟨Chg.refl F w, by simp, by simp, List.Pairwise.nil⟩
theorem SH.below (h : SH Nil w0 w L) : Below w0.heap.size w0 w := h.chg.below
theorem SH.size (h : SH F w0 w L) : w0.heap.size ≤ w.heap.size := h.chg.size
theorem SH.drew (h : SH F w0 w L) : SH F w0 w.drew L := ⟨h.chg.drew, fun o ho => o.keep w w.drew (h.holds o ho) (Nat.le_refl _) (fun _ _ => rfl), h.foot, h.apart⟩
theorem SH.sub {L' : List Own} (h : SH F w0 w L) (hs : L'.Sublist L) : SH F w0 w L' := ⟨h.chg, fun o ho => h.holds o (hs.subset ho), fun o ho => h.foot o (hs.subset ho), h.apart.sublist hs⟩
theorem SH.erase (h : SH F w0 w L) (i : Nat) : SH F w0 w (L.eraseIdx i) := h.sub (List.eraseIdx_sublist L i)
theorem SH.tail {o : Own} (h : SH F w0 w (o :: L)) : SH F w0 w L := h.sub (List.sublist_cons_self o L)
theorem SH.at_ (h : SH F w0 w L) (i : Nat) {o : Own} (hi : L[i]? = some o) : o.holds w := h.holds o (List.mem_of_getElem? hi)
theorem SH.va (h : SH F w0 w L) (i : Nat) {b : Nat} {t : TypeId} {cs : List Value} (hi : L[i]? = some (.blk b t cs)) : VA w b t cs := h.at_ i hi
theorem SH.or0 (h : SH F w0 w L) (i : Nat) {T : Ty α} {v : Value} {xs : List α} (hi : L[i]? = some (.row T v xs)) : OR T w 0 v xs := h.at_ i hi
theorem SH.rr (h : SH F w0 w L) (i : Nat) {T : Ty α} {v : Value} {xs : List α} (hi : L[i]? = some (.row T v xs)) : RR T w v xs := (h.or0 i hi).reads
theorem or_base {T : Ty α} {v : Value} {xs : List α} {b : Nat} (h : OR T w 0 v xs) (hb : ∀ k, v.ownBlock = some k → b ≤ k) : OR T w b v xs := by
  refine ⟨h.1, ?_⟩
  rcases h.2 with h2 | ⟨g, cap, cur, hv, _, r⟩
  · exact Or.inl h2
  · exact Or.inr ⟨g, cap, cur, hv, hb g (by rw [hv]; rfl), r⟩
theorem SH.orow (h : SH Nil w0 w L) (i : Nat) {T : Ty α} {v : Value} {xs : List α} (hi : L[i]? = some (.row T v xs)) : OR T w w0.heap.size v xs :=
  or_base (h.or0 i hi) fun k hk => (h.foot _ (List.mem_of_getElem? hi) k hk).elim (fun h => h.elim) id

/-- A step that changes no block that was there. -/
theorem SH.step (h : SH F w0 w L) (hb : Below w.heap.size w w') : SH F w0 w' L where
  chg := ⟨hb.os.trans h.chg.os, hb.tape.trans h.chg.tape, hb.output.trans h.chg.output, Nat.le_trans h.chg.size hb.size, fun k hk hn => (hb.block k (Nat.lt_of_lt_of_le hk h.chg.size)).trans (h.chg.block k hk hn)⟩
  holds o ho := o.keep w w' (h.holds o ho) hb.size (fun b hf => hb.block b (o.lt w b (h.holds o ho) hf))
  foot := h.foot
  apart := h.apart
/-- The same, with a new thing. -/
theorem SH.push (h : SH F w0 w L) (hb : Below w.heap.size w w') (o : Own) (ho : o.holds w') (hf : ∀ b, o.foot b → w.heap.size ≤ b) : SH F w0 w' (o :: L) where
  chg := (h.step hb).chg
  holds o' h' := by
    rcases List.mem_cons.mp h' with rfl | h'
    · exact ho
    · exact (h.step hb).holds o' h'
  foot o' h' b hb' := by
    rcases List.mem_cons.mp h' with rfl | h'
    · exact .inr (Nat.le_trans h.size (hf b hb'))
    · exact h.foot o' h' b hb'
  apart := List.Pairwise.cons (fun o' h' b h1 h2 => by have := o'.lt w b (h.holds o' h') h2; have := hf b h1; omega) h.apart
/-- A step that changes one thing alone. -/
theorem SH.change (h : SH F w0 w L) (i : Nat) {o : Own} (hi : L[i]? = some o) (hc : Chg o.foot w w') (o' : Own) (ho : o'.holds w') (hf : ∀ b, o'.foot b → o.foot b ∨ w.heap.size ≤ b) : SH F w0 w' (L.set i o') := by
  obtain ⟨hlt, he⟩ := List.getElem?_eq_some_iff.1 hi
  have hm := List.mem_of_getElem? hi
  have hap := List.pairwise_iff_getElem.1 h.apart
  have others : ∀ (j : Nat) (hj : j < L.length), j ≠ i → ∀ b, (L[j]).foot b → ¬ o.foot b := fun j hj hne b h1 h2 => by
    rw [← he] at h2
    rcases Nat.lt_or_ge j i with h3 | h3
    · exact hap j i hj hlt h3 b h1 h2
    · exact hap i j hlt hj (by omega) b h2 h1
  have memset : ∀ x ∈ L.set i o', x = o' ∨ ∃ (j : Nat) (hj : j < L.length), j ≠ i ∧ x = L[j] := fun x hx => by
    obtain ⟨j, hj, rfl⟩ := List.mem_iff_getElem.1 hx
    rw [List.length_set] at hj
    rw [List.getElem_set]
    by_cases e : i = j
    · exact .inl (by rw [if_pos e])
    · exact .inr ⟨j, hj, fun h => e h.symm, by rw [if_neg e]⟩
  refine ⟨⟨hc.os.trans h.chg.os, hc.tape.trans h.chg.tape, hc.output.trans h.chg.output, Nat.le_trans h.chg.size hc.size, fun k hk hn => ?_⟩, ?_, ?_, ?_⟩
  · refine (hc.block k (Nat.lt_of_lt_of_le hk h.chg.size) fun h1 => ?_).trans (h.chg.block k hk hn)
    rcases h.foot o hm k h1 with h2 | h2
    · exact hn h2
    · omega
  · intro x hx
    rcases memset x hx with rfl | ⟨j, hj, hne, rfl⟩
    · exact ho
    · have hh := h.holds _ (List.getElem_mem hj)
      exact Own.keep _ w w' hh hc.size fun b hb => hc.block b (Own.lt _ w b hh hb) (others j hj hne b hb)
  · intro x hx b hb
    rcases memset x hx with rfl | ⟨j, hj, hne, rfl⟩
    · rcases hf b hb with h1 | h1
      · exact h.foot o hm b h1
      · exact .inr (Nat.le_trans h.size h1)
    · exact h.foot _ (List.getElem_mem hj) b hb
  · have new : ∀ (j : Nat) (hj : j < L.length), j ≠ i → ∀ b, (L[j]).foot b → ¬ o'.foot b := fun j hj hne b h1 h2 => by
      rcases hf b h2 with h3 | h3
      · exact others j hj hne b h1 h3
      · have := Own.lt _ w b (h.holds _ (List.getElem_mem hj)) h1; omega
    rw [List.pairwise_iff_getElem]
    intro j k hj hk hjk b h1 h2
    rw [List.length_set] at hj hk
    rw [List.getElem_set] at h1 h2
    by_cases e1 : i = j
    · by_cases e2 : i = k
      · omega
      · rw [if_pos e1] at h1
        rw [if_neg e2] at h2
        exact new k hk (fun h => e2 h.symm) b h2 h1
    · rw [if_neg e1] at h1
      by_cases e2 : i = k
      · rw [if_pos e2] at h2
        exact new j hj (fun h => e1 h.symm) b h1 h2
      · rw [if_neg e2] at h2
        exact hap j k hj hk hjk b h1 h2
/-- A thing, said in another way. -/
theorem SH.alter (h : SH F w0 w L) (i : Nat) {o : Own} (hi : L[i]? = some o) (o' : Own) (ho : o.holds w → o'.holds w) (hf : ∀ b, o'.foot b → o.foot b) : SH F w0 w (L.set i o') :=
  h.change i hi (Chg.refl _ w) o' (ho (h.at_ i hi)) (fun b hb => .inl (hf b hb))
/-- A new block. -/
theorem SH.new (h : SH F w0 w L) (t : TypeId) (cs : List Value) : SH F w0 (w.alloc (.cells cs.toArray t)) (.blk w.heap.size t cs :: L) :=
  h.push (alloc_belowAt w _) _ (VA.new w cs t) (fun b (hb : b = _) => by omega)
/-- A block that is written. -/
theorem SH.setRow (h : SH F w0 w L) (i : Nat) {b : Nat} {t : TypeId} {cs : List Value} (hi : L[i]? = some (.blk b t cs)) (new : List Value) : SH F w0 (w.setRow b new.toArray) (L.set i (.blk b t new)) := by
  refine h.change i hi (o' := .blk b t new) ?_ ((h.va i hi).set new) (fun k hk => .inl hk)
  have := chg_grown (setRow_grown w b new.toArray)
  exact ⟨this.os, this.tape, this.output, this.size, fun k hk hn => this.block k hk (fun e => hn (by injection e with e; exact e.symm))⟩
/-- A row that a law of the kit has grown. -/
theorem SH.grow (h : SH F w0 w L) (i : Nat) {T : Ty α} {v v' : Value} {xs ys : List α} (hi : L[i]? = some (.row T v xs)) (ho : OR T w' 0 v' ys) (hg : w.grownBy w' v.ownBlock) (hat : v'.ownBlock = v.ownBlock ∨ ∃ b, v'.ownBlock = some b ∧ w.heap.size ≤ b) : SH F w0 w' (L.set i (.row T v' ys)) := by
  refine h.change i hi (chg_grown hg) _ ho (fun k (hk : v'.ownBlock = some k) => ?_)
  rcases hat with hat | ⟨b, hb, hle⟩
  · exact .inl (by show v.ownBlock = some k; rw [← hat]; exact hk)
  · exact .inr (by rw [hb] at hk; injection hk with hk; omega)
/-- Row of a call's own: a new thing. -/
theorem SH.pushRow (h : SH F w0 w L) (hb : Below w.heap.size w w') {T : Ty α} {v : Value} {xs : List α} (ho : OR T w' w.heap.size v xs) : SH F w0 w' (.row T v xs :: L) :=
  h.push hb _ (ho.lower (Nat.zero_le _)) (fun k hk => (OR.ge ho k hk).1)
theorem SH.nilRow (h : SH F w0 w L) (T : Ty α) : SH F w0 w (.row T (.slice none 0 0) [] :: L) :=
  h.push (Below.refl _ _) _ (OR.nil w 0) (fun k hk => by cases hk)
end

/-- A type of several cells. -/
structure AT (P : Program) (α : Type) where
  id : TypeId
  enc : α → List Value
  n : Nat
  len : ∀ x, (enc x).length = n
  one : ∀ x, ∀ v ∈ enc x, v.oneCell' = true
  d : TypeDesc
  under : P.underlying id = some d
  row : d.isRow = true
  size : (P.info? id).map (·.size) = some n
  zero : α
  zinfo : (P.info? id).map (·.zero) = some (some (.agg (enc zero).toArray))
  zbuilt : P.built id [] = some (enc zero).toArray
/-- Its value. -/
def AT.val (T : AT P α) (x : α) : Value := .agg (T.enc x).toArray

section
variable {ops : Array Oper} {rest : List Oper} {o o1 o2 : Oper} {a : Act} {Q : Exit → Act → World → Prop} {F : Nat → Prop} {w0 w : World} {L : List Own} {ρ : Operand → Value}

theorem AT.sz (T : AT P α) (x : α) : (P.info? T.id).map (·.size) = some (T.enc x).length := by rw [T.len]; exact T.size
/-- var x T -/
theorem wAlloc (T : AT P α) (H : SH F w0 w L) (ho : o.op = .alloc T.id) (hw : Region.wanted o (yielded ops a.tmps) = true)
    (h : ∀ w', SH F w0 w' (.blk w.heap.size T.id (T.enc T.zero) :: L) → wpList P ops Q rest (a.put o.dst (.pointer (some ⟨w.heap.size, 0, none⟩))) w') : wpList P ops Q (o :: rest) a w :=
  stepV (exec_alloc T.id ho _ (T.enc T.zero) T.zinfo rfl) hw (h _ (H.new _ _))
/-- x := y -/
theorem wVar (T : AT P α) (x : α) (H : SH F w0 w L) (ho1 : o1.op = .alloc T.id) (d : Nat) (y : Operand) (ho2 : o2.op = .store T.id (.tmp d) y)
    (hx : (a.put o1.dst (.pointer (some ⟨w.heap.size, 0, none⟩))).eval (.tmp d) = .pointer (some ⟨w.heap.size, 0, none⟩))
    (hy : (a.put o1.dst (.pointer (some ⟨w.heap.size, 0, none⟩))).eval y = .agg (T.enc x).toArray)
    (hw1 : Region.wanted o1 (yielded ops a.tmps) = true) (hw2 : Region.wanted o2 (yielded ops (a.put o1.dst (.pointer (some ⟨w.heap.size, 0, none⟩))).tmps) = true)
    (h : ∀ w', SH F w0 w' (.blk w.heap.size T.id (T.enc x) :: L) → wpList P ops Q rest ((a.put o1.dst (.pointer (some ⟨w.heap.size, 0, none⟩))).put o2.dst undef) w') : wpList P ops Q (o1 :: o2 :: rest) a w := by
  refine wpVar T.id ho1 _ (T.enc T.zero) T.zinfo rfl d y ho2 (T.enc x) hx hy (by rw [T.len, T.len]) (T.sz x) (T.one x) hw1 hw2 fun w' hv hb => h w' ?_
  exact H.push hb _ hv (fun k (hk : k = _) => by omega)
theorem wBox (T : AT P α) (x : α) (H : SH F w0 w L) (y : Operand) (ho : o.op = .box T.id y) (hx : a.eval y = .agg (T.enc x).toArray) (hw : Region.wanted o (yielded ops a.tmps) = true)
    (h : ∀ w', SH F w0 w' (.blk w.heap.size T.id (T.enc x) :: L) → wpList P ops Q rest (a.put o.dst (.pointer (some ⟨w.heap.size, 0, none⟩))) w') : wpList P ops Q (o :: rest) a w :=
  stepV (exec_box T.id y ho (T.enc x) hx) hw (h _ (H.new _ _))
theorem wLoad (T : AT P α) (x : α) (H : SH F w0 w L) (i : Nat) {b off : Nat} {t : TypeId} {cs : List Value} (hi : L[i]? = some (.blk b t cs)) (hp : (cs.drop off).take T.n = T.enc x) (y : Operand) (ho : o.op = .load T.id y) (hx : a.eval y = .pointer (some ⟨b, off, none⟩)) (hw : Region.wanted o (yielded ops a.tmps) = true)
    (h : wpList P ops Q rest (a.put o.dst (.agg (T.enc x).toArray)) w) : wpList P ops Q (o :: rest) a w :=
  stepV (exec_load T.id y ho b off hx (T.enc x) T.d ((H.va i hi).range off _ (by rw [T.len]; exact hp)) T.under T.row (T.sz x)) hw h
theorem wZero (T : AT P α) (ho : o.op = .build T.id #[]) (hw : Region.wanted o (yielded ops a.tmps) = true) (h : wpList P ops Q rest (a.put o.dst (.agg (T.enc T.zero).toArray)) w) : wpList P ops Q (o :: rest) a w :=
  stepV (exec_zero T.id ho _ T.zbuilt) hw h
theorem wStore (T : AT P α) (x : α) (H : SH F w0 w L) (i : Nat) {b : Nat} {t : TypeId} {cs : List Value} (hi : L[i]? = some (.blk b t cs)) (hl : cs.length = T.n) (p y : Operand) (ho : o.op = .store T.id p y) (hx : a.eval p = .pointer (some ⟨b, 0, none⟩)) (hy : a.eval y = .agg (T.enc x).toArray) (hw : Region.wanted o (yielded ops a.tmps) = true)
    (h : ∀ w', SH F w0 w' (L.set i (.blk b t (T.enc x))) → wpList P ops Q rest (a.put o.dst undef) w') : wpList P ops Q (o :: rest) a w :=
  stepS (exec_store T.id p y ho b hx (T.enc x) cs hy t (H.va i hi) (T.sz x) (by rw [T.len]; exact hl) (T.one x)) hw (h _ (H.setRow i hi _))
theorem wLay (T : AT P α) (x : α) (H : SH F w0 w L) (i : Nat) {b off : Nat} {t : TypeId} {cs : List Value} (hi : L[i]? = some (.blk b t cs)) (hl : off + T.n ≤ cs.length) (new : List Value) (hn : lay cs off (T.enc x) = new) (p y : Operand) (ho : o.op = .store T.id p y) (hx : a.eval p = .pointer (some ⟨b, off, none⟩)) (hy : a.eval y = .agg (T.enc x).toArray) (hw : Region.wanted o (yielded ops a.tmps) = true)
    (h : ∀ w', SH F w0 w' (L.set i (.blk b t new)) → wpList P ops Q rest (a.put o.dst undef) w') : wpList P ops Q (o :: rest) a w := by
  subst hn
  exact stepS (exec_lay T.id p y ho b off hx (T.enc x) cs (by rw [hy]; rfl) t (H.va i hi) (T.sz x) (by rw [T.len]; exact hl) (T.one x)) hw (h _ (H.setRow i hi _))
/-- A number is laid into a variable. -/
theorem wCell (t' : TypeId) (v : Value) (hs : (P.info? t').map (·.size) = some 1) (hc : v.cells = [v].toArray) (h1 : v.oneCell' = true) (H : SH F w0 w L) (i : Nat) {b off : Nat} {t : TypeId} {cs : List Value} (hi : L[i]? = some (.blk b t cs)) (hl : off + 1 ≤ cs.length) (new : List Value) (hn : lay cs off [v] = new) (p y : Operand) (ho : o.op = .store t' p y) (hx : a.eval p = .pointer (some ⟨b, off, none⟩)) (hy : a.eval y = v) (hw : Region.wanted o (yielded ops a.tmps) = true)
    (h : ∀ w', SH F w0 w' (L.set i (.blk b t new)) → wpList P ops Q rest (a.put o.dst undef) w') : wpList P ops Q (o :: rest) a w := by
  subst hn
  exact stepS (exec_lay t' p y ho b off hx [v] cs (by rw [hy]; exact hc) t (H.va i hi) (by simpa using hs) hl (fun u hu => by rw [List.mem_singleton.mp hu]; exact h1)) hw (h _ (H.setRow i hi _))
/-- A part of several cells is built, and laid. -/
theorem wLayV (t' : TypeId) (vs : List Value) (h1 : ∀ v ∈ vs, v.oneCell' = true) (hs : (P.info? t').map (·.size) = some vs.length) (H : SH F w0 w L) (i : Nat) {b off : Nat} {t : TypeId} {cs : List Value} (hi : L[i]? = some (.blk b t cs)) (hl : off + vs.length ≤ cs.length) (new : List Value) (hn : lay cs off vs = new) (p y : Operand) (ho : o.op = .store t' p y) (hx : a.eval p = .pointer (some ⟨b, off, none⟩)) (hy : a.eval y = .agg vs.toArray) (hw : Region.wanted o (yielded ops a.tmps) = true)
    (h : ∀ w', SH F w0 w' (L.set i (.blk b t new)) → wpList P ops Q rest (a.put o.dst undef) w') : wpList P ops Q (o :: rest) a w := by
  subst hn
  exact stepS (exec_lay t' p y ho b off hx vs cs (by rw [hy]; rfl) t (H.va i hi) hs hl h1) hw (h _ (H.setRow i hi _))
end
end Go.Proofs.Ytbglebchnlfklaa

namespace Go.Proofs.Ytbglebchnlfklaa
set_option maxRecDepth 100000
open Go.RowKit
variable {P : Program} {α : Type}

/-- The block of a row. -/
def rowF (v : Value) : Nat → Prop := fun k => v.ownBlock = some k
section
variable {F : Nat → Prop} {w0 w w' : World} {L : List Own}
/-- A callee that was handed a thing. -/
theorem SH.via (h : SH F w0 w L) (i : Nat) {o o' : Own} (hi : L[i]? = some o) (k : SH o.foot w w' [o']) : SH F w0 w' (L.set i o') :=
  h.change i hi k.chg o' (k.holds o' (List.mem_singleton.mpr rfl)) (fun b hb => k.foot o' (List.mem_singleton.mpr rfl) b hb)
theorem SH.row (T : Ty α) {v : Value} {xs : List α} (h : OR T w 0 v xs) : SH (rowF v) w w [.row T v xs] :=
  ⟨Chg.refl _ w, fun o ho => by rw [List.mem_singleton.mp ho]; exact h, fun o ho b hb => by rw [List.mem_singleton.mp ho] at hb; exact .inl hb, List.pairwise_singleton _ _⟩
theorem Chg.trans {a b c : World} (h : Chg F a b) (k : Below b.heap.size b c) : Chg F a c := ⟨k.os.trans h.os, k.tape.trans h.tape, k.output.trans h.output, Nat.le_trans h.size k.size, fun i hi hn => (k.block i (Nat.lt_of_lt_of_le hi h.size)).trans (h.block i hi hn)⟩
theorem SH.set {L' : List Own} (h : SH F w0 w L) (e : L = L') : SH F w0 w L' := e ▸ h
end

/-- append(v, ys...) -/
theorem run_append (T : Ty α) {W : World} (base : Nat) (t t2 : TypeId) (z : Value) (ht : P.underlying t = some (.slice T.id)) (hinfo : (P.info? T.id).map (fun i => (i.zero, i.size, i.bytes)) = some (some z, T.sz, T.bytes)) (hz : z.cells.size = T.sz)
    (v vy : Value) (xs ys : List α) (HO : OR T W base v xs) (HR : RR T W vy ys) (hbase : base ≤ W.heap.size) (hl : (xs.length + ys.length) * T.bytes ≤ 140737488355328) :
    ∃ v1 w1, (Builtin.append_ #[t, t] t2 #[v, vy]).run P W = .ok v1 w1 ∧ OR T w1 base v1 (xs ++ ys) ∧ W.grownBy w1 v.ownBlock ∧ (v1.ownBlock = v.ownBlock ∨ v1.ownBlock = some W.heap.size) := by
  obtain ⟨i0, hi, hzz⟩ := Option.map_eq_some_iff.1 hinfo
  simp only [Prod.mk.injEq] at hzz
  obtain ⟨hz0, hz1, hz2⟩ := hzz
  have hlen : xs.length + ys.length ≤ 140737488355328 := Nat.le_trans (Nat.le_mul_of_pos_right _ T.hby) hl
  obtain ⟨A, c, rfl, hc, hm, hcell⟩ := HR
  rcases Nat.eq_zero_or_pos ys.length with h0 | h0
  · obtain rfl : ys = [] := List.eq_nil_of_length_eq_zero h0
    refine ⟨v, W, ?_, by simpa using HO, World.grownBy.refl W _, .inl rfl⟩
    rcases HO.2 with ⟨rfl, hn⟩ | ⟨g, cap, cur, rfl, _, hgg, hnc, _, hcs, _⟩
    · cases A <;> simp [Builtin.append_, run_underlying ht, sizeOf, typeInfo, hi, Builtin.lenOf, Builtin.firstCells, loadCells, loadCellsFrom]
    · cases A <;> simp [Builtin.append_, run_underlying ht, sizeOf, typeInfo, hi, Builtin.lenOf, Builtin.firstCells, hnc, storeCells, loadCells, loadCellsFrom]
  · obtain ⟨ad, rfl, hcc⟩ := hcell h0
    obtain ⟨v1, w1, h1, h2, h3, _, h5⟩ := run_append_own_at (P := P) W base t t2 T.id i0 z T.sz T.bytes ht hi hz0 hz1 hz2 hz T.hsz v xs.length (T.all xs) HO ad ys.length c (T.all ys) (Ty.all_length ys) hcc (Ty.all_oneCell ys) (by simp only [maxLen]; omega) hl hbase
    exact ⟨v1, w1, h1, by unfold OR; rw [List.length_append, Ty.all_append]; exact h2, h3, h5⟩

/-- What append asks of a kind of elements. -/
structure ST (P : Program) (α : Type) extends Ty α where
  t : TypeId
  z : Value
  ht : P.underlying t = some (.slice id)
  hinfo : (P.info? id).map (fun i => (i.zero, i.size, i.bytes)) = some (some z, sz, bytes)
  hz : z.cells.size = sz

section
variable {ops : Array Oper} {rest : List Oper} {o : Oper} {a : Act} {Q : Exit → Act → World → Prop} {F : Nat → Prop} {w0 w : World} {L : List Own} {ρ : Operand → Value}
theorem exec_append (T : ST P α) (H : SH F w0 w L) (i : Nat) {v : Value} {xs : List α} (hi : L[i]? = some (.row T.toTy v xs)) (vy : Value) (ys : List α) (HR : RR T.toTy w vy ys) (hl : (xs.length + ys.length) * T.bytes ≤ 140737488355328)
    (s x : Operand) (ho : o.op = .call { callee := .builtin .append, args := #[s, x], argTypes := #[T.t, T.t] }) (hs : ρ s = v) (hx : ρ x = vy) :
    ∃ v1 w1, (execOp ρ o).run P w = .ok (.value v1) w1 ∧ SH F w0 w1 (L.set i (.row T.toTy v1 (xs ++ ys))) := by
  obtain ⟨v1, w1, h1, h2, h3, h4⟩ := run_append T.toTy 0 T.t o.type T.z T.ht T.hinfo T.hz v vy xs ys (H.or0 i hi) HR (Nat.zero_le _) hl
  refine ⟨v1, w1, ?_, H.grow i hi h2 h3 ?_⟩
  · unfold execOp
    simp only [ho, resolve, invoke, builtin, Sem.run_bind, Sem.run_pure, Result.andThen_ok, List.map_toArray, List.map_cons, List.map_nil, hs, hx, h1]
  · rcases h4 with h4 | h4
    · exact .inl h4
    · exact .inr ⟨_, h4, Nat.le_refl _⟩
theorem wAppend (T : ST P α) (H : SH F w0 w L) (i : Nat) {v : Value} {xs : List α} (hi : L[i]? = some (.row T.toTy v xs)) (vy : Value) (ys : List α) (HR : RR T.toTy w vy ys) (hl : (xs.length + ys.length) * T.bytes ≤ 140737488355328)
    (s x : Operand) (ho : o.op = .call { callee := .builtin .append, args := #[s, x], argTypes := #[T.t, T.t] }) (hs : a.eval s = v) (hx : a.eval x = vy) (hw : Region.wanted o (yielded ops a.tmps) = true)
    (h : ∀ v1 w1, SH F w0 w1 (L.set i (.row T.toTy v1 (xs ++ ys))) → wpList P ops Q rest (a.put o.dst v1) w1) : wpList P ops Q (o :: rest) a w := by
  obtain ⟨v1, w1, h1, h2⟩ := exec_append T H i hi vy ys HR hl s x ho hs hx
  exact stepV h1 hw (h v1 w1 h2)
/-- Behind a literal row. -/
theorem RR.lit (T : Ty α) (w : World) (ys : List α) (cs : Array Value) (hcs : cs.toList = T.all ys) (hm : ys.length ≤ 1000000000) : RR T (w.alloc (.cells cs T.id)) (.slice (some ⟨w.heap.size, 0, none⟩) ys.length ys.length) ys :=
  (OR.lit T w 0 ys cs hcs (Nat.zero_le _) (by omega)).reads
theorem wAppLit (T : ST P α) (ys : List α) (cs : Array Value) (hcs : cs.toList = T.all ys) (hm : ys.length ≤ 1000000000) (n : Nat) (hn : ys.length = n) (H : SH F w0 w L) (i : Nat) {v : Value} {xs : List α} (hi : L[i]? = some (.row T.toTy v xs)) (hl : (xs.length + n) * T.bytes ≤ 140737488355328)
    (s x : Operand) (ho : o.op = .call { callee := .builtin .append, args := #[s, x], argTypes := #[T.t, T.t] }) (hs : a.eval s = v) (hx : a.eval x = .slice (some ⟨w.heap.size, 0, none⟩) n n) (hw : Region.wanted o (yielded ops a.tmps) = true)
    (h : ∀ v1 w1, SH F w0 w1 (L.set i (.row T.toTy v1 (xs ++ ys))) → wpList P ops Q rest (a.put o.dst v1) w1) : wpList P ops Q (o :: rest) a (w.alloc (.cells cs T.id)) := by
  subst hn
  exact wAppend T (H.step (alloc_belowAt w _)) i hi _ ys (RR.lit T.toTy w ys cs hcs hm) hl s x ho hs hx hw h
/-- The same, at the operation. -/
theorem opV {K : Act → World → Prop} {w' : World} {v : Value} (hr : (execOp a.eval o).run P w = .ok (.value v) w') (h : K (a.put o.dst v) w') : o.wp P a w K Q := by
  unfold Oper.wp; rw [hr]; exact h
theorem oAppend {K : Act → World → Prop} (T : ST P α) (H : SH F w0 w L) (i : Nat) {v : Value} {xs : List α} (hi : L[i]? = some (.row T.toTy v xs)) (vy : Value) (ys : List α) (HR : RR T.toTy w vy ys) (hl : (xs.length + ys.length) * T.bytes ≤ 140737488355328)
    (s x : Operand) (ho : o.op = .call { callee := .builtin .append, args := #[s, x], argTypes := #[T.t, T.t] }) (hs : a.eval s = v) (hx : a.eval x = vy)
    (h : ∀ v1 w1, SH F w0 w1 (L.set i (.row T.toTy v1 (xs ++ ys))) → K (a.put o.dst v1) w1) : o.wp P a w K Q := by
  obtain ⟨v1, w1, h1, h2⟩ := exec_append T H i hi vy ys HR hl s x ho hs hx
  exact opV h1 (h v1 w1 h2)
theorem oAppLit {K : Act → World → Prop} (T : ST P α) (ys : List α) (cs : Array Value) (hcs : cs.toList = T.all ys) (hm : ys.length ≤ 1000000000) (n : Nat) (hn : ys.length = n) (H : SH F w0 w L) (i : Nat) {v : Value} {xs : List α} (hi : L[i]? = some (.row T.toTy v xs)) (hl : (xs.length + n) * T.bytes ≤ 140737488355328)
    (s x : Operand) (ho : o.op = .call { callee := .builtin .append, args := #[s, x], argTypes := #[T.t, T.t] }) (hs : a.eval s = v) (hx : a.eval x = .slice (some ⟨w.heap.size, 0, none⟩) n n)
    (h : ∀ v1 w1, SH F w0 w1 (L.set i (.row T.toTy v1 (xs ++ ys))) → K (a.put o.dst v1) w1) : o.wp P a (w.alloc (.cells cs T.id)) K Q := by
  subst hn
  exact oAppend T (H.step (alloc_belowAt w _)) i hi _ ys (RR.lit T.toTy w ys cs hcs hm) hl s x ho hs hx h
end

/-! A region that draws its order; S holds of each world on the way. -/
section
variable {ops : Array Oper} {Q : Exit → Act → World → Prop} {S : World → Prop}
theorem startS (S : World → Prop) {id : Nat} {a : Act} {w : World} (hm : P.follows .mixedOrders = true) (h0 : S w.drew) (h : wpAnyH P .any ops Q S ops.size (Array.replicate ops.size false) a w.drew) : (Code.region id ops true).wp P Q a w :=
  wp_region_held_drew (S := S) hm h0 (fun _ => h)
theorem takeS (i : Nat) {oi : Oper} {v : Value} {fuel : Nat} {listed : Array Bool} {a : Act} {w : World} (h0 : S w) (hi : ops.toList[i]? = some oi) (hs : Region.noSelect ops = true) (hf : Region.free .any ops listed i = true) (hr : (Region.ready .any ops listed).contains i = true)
    (hQ : ∀ c a w, Q (.panic c) (a.put oi.dst v) w → Q (.panic c) a w) (hw : Region.wanted oi (yielded ops a.tmps) = true)
    (hy : ∀ w', S w' → (execOp a.eval oi).run P w' = .ok (.value v) w') (h : wpAnyH P .any ops Q S fuel (listed.setIfInBounds i true) (a.put oi.dst v) w) : wpAnyH P .any ops Q S (fuel + 1) listed a w :=
  wpAnyH_take (by simpa using hi) hs hf hr hQ (.inl ⟨hw, hy⟩) h0 h
theorem skipS (i : Nat) {oi : Oper} {fuel : Nat} {listed : Array Bool} {a : Act} {w : World} (h0 : S w) (hi : ops.toList[i]? = some oi) (hs : Region.noSelect ops = true) (hf : Region.free .any ops listed i = true) (hr : (Region.ready .any ops listed).contains i = true)
    (hQ : ∀ c a w, Q (.panic c) (a.put oi.dst undef) w → Q (.panic c) a w) (hw : Region.wanted oi (yielded ops a.tmps) = false)
    (h : wpAnyH P .any ops Q S fuel (listed.setIfInBounds i true) (a.put oi.dst undef) w) : wpAnyH P .any ops Q S (fuel + 1) listed a w :=
  wpAnyH_take (by simpa using hi) hs hf hr hQ (.inr ⟨hw, rfl⟩) h0 h
theorem stepS' (i : Nat) {oi : Oper} {fuel : Nat} {listed : Array Bool} {a : Act} {w : World} (hi : ops.toList[i]? = some oi) (hr : Region.ready .any ops listed = [i]) (hw : Region.wanted oi (yielded ops a.tmps) = true)
    (h : ∀ K : Act → World → Prop, Shut (∀ a' w', S w' → wpAnyH P .any ops Q S fuel (listed.setIfInBounds i true) a' w' → K a' w') → oi.wp P a w K Q) : wpAnyH P .any ops Q S (fuel + 1) listed a w :=
  wpAnyH_ready hr (by simp) (AllReadyH.cons (by simpa using hi) (fun K hK => by rw [if_pos hw]; exact h K (fun a' w' hb he => hK a' w' hb (fun _ => he))) AllReadyH.nil)
theorem doneS {fuel : Nat} {listed : Array Bool} {a : Act} {w : World} (hr : Region.ready .any ops listed = []) (h : Q .normal a w) : wpAnyH P .any ops Q S fuel listed a w := wpAnyH_done hr h fuel
end

theorem u8_eqI (a b : UInt8) : ((a.toNat : Int) == (b.toNat : Int)) = (a == b) := by
  by_cases h : a = b
  · subst h; simp
  · have : ¬ (a.toNat : Int) = (b.toNat : Int) := fun e => h (UInt8.toNat_inj.mp (by omega))
    rw [beq_eq_false_iff_ne.mpr this, beq_eq_false_iff_ne.mpr h]
/-- []byte("..") of a constant. -/
theorem const_conv (w : World) (C : Array Value) (n c : Nat) : (convert 22 22 (.slice (some ⟨w.heap.size, 0, none⟩) n c)).run Try.prog (w.alloc (.cells C 5)) = .ok (.slice (some ⟨w.heap.size, 0, none⟩) n c) (w.alloc (.cells C 5 (C.size, C.size + 1))) :=
  Lib.run_convert_bytes_const w 22 5 C n c Try.underlying22 Try.underlying5
theorem const_rr (w : World) (ys : List UInt8) (cs : Array Value) (fr : Nat × Nat) (hcs : cs.toList = ys.map cb) (hm : ys.length ≤ 1000000000) : RB (w.alloc (.cells cs 5 fr)) (.slice (some ⟨w.heap.size, 0, none⟩) ys.length ys.length) ys :=
  ⟨_, _, rfl, Nat.le_refl _, by omega, fun _ => ⟨_, rfl, fun j u hu => by
    rw [Addr.add_mid, Nat.zero_add, World.cell?_alloc_mark, ← Array.getElem?_toList, hcs, ← U8_all]
    exact hu⟩⟩
/-! An operation's form, looked at reducibly. -/
section
variable {ops : Array Oper} {rest : List Oper} {Q : Exit → Act → World → Prop} {a : Act} {w : World} {d : Option Tmp} {ty t t2 : TypeId} {p : String} {af : Array Edge} {gd : Option (Nat × Bool)} {x y z : Operand}
theorem gBox (h : wpList P ops Q (⟨d, .box t x, ty, p, af, gd⟩ :: rest) a w) : wpList P ops Q (⟨d, .box t x, ty, p, af, gd⟩ :: rest) a w := h
theorem gAlloc (h : wpList P ops Q (⟨d, .alloc t, ty, p, af, gd⟩ :: rest) a w) : wpList P ops Q (⟨d, .alloc t, ty, p, af, gd⟩ :: rest) a w := h
theorem gLoad (h : wpList P ops Q (⟨d, .load t x, ty, p, af, gd⟩ :: rest) a w) : wpList P ops Q (⟨d, .load t x, ty, p, af, gd⟩ :: rest) a w := h
theorem gStore (h : wpList P ops Q (⟨d, .store t x y, ty, p, af, gd⟩ :: rest) a w) : wpList P ops Q (⟨d, .store t x y, ty, p, af, gd⟩ :: rest) a w := h
theorem gBuild {ps : Array (Nat × Operand)} (h : wpList P ops Q (⟨d, .build t ps, ty, p, af, gd⟩ :: rest) a w) : wpList P ops Q (⟨d, .build t ps, ty, p, af, gd⟩ :: rest) a w := h
theorem gBin {b : BinOp} (h : wpList P ops Q (⟨d, .binOp b t x y t2, ty, p, af, gd⟩ :: rest) a w) : wpList P ops Q (⟨d, .binOp b t x y t2, ty, p, af, gd⟩ :: rest) a w := h
theorem gMake (h : wpList P ops Q (⟨d, .makeSlice t x y, ty, p, af, gd⟩ :: rest) a w) : wpList P ops Q (⟨d, .makeSlice t x y, ty, p, af, gd⟩ :: rest) a w := h
theorem gIndex (h : wpList P ops Q (⟨d, .index t x y, ty, p, af, gd⟩ :: rest) a w) : wpList P ops Q (⟨d, .index t x y, ty, p, af, gd⟩ :: rest) a w := h
theorem gArr (h : wpList P ops Q (⟨d, .sliceToArrayPointer t x, ty, p, af, gd⟩ :: rest) a w) : wpList P ops Q (⟨d, .sliceToArrayPointer t x, ty, p, af, gd⟩ :: rest) a w := h
end
/-- Bytes. -/
def sB : ST Try.prog UInt8 := ⟨B8, 22, .int .u8 0, Try.underlying22, Try.info_u8, rfl⟩
end Go.Proofs.Ytbglebchnlfklaa

namespace Go.Proofs.Ytbglebchnlfklaa
set_option maxRecDepth 100000
open Go.RowKit
section
variable {P : Program} {ops : Array Oper} {Q : Exit → Act → World → Prop} {md : Region.Mode} {S : World → Prop} {W : Nat → Bool}

/-- Number j waits for number i, at once or by others. -/
def reachB (md : Region.Mode) (ops : Array Oper) : Nat → Nat → Nat → Bool
  | 0, _, _ => false
  | f + 1, j, i => ((ops[j]?).map fun o => o.after.any fun e => Region.binds md e && (e.on == i || reachB md ops f e.on i)).getD false
/-- Each writer waits for number i. -/
def waitsB (md : Region.Mode) (ops : Array Oper) (W : Nat → Bool) (i : Nat) : Bool := (List.range ops.size).all fun j => !W j || reachB md ops 4 j i
def Closed (md : Region.Mode) (ops : Array Oper) (listed : Array Bool) : Prop := ∀ (k : Nat) (o : Oper), ops[k]? = some o → listed.getD k false = true → ∀ e ∈ o.after, Region.binds md e = true → listed.getD e.on false = true
def closedB (md : Region.Mode) (ops : Array Oper) (listed : Array Bool) : Bool := (List.range ops.size).all fun k => !listed.getD k false || ((ops[k]?).map fun o => o.after.all fun e => !Region.binds md e || listed.getD e.on false).getD true
theorem closedB_spec {listed : Array Bool} (h : closedB md ops listed = true) : Closed md ops listed := fun k o hk hl e he hb => by
  simp only [closedB, List.all_eq_true, List.mem_range] at h
  have h1 := h k (Array.getElem?_eq_some_iff.1 hk).1
  rw [hl, hk] at h1
  simp only [Bool.not_true, Bool.false_or, Option.map_some, Option.getD_some, Array.all_eq_true_iff_forall_mem] at h1
  have h2 := h1 e he
  rw [hb] at h2
  simpa using h2
theorem Closed.set {listed : Array Bool} (h : Closed md ops listed) {j : Nat} (hj : j ∈ Region.ready md ops listed) : Closed md ops (listed.setIfInBounds j true) := fun k o hk hl e he hb => by
  obtain ⟨_, oj, hoj, hall⟩ := mem_ready.1 hj
  by_cases hjk : j = k
  · subst hjk
    rw [hoj] at hk
    injection hk with hk
    subst hk
    exact getD_set_true (hall e he hb)
  · rw [getD_set_ne false hjk] at hl
    exact getD_set_true (h k o hk hl e he hb)
theorem reachB_spec {listed : Array Bool} (h : Closed md ops listed) {i : Nat} : ∀ (f j : Nat) (o : Oper), ops[j]? = some o → (∀ e ∈ o.after, Region.binds md e = true → listed.getD e.on false = true) → reachB md ops f j i = true → listed.getD i false = true
  | 0, _, _, _, _, hr => by simp [reachB] at hr
  | f + 1, j, o, ho, hall, hr => by
    rw [reachB, ho] at hr
    simp only [Option.map_some, Option.getD_some] at hr
    obtain ⟨e, he, hb⟩ := Array.any_eq_true'.1 hr
    simp only [Bool.and_eq_true, Bool.or_eq_true, beq_iff_eq] at hb
    have hl := hall e he hb.1
    rcases hb.2 with h1 | h1
    · rw [← h1]; exact hl
    · cases ho2 : ops[e.on]? with
      | none =>
        cases f with
        | zero => simp [reachB] at h1
        | succ f => rw [reachB, ho2] at h1; simp at h1
      | some o2 => exact reachB_spec h f e.on o2 ho2 (h e.on o2 ho2 hl) h1
theorem waitsB_spec {i : Nat} (h : waitsB md ops W i = true) {listed : Array Bool} (hc : Closed md ops listed) {j : Nat} (hj : j ∈ Region.ready md ops listed) (hW : W j = true) : listed.getD i false = true := by
  obtain ⟨_, oj, hoj, hall⟩ := mem_ready.1 hj
  simp only [waitsB, List.all_eq_true, List.mem_range] at h
  have h1 := h j (Array.getElem?_eq_some_iff.1 hoj).1
  rw [hW] at h1
  simp only [Bool.not_true, Bool.false_or] at h1
  exact reachB_spec hc 4 j oj hoj hall h1
/-- Whatever order: an operation that is no writer keeps S. -/
def wpAnyL (P : Program) (md : Region.Mode) (ops : Array Oper) (Q : Exit → Act → World → Prop) (S : World → Prop) (W : Nat → Bool) : Nat → Array Bool → Act → World → Prop
  | 0, listed, a, w => Region.ready md ops listed = [] ∧ Q .normal a w
  | fuel + 1, listed, a, w =>
    (Region.ready md ops listed = [] → Q .normal a w) ∧
    ∀ i ∈ Region.ready md ops listed, wpOp P ops Q i (fun a' w' => (W i = false → S w → S w') ∧ wpAnyL P md ops Q S W fuel (listed.setIfInBounds i true) a' w') a w
theorem wpAny_of_L : ∀ (fuel : Nat) (listed : Array Bool) (a : Act) (w : World), wpAnyL P md ops Q S W fuel listed a w → wpAny P md ops Q fuel listed a w
  | 0, _, _, _, h => h
  | fuel + 1, _, _, _, h => ⟨h.1, fun i hi => wpOp_mono (fun a' w' h' => wpAny_of_L fuel _ a' w' h'.2) (h.2 i hi)⟩
theorem wpAnyL_first {T : World → Prop} {i : Nat} {oi : Oper} {v : Value} (hi : ops[i]? = some oi) (hT : ∀ (j : Nat) (listed : Array Bool) (w w' : World), Closed md ops listed → j ∈ Region.ready md ops listed → listed.getD i true = false → (W j = false → S w → S w') → T w → T w') (hsel : ∀ (j : Nat) (o : Oper) cs b, ops[j]? = some o → o.op ≠ .select cs b)
    (hQ : ∀ c a w, Q (.panic c) (a.put oi.dst v) w → Q (.panic c) a w) :
    ∀ (fuel : Nat) (listed : Array Bool) (a : Act) (w : World),
      (∀ j oj, ops[j]? = some oj → j ≠ i → listed.getD j true = false → (∀ e ∈ oj.after, Region.binds md e = true → e.on ≠ i) → oi.apart ops oj = true) →
      Closed md ops listed → i ∈ Region.ready md ops listed → YieldsIf P ops T oi v a → T w →
      wpAnyL P md ops Q S W fuel (listed.setIfInBounds i true) (a.put oi.dst v) w → wpAnyL P md ops Q S W (fuel + 1) listed a w := by
  intro fuel
  induction fuel with
  | zero =>
    intro listed a w _ hcl hr hy hS H
    refine ⟨fun h => (by rw [h] at hr; cases hr), fun j hj => ?_⟩
    by_cases hji : j = i
    · subst hji; exact hy.wpOp hi hS ⟨fun _ h => h, H⟩
    · have := ready_mono hj hji
      rw [H.1] at this
      cases this
  | succ fuel ih =>
    intro listed a w hfree hcl hr hy hS H
    refine ⟨fun h => (by rw [h] at hr; cases hr), fun j hj => ?_⟩
    by_cases hji : j = i
    · subst hji; exact hy.wpOp hi hS ⟨fun _ h => h, H⟩
    · have h1 := H.2 j (ready_mono hj hji)
      obtain ⟨hjun, oj, hoj, hall⟩ := mem_ready.1 hj
      have hnot : ∀ e ∈ oj.after, Region.binds md e = true → e.on ≠ i := fun e he hb heq => by
        have h1 := hall e he hb
        have h0 := (mem_ready.1 hr).1
        rw [heq] at h1
        rcases Nat.lt_or_ge i listed.size with h' | h'
        · simp [h'] at h0 h1; rw [h0] at h1; cases h1
        · simp [Array.getElem?_eq_none h'] at h1
      have h2 := wpOp_putIf hoj (hfree j oj hoj hji hjun hnot) (fun cs b => hsel i oi cs b hi) (fun cs b => hsel j oj cs b hoj) hQ hy h1
      have hfree' : ∀ k ok, ops[k]? = some ok → k ≠ i → (listed.setIfInBounds j true).getD k true = false →
          (∀ e ∈ ok.after, Region.binds md e = true → e.on ≠ i) → oi.apart ops ok = true := fun k ok hk hki hun hno => by
        refine hfree k ok hk hki ?_ hno
        by_cases hjk : j = k
        · subst hjk; exact hjun
        · rw [getD_set_ne true hjk] at hun; exact hun
      refine wpOp_mono (fun a' w' h3 => ⟨h3.2.1, ih (listed.setIfInBounds j true) a' w' hfree' (hcl.set hj) (ready_mono hr (Ne.symm hji)) h3.1 (hT j listed w w' hcl hj (mem_ready.1 hr).1 h3.2.1 hS) ?_⟩) h2
      rw [Array.setIfInBounds_comm _ _ hji]
      exact h3.2.2

theorem startL (S : World → Prop) (W : Nat → Bool) {id : Nat} {a : Act} {w : World} (hm : P.follows .mixedOrders = true) (h : wpAnyL P .any ops Q S W ops.size (Array.replicate ops.size false) a w.drew) : (Code.region id ops true).wp P Q a w :=
  wp_region_any hm (wpAny_of_L _ _ _ _ h)
/-- What is read in worlds of S. -/
theorem takeL (i : Nat) {oi : Oper} {v : Value} {fuel : Nat} {listed : Array Bool} {a : Act} {w : World} (h0 : S w) (hi : ops.toList[i]? = some oi) (hWt : waitsB .any ops W i = true) (hs : Region.noSelect ops = true) (hf : Region.free .any ops listed i = true) (hr : (Region.ready .any ops listed).contains i = true) (hcl : closedB .any ops listed = true)
    (hQ : ∀ c a w, Q (.panic c) (a.put oi.dst v) w → Q (.panic c) a w) (hw : Region.wanted oi (yielded ops a.tmps) = true)
    (hy : ∀ w', S w' → (execOp a.eval oi).run P w' = .ok (.value v) w') (h : wpAnyL P .any ops Q S W fuel (listed.setIfInBounds i true) (a.put oi.dst v) w) : wpAnyL P .any ops Q S W (fuel + 1) listed a w :=
  have hi2 : ops[i]? = some oi := by simpa using hi
  wpAnyL_first (T := S) hi2 (fun j listed w w' hc hj hi0 hk hS => by
    cases hWj : W j with
    | false => exact hk hWj hS
    | true =>
      have h1 := waitsB_spec hWt hc hj hWj
      rcases Nat.lt_or_ge i listed.size with h' | h'
      · simp [h'] at hi0 h1; rw [hi0] at h1; cases h1
      · simp [Array.getElem?_eq_none h'] at h1) (Region.noSelect_spec hs) hQ fuel listed a w (Region.free_spec hi2 hf) (closedB_spec hcl) (by simpa using hr) (.inl ⟨hw, hy⟩) h0 h
/-- What is told in every world. -/
theorem takeP (i : Nat) {oi : Oper} {v : Value} {fuel : Nat} {listed : Array Bool} {a : Act} {w : World} (hi : ops.toList[i]? = some oi) (hs : Region.noSelect ops = true) (hf : Region.free .any ops listed i = true) (hr : (Region.ready .any ops listed).contains i = true) (hcl : closedB .any ops listed = true)
    (hQ : ∀ c a w, Q (.panic c) (a.put oi.dst v) w → Q (.panic c) a w) (hw : Region.wanted oi (yielded ops a.tmps) = true)
    (hy : ∀ w', (execOp a.eval oi).run P w' = .ok (.value v) w') (h : wpAnyL P .any ops Q S W fuel (listed.setIfInBounds i true) (a.put oi.dst v) w) : wpAnyL P .any ops Q S W (fuel + 1) listed a w :=
  have hi2 : ops[i]? = some oi := by simpa using hi
  wpAnyL_first (T := fun _ => True) hi2 (fun _ _ _ _ _ _ _ _ _ => trivial) (Region.noSelect_spec hs) hQ fuel listed a w (Region.free_spec hi2 hf) (closedB_spec hcl) (by simpa using hr) (.inl ⟨hw, fun w' _ => hy w'⟩) trivial h
theorem skipL (i : Nat) {oi : Oper} {fuel : Nat} {listed : Array Bool} {a : Act} {w : World} (hi : ops.toList[i]? = some oi) (hs : Region.noSelect ops = true) (hf : Region.free .any ops listed i = true) (hr : (Region.ready .any ops listed).contains i = true) (hcl : closedB .any ops listed = true)
    (hQ : ∀ c a w, Q (.panic c) (a.put oi.dst undef) w → Q (.panic c) a w) (hw : Region.wanted oi (yielded ops a.tmps) = false)
    (h : wpAnyL P .any ops Q S W fuel (listed.setIfInBounds i true) (a.put oi.dst undef) w) : wpAnyL P .any ops Q S W (fuel + 1) listed a w :=
  have hi2 : ops[i]? = some oi := by simpa using hi
  wpAnyL_first (T := fun _ => True) hi2 (fun _ _ _ _ _ _ _ _ _ => trivial) (Region.noSelect_spec hs) hQ fuel listed a w (Region.free_spec hi2 hf) (closedB_spec hcl) (by simpa using hr) (.inr ⟨hw, rfl⟩) trivial h
theorem stepL (i : Nat) {oi : Oper} {fuel : Nat} {listed : Array Bool} {a : Act} {w : World} (hi : ops.toList[i]? = some oi) (hr : Region.ready .any ops listed = [i]) (hw : Region.wanted oi (yielded ops a.tmps) = true)
    (h : ∀ K : Act → World → Prop, Shut (∀ a' w', (W i = false → S w → S w') → wpAnyL P .any ops Q S W fuel (listed.setIfInBounds i true) a' w' → K a' w') → oi.wp P a w K Q) : wpAnyL P .any ops Q S W (fuel + 1) listed a w := by
  have hi2 : ops[i]? = some oi := by simpa using hi
  refine ⟨fun h0 => (by rw [h0] at hr; cases hr), fun j hj => ?_⟩
  rw [hr] at hj
  obtain rfl := List.mem_singleton.mp hj
  unfold wpOp
  simp only [hi2, hw, if_true]
  exact .inl (h _ (fun a' w' h1 h2 => ⟨h1, h2⟩))
theorem doneL {fuel : Nat} {listed : Array Bool} {a : Act} {w : World} (hr : Region.ready .any ops listed = []) (h : Q .normal a w) : wpAnyL P .any ops Q S W fuel listed a w := by
  cases fuel with
  | zero => exact ⟨hr, h⟩
  | succ fuel => exact ⟨fun _ => h, by rw [hr]; simp⟩
end
section
variable {P : Program} {ops : Array Oper} {o : Oper} {a : Act} {Q : Exit → Act → World → Prop} {F : Nat → Prop} {w0 w : World} {L : List Own} {K : Act → World → Prop}
theorem opS {w' : World} (hr : (execOp a.eval o).run P w = .ok .skip w') (h : K (a.put o.dst undef) w') : o.wp P a w K Q := by
  unfold Oper.wp; rw [hr]; exact h
theorem oCell (t' : TypeId) (v : Value) (hs : (P.info? t').map (·.size) = some 1) (hc : v.cells = [v].toArray) (h1 : v.oneCell' = true) (H : SH F w0 w L) (i : Nat) {b off : Nat} {t : TypeId} {cs : List Value} (hi : L[i]? = some (.blk b t cs)) (hl : off + 1 ≤ cs.length) (new : List Value) (hn : lay cs off [v] = new) (p y : Operand) (ho : o.op = .store t' p y) (hx : a.eval p = .pointer (some ⟨b, off, none⟩)) (hy : a.eval y = v)
    (h : ∀ w', SH F w0 w' (L.set i (.blk b t new)) → K (a.put o.dst undef) w') : o.wp P a w K Q := by
  subst hn
  exact opS (exec_lay t' p y ho b off hx [v] cs (by rw [hy]; exact hc) t (H.va i hi) (by simpa using hs) hl (fun u hu => by rw [List.mem_singleton.mp hu]; exact h1)) (h _ (H.setRow i hi _))
end
section
variable {P : Program} {ops : Array Oper} {rest : List Oper} {o : Oper} {a : Act} {Q : Exit → Act → World → Prop} {F : Nat → Prop} {w0 w : World} {L : List Own}
/-- A number is put into a variable of its own. -/
theorem wBox1 (t : TypeId) (v : Value) (hc : v.cells = [v].toArray) (H : SH F w0 w L) (y : Operand) (ho : o.op = .box t y) (hx : a.eval y = v) (hw : Region.wanted o (yielded ops a.tmps) = true)
    (h : ∀ w', SH F w0 w' (.blk w.heap.size t [v] :: L) → wpList P ops Q rest (a.put o.dst (.pointer (some ⟨w.heap.size, 0, none⟩))) w') : wpList P ops Q (o :: rest) a w := by
  refine stepV (w' := w.alloc (.cells v.cells t)) ?_ hw (h _ (by rw [hc]; exact H.new t [v]))
  unfold execOp
  simp only [ho, hx]
  rfl
theorem wAlloc1 (t : TypeId) (z : Value) (hz : (P.info? t).map (·.zero) = some (some z)) (hc : z.cells = [z].toArray) (H : SH F w0 w L) (ho : o.op = .alloc t) (hw : Region.wanted o (yielded ops a.tmps) = true)
    (h : ∀ w', SH F w0 w' (.blk w.heap.size t [z] :: L) → wpList P ops Q rest (a.put o.dst (.pointer (some ⟨w.heap.size, 0, none⟩))) w') : wpList P ops Q (o :: rest) a w :=
  stepV (exec_alloc t ho z [z] hz hc) hw (h _ (H.new t [z]))
end
end Go.Proofs.Ytbglebchnlfklaa

namespace Go.Proofs.Ytbglebchnlfklaa
set_option maxRecDepth 100000
open Go.RowKit
section
variable {ops : Array Oper} {rest : List Oper} {o : Oper} {a : Act} {Q : Exit → Act → World → Prop} {w : World}
theorem appRoom (s x : Operand) (g n cap : Nat) (L ys : List UInt8) (vy : Value) (HV : VA w g 5 (L.map cb)) (HR : RB w vy ys) (hp : 0 < ys.length) (hcap : cap ≤ L.length) (hroom : n + ys.length ≤ cap)
    (hgd : o.guard = none) (ho : o.op = .call { callee := .builtin .append, args := #[s, x], argTypes := #[22, 22] }) (hs : a.eval s = .slice (some ⟨g, 0, none⟩) n cap) (hx : a.eval x = vy)
    (h : ∀ w', VA w' g 5 ((L.take n ++ ys ++ L.drop (n + ys.length)).map cb) → w.grownBy w' (some g) → wpList Try.prog ops Q rest (a.put o.dst (.slice (some ⟨g, 0, none⟩) (n + ys.length) cap)) w') :
    wpList Try.prog ops Q (o :: rest) a w := by
  obtain ⟨A, c, rfl, hc, hm, hcell⟩ := HR
  obtain ⟨ad, rfl, hcc⟩ := hcell hp
  obtain ⟨i0, hi, hz⟩ := Option.map_eq_some_iff.1 Try.info_u8
  simp only [Prod.mk.injEq] at hz
  obtain ⟨_, hz1, _⟩ := hz
  have hone : ∀ u ∈ ys.map cb, u.oneCell' = true := by
    intro u hu
    obtain ⟨y, _, rfl⟩ := List.mem_map.mp hu
    rfl
  rw [U8_all] at hcc
  have hr := run_append_room (P := Try.prog) w 22 o.type 5 i0 Try.underlying22 hi g n cap (L.map cb).toArray HV ad ys.length c (ys.map cb) (by rw [hz1]; simp) hcc hone hroom (by rw [hz1]; simp; omega)
  have e1 : (L.map cb).toArray.toList.take (n * i0.size) ++ ys.map cb ++ (L.map cb).toArray.toList.drop (n * i0.size + (ys.map cb).length) = (L.take n ++ ys ++ L.drop (n + ys.length)).map cb := by
    rw [hz1]
    simp
  rw [e1] at hr
  refine wpList_plain hgd fun K hK => ?_
  unfold Oper.wp execOp
  simp only [ho, resolve, invoke, builtin, Sem.run_bind, Sem.run_pure, Result.andThen_ok, List.map_toArray, List.map_cons, List.map_nil, hs, hx, hr]
  exact hK _ _ (h _ (HV.set _) (setRow_grown _ _ _))
/-- make([]byte, 0, n). -/
theorem exec_make0 {ρ : Operand → Value} (n : Nat) (h63 : n ≤ 1000000) (l c : Operand) (ho : o.op = .makeSlice 22 l c) (hl : ρ l = .int .i64 0) (hc : ρ c = .int .i64 (n : Int)) :
    (execOp ρ o).run Try.prog w = .ok (.value (.slice (some ⟨w.heap.size, 0, none⟩) 0 n)) (w.alloc (.cells ((List.replicate n (0 : UInt8)).map cb).toArray 5)) := by
  obtain ⟨i0, hi, hz0, hz1, hz2⟩ := info_parts Try.info_u8
  have h := run_make (P := Try.prog) w 22 5 i0 (.int .u8 0) Try.underlying22 hi hz0 .i64 .i64 0 (n : Int) (by omega) (by omega) (by rw [hz2]; omega) (by omega)
  have e1 : (madeCells #[.int .u8 0] n) = ((List.replicate n (0 : UInt8)).map cb).toArray := by
    apply Array.toList_inj.mp
    rw [toList_madeCells_one]
    simp
  have e2 : ((n : Int)).toNat = n := by omega
  rw [hz1, Nat.mul_one, e2] at h
  unfold execOp
  simp only [ho, hl, hc, h, Sem.run_bind, Sem.run_pure, Result.andThen_ok]
  rw [show (Value.int IntKind.u8 0).cells = #[.int .u8 0] from rfl, e1]
  rfl
theorem wpMake0 (n : Nat) (h63 : n ≤ 1000000) (l c : Operand) (ho : o.op = .makeSlice 22 l c) (hl : a.eval l = .int .i64 0) (hc : a.eval c = .int .i64 (n : Int)) (hw : Region.wanted o (yielded ops a.tmps) = true)
    (h : ∀ w', VA w' w.heap.size 5 ((List.replicate n (0 : UInt8)).map cb) → Below w.heap.size w w' → wpList Try.prog ops Q rest (a.put o.dst (.slice (some ⟨w.heap.size, 0, none⟩) 0 n)) w') : wpList Try.prog ops Q (o :: rest) a w :=
  stepV (exec_make0 n h63 l c ho hl hc) hw (h _ (VA.new w _ _) (alloc_belowAt w _))
/-- A block of the call's own, read as a row. -/
theorem OB.ofVA {base g : Nat} {xs : List UInt8} (h : VA w g 5 (xs.map cb)) (hb : base ≤ g) (hm : xs.length ≤ 1000000000) : OB w base (.slice (some ⟨g, 0, none⟩) xs.length xs.length) xs := by
  refine ⟨by rw [U8_all]; simp [U8], .inr ⟨g, xs.length, _, rfl, hb, h, Nat.le_refl _, by simp [maxLen]; omega, by simp [U8], by rw [U8_all]; simp only [U8, Nat.mul_one]; rw [List.take_of_length_le (by simp)]⟩⟩
end
end Go.Proofs.Ytbglebchnlfklaa

namespace Go.Proofs.Ytbglebchnlfklaa
set_option maxRecDepth 100000
open Go.RowKit
variable {P : Program} {α : Type}

/-- The things of a list hold. -/
def HOLD (L : List Own) (w : World) : Prop := ∀ o ∈ L, o.holds w
theorem HOLD.tail {o : Own} {L : List Own} {w : World} (h : HOLD (o :: L) w) : HOLD L w := fun o' h' => h o' (List.mem_cons_of_mem _ h')
theorem SH.hold {F : Nat → Prop} {w0 w : World} {L : List Own} (h : SH F w0 w L) : HOLD L w := h.holds
theorem HOLD.below {L : List Own} {w w' : World} (h : HOLD L w) (hb : Below w.heap.size w w') : HOLD L w' := fun o ho => o.keep w w' (h o ho) hb.size (fun b hf => hb.block b (o.lt w b (h o ho) hf))
theorem HOLD.drew {L : List Own} {w : World} (h : HOLD L w) : HOLD L w.drew := fun o ho => o.keep w w.drew (h o ho) (Nat.le_refl _) (fun _ _ => rfl)

/-- Block b stands in the list. -/
class HasB (L : List Own) (b : Nat) (t : outParam TypeId) (cs : outParam (List Value)) (put : outParam (List Value → List Own)) : Prop where
  ix : ∃ i, L[i]? = some (.blk b t cs) ∧ ∀ new, L.set i (.blk b t new) = put new
instance HasB.here {L : List Own} {b : Nat} {t : TypeId} {cs : List Value} : HasB (.blk b t cs :: L) b t cs (fun new => .blk b t new :: L) := ⟨0, rfl, fun _ => rfl⟩
instance (priority := low) HasB.there {o : Own} {L : List Own} {b : Nat} {t : TypeId} {cs : List Value} {put : List Value → List Own} [h : HasB L b t cs put] : HasB (o :: L) b t cs (fun new => o :: put new) := by
  obtain ⟨i, h1, h2⟩ := h.ix
  exact ⟨i + 1, by simpa using h1, fun new => by rw [List.set_cons_succ, h2]⟩
/-- Row v stands in the list. -/
class HasR (L : List Own) (v : Value) (α : outParam Type) (T : outParam (Ty α)) (xs : outParam (List α)) (put : outParam (Value → List α → List Own)) : Prop where
  ix : ∃ i, L[i]? = some (.row T v xs) ∧ ∀ v' ys, L.set i (.row T v' ys) = put v' ys
instance HasR.here {L : List Own} {v : Value} {T : Ty α} {xs : List α} : HasR (.row T v xs :: L) v α T xs (fun v' ys => .row T v' ys :: L) := ⟨0, rfl, fun _ _ => rfl⟩
instance (priority := low) HasR.there {o : Own} {L : List Own} {v : Value} {T : Ty α} {xs : List α} {put : Value → List α → List Own} [h : HasR L v α T xs put] : HasR (o :: L) v α T xs (fun v' ys => o :: put v' ys) := by
  obtain ⟨i, h1, h2⟩ := h.ix
  exact ⟨i + 1, by simpa using h1, fun v' ys => by rw [List.set_cons_succ, h2]⟩
theorem HOLD.va {L : List Own} {w : World} {b : Nat} {t : TypeId} {cs : List Value} {put : List Value → List Own} (h : HOLD L w) [hb : HasB L b t cs put] : VA w b t cs := by
  obtain ⟨i, h1, _⟩ := hb.ix
  exact h _ (List.mem_of_getElem? h1)
theorem HOLD.or {L : List Own} {w : World} {v : Value} {T : Ty α} {xs : List α} {put : Value → List α → List Own} (h : HOLD L w) [hr : HasR L v α T xs put] : OR T w 0 v xs := by
  obtain ⟨i, h1, _⟩ := hr.ix
  exact h _ (List.mem_of_getElem? h1)
theorem HOLD.rr {L : List Own} {w : World} (v : Value) {T : Ty α} {xs : List α} {put : Value → List α → List Own} (h : HOLD L w) [HasR L v α T xs put] : RR T w v xs := h.or.reads
theorem SH.ow {w0 w : World} {L : List Own} (v : Value) {T : Ty α} {xs : List α} {put : Value → List α → List Own} (h : SH Nil w0 w L) [hr : HasR L v α T xs put] : OR T w w0.heap.size v xs := by
  obtain ⟨i, h1, _⟩ := hr.ix
  exact h.orow i h1

/-- Two stretches of a walk: what lay there, and what came since. -/
theorem SH.join {F : Nat → Prop} {w0 w w' : World} {L L' : List Own} (h : SH F w0 w L) (k : SH Nil w w' L') : SH F w0 w' (L' ++ L) := by
  have h2 := h.step k.below
  refine ⟨h2.chg, fun o ho => ?_, fun o ho b hb => ?_, List.pairwise_append.2 ⟨k.apart, h.apart, fun o ho o' ho' b hb hb' => ?_⟩⟩
  · rcases List.mem_append.mp ho with ho | ho
    · exact k.holds o ho
    · exact h2.holds o ho
  · rcases List.mem_append.mp ho with ho | ho
    · rcases k.foot o ho b hb with h3 | h3
      · exact h3.elim
      · exact .inr (Nat.le_trans h.size h3)
    · exact h2.foot o ho b hb
  · have h4 := o'.lt w b (h.holds o' ho') hb'
    rcases k.foot o ho b hb with h3 | h3
    · exact h3.elim
    · omega
/-- A thing is brought to the front. -/
theorem SH.bring {F : Nat → Prop} {w0 w : World} {L : List Own} (h : SH F w0 w L) (i : Nat) {o : Own} (hi : L[i]? = some o) : SH F w0 w (o :: L.eraseIdx i) := by
  obtain ⟨hl, he⟩ := List.getElem?_eq_some_iff.1 hi
  have hm := List.mem_of_getElem? hi
  refine ⟨h.chg, fun x hx => ?_, fun x hx => ?_, List.Pairwise.cons (fun x hx b h1 h2 => ?_) (h.apart.sublist (List.eraseIdx_sublist L i))⟩
  · rcases List.mem_cons.mp hx with rfl | hx
    · exact h.holds _ hm
    · exact h.holds x ((List.eraseIdx_sublist L i).subset hx)
  · rcases List.mem_cons.mp hx with rfl | hx
    · exact h.foot _ hm
    · exact h.foot x ((List.eraseIdx_sublist L i).subset hx)
  · obtain ⟨j, hj, rfl⟩ := List.mem_iff_getElem.1 hx
    have hap := List.pairwise_iff_getElem.1 h.apart
    rw [List.length_eraseIdx, if_pos hl] at hj
    rw [List.getElem_eraseIdx] at h2
    split at h2
    · rw [← he] at h1; exact hap j i (by omega) hl (by omega) b h2 h1
    · rw [← he] at h1; exact hap i (j + 1) hl (by omega) (by omega) b h1 h2
/-- Two things, as one. -/
theorem SH.merge {F : Nat → Prop} {w0 w : World} {o1 o2 : Own} {L : List Own} (h : SH F w0 w (o1 :: o2 :: L)) (o : Own) (hh : o1.holds w → o2.holds w → o.holds w) (hf : ∀ b, o.foot b → o1.foot b ∨ o2.foot b) : SH F w0 w (o :: L) := by
  have m1 : o1 ∈ o1 :: o2 :: L := by simp
  have m2 : o2 ∈ o1 :: o2 :: L := by simp
  have ap := List.pairwise_cons.1 h.apart
  have ap2 := List.pairwise_cons.1 ap.2
  refine ⟨h.chg, fun x hx => ?_, fun x hx b hb => ?_, List.Pairwise.cons (fun x hx b h1 h2 => ?_) ap2.2⟩
  · rcases List.mem_cons.mp hx with rfl | hx
    · exact hh (h.holds _ m1) (h.holds _ m2)
    · exact h.holds x (by simp [hx])
  · rcases List.mem_cons.mp hx with rfl | hx
    · rcases hf b hb with h1 | h1
      · exact h.foot _ m1 b h1
      · exact h.foot _ m2 b h1
    · exact h.foot x (by simp [hx]) b hb
  · rcases hf b h1 with h3 | h3
    · exact ap.1 x (by simp [hx]) b h3 h2
    · exact ap2.1 x hx b h3 h2
/-- A callee that was handed a block. -/
theorem SH.viaB {F : Nat → Prop} {w0 w w' : World} {L : List Own} {b : Nat} {t : TypeId} {cs new : List Value} {put : List Value → List Own} (h : SH F w0 w L) [hb : HasB L b t cs put] (k : SH (fun k => k = b) w w' [.blk b t new]) : SH F w0 w' (put new) := by
  obtain ⟨i, h1, h2⟩ := hb.ix
  rw [← h2]
  exact h.via i h1 k
/-- A callee that was handed a row. -/
theorem SH.viaR {F : Nat → Prop} {w0 w w' : World} {L : List Own} {v v' : Value} {T : Ty α} {xs ys : List α} {put : Value → List α → List Own} (h : SH F w0 w L) [hb : HasR L v α T xs put] (k : SH (rowF v) w w' [.row T v' ys]) : SH F w0 w' (put v' ys) := by
  obtain ⟨i, h1, h2⟩ := hb.ix
  rw [← h2]
  exact h.via i h1 k
/-- What a type of several cells is. -/
class TI (P : Program) (t : TypeId) (n : outParam Nat) (zero : outParam (List Value)) : Prop where
  under : ∃ d, P.underlying t = some d ∧ d.isRow = true
  size : (P.info? t).map (·.size) = some n
  zinfo : (P.info? t).map (·.zero) = some (some (.agg zero.toArray))
  zbuilt : P.built t [] = some zero.toArray
  zlen : zero.length = n
/-- What a type of one cell is. -/
class TS (P : Program) (t : TypeId) (z : outParam Value) : Prop where
  under : ∃ d, P.underlying t = some d ∧ d.isRow = false
  size : (P.info? t).map (·.size) = some 1
  zinfo : (P.info? t).map (·.zero) = some (some z)
  cells : z.cells = [z].toArray

section
variable {ops : Array Oper} {rest : List Oper} {o : Oper} {a : Act} {Q : Exit → Act → World → Prop} {F : Nat → Prop} {w0 w : World} {L : List Own} {ρ : Operand → Value}
variable {b off n : Nat} {t t2 : TypeId} {cs vs new z : List Value} {v zv : Value} {put : List Value → List Own} {y p : Operand}

theorem xLoad (h : HOLD L w) (y : Operand) (ho : o.op = .load t y) (hx : ρ y = .pointer (some ⟨b, off, none⟩)) [HasB L b t2 cs put] [T : TI P t n z] (hp : (cs.drop off).take n = vs) (hl : vs.length = n) : (execOp ρ o).run P w = .ok (.value (.agg vs.toArray)) w := by
  obtain ⟨d, h1, h2⟩ := T.under
  exact exec_load t y ho b off hx vs d (h.va.range off vs (by rw [hl]; exact hp)) h1 h2 (by rw [hl]; exact T.size)
theorem run_loadVar1 {P : Program} {w : World} {ad : Addr} {t : TypeId} {v z : Value} (hc : w.cell? ad = some v) [T : TS P t z] : (loadVar t ad).run P w = .ok v w := by
  obtain ⟨d, h1, h2⟩ := T.under
  have hagg : (isAgg t).run P w = .ok false w := by
    unfold isAgg
    rw [Sem.run_bind, run_underlying h1 w]
    cases d <;> simp_all [TypeDesc.isRow]
  simp [loadVar, Sem.run_bind, hagg, hc]
theorem xLoadC (y : Operand) (ho : o.op = .load t y) {ad : Addr} (hx : ρ y = .pointer (some ad)) [TS P t zv] (hc : w.cell? ad = some v) : (execOp ρ o).run P w = .ok (.value v) w := by
  unfold execOp
  simp only [ho, hx, Instr.loadAt, Instr.sureAddr, Sem.run_bind, Sem.run_pure, Result.andThen_ok, run_loadVar1 (P := P) (t := t) hc]
theorem xLoad1 (h : HOLD L w) (y : Operand) (ho : o.op = .load t y) (hx : ρ y = .pointer (some ⟨b, off, none⟩)) [HasB L b t2 cs put] [TS P t zv] (hc : cs[off]? = some v) : (execOp ρ o).run P w = .ok (.value v) w :=
  xLoadC y ho hx (h.va.cell off |>.trans hc)

theorem gDst (k : Nat) {op : Op} {ty : TypeId} {q : String} {af : Array Edge} {gd : Option (Nat × Bool)} (h : wpList P ops Q (⟨some k, op, ty, q, af, gd⟩ :: rest) a w) : wpList P ops Q (⟨some k, op, ty, q, af, gd⟩ :: rest) a w := h
theorem gSto (p y : Operand) {t : TypeId} {d : Option Tmp} {ty : TypeId} {q : String} {af : Array Edge} {gd : Option (Nat × Bool)} (h : wpList P ops Q (⟨d, .store t p y, ty, q, af, gd⟩ :: rest) a w) : wpList P ops Q (⟨d, .store t p y, ty, q, af, gd⟩ :: rest) a w := h

theorem aBox (H : SH F w0 w L) (y : Operand) (ho : o.op = .box t y) (hx : a.eval y = .agg cs.toArray) (hw : Region.wanted o (yielded ops a.tmps) = true)
    (h : ∀ b w', SH F w0 w' (.blk b t cs :: L) → wpList P ops Q rest (a.put o.dst (.pointer (some ⟨b, 0, none⟩))) w') : wpList P ops Q (o :: rest) a w :=
  stepV (exec_box t y ho cs hx) hw (h _ _ (H.new _ _))
theorem aBox1 (H : SH F w0 w L) (y : Operand) (ho : o.op = .box t y) (hx : a.eval y = v) (hc : v.cells = [v].toArray) (hw : Region.wanted o (yielded ops a.tmps) = true)
    (h : ∀ b w', SH F w0 w' (.blk b t [v] :: L) → wpList P ops Q rest (a.put o.dst (.pointer (some ⟨b, 0, none⟩))) w') : wpList P ops Q (o :: rest) a w := by
  refine stepV (w' := w.alloc (.cells v.cells t)) ?_ hw (h _ _ (by rw [hc]; exact H.new t [v]))
  unfold execOp
  simp only [ho, hx]
  rfl
theorem aAlloc (H : SH F w0 w L) (ho : o.op = .alloc t) [T : TI P t n z] (hw : Region.wanted o (yielded ops a.tmps) = true)
    (h : ∀ b w', SH F w0 w' (.blk b t z :: L) → wpList P ops Q rest (a.put o.dst (.pointer (some ⟨b, 0, none⟩))) w') : wpList P ops Q (o :: rest) a w :=
  stepV (exec_alloc t ho _ z T.zinfo rfl) hw (h _ _ (H.new _ _))
theorem aAlloc1 (H : SH F w0 w L) (ho : o.op = .alloc t) [T : TS P t zv] (hw : Region.wanted o (yielded ops a.tmps) = true)
    (h : ∀ b w', SH F w0 w' (.blk b t [zv] :: L) → wpList P ops Q rest (a.put o.dst (.pointer (some ⟨b, 0, none⟩))) w') : wpList P ops Q (o :: rest) a w :=
  stepV (exec_alloc t ho zv [zv] T.zinfo T.cells) hw (h _ _ (H.new _ _))
theorem aZero (ho : o.op = .build t #[]) [T : TI P t n z] (hw : Region.wanted o (yielded ops a.tmps) = true) (h : wpList P ops Q rest (a.put o.dst (.agg z.toArray)) w) : wpList P ops Q (o :: rest) a w :=
  stepV (exec_zero t ho _ T.zbuilt) hw h
theorem aLoad (H : SH F w0 w L) (y : Operand) (ho : o.op = .load t y) (hx : a.eval y = .pointer (some ⟨b, off, none⟩)) [HasB L b t2 cs put] [TI P t n z] (hp : (cs.drop off).take n = vs) (hl : vs.length = n) (hw : Region.wanted o (yielded ops a.tmps) = true)
    (h : wpList P ops Q rest (a.put o.dst (.agg vs.toArray)) w) : wpList P ops Q (o :: rest) a w :=
  stepV (xLoad H.hold y ho hx hp hl) hw h
theorem aLoad1 (H : SH F w0 w L) (y : Operand) (ho : o.op = .load t y) (hx : a.eval y = .pointer (some ⟨b, off, none⟩)) [HasB L b t2 cs put] [TS P t zv] (hc : cs[off]? = some v) (hw : Region.wanted o (yielded ops a.tmps) = true)
    (h : wpList P ops Q rest (a.put o.dst v) w) : wpList P ops Q (o :: rest) a w :=
  stepV (xLoad1 H.hold y ho hx hc) hw h
/-- An element that is read: its cell is told. -/
theorem aLoadC (y : Operand) (ho : o.op = .load t y) {ad : Addr} (hx : a.eval y = .pointer (some ad)) [TS P t zv] (hc : w.cell? ad = some v) (hw : Region.wanted o (yielded ops a.tmps) = true)
    (h : wpList P ops Q rest (a.put o.dst v) w) : wpList P ops Q (o :: rest) a w :=
  stepV (xLoadC y ho hx hc) hw h
theorem xLay (H : SH F w0 w L) (p y : Operand) (ho : o.op = .store t p y) (hx : ρ p = .pointer (some ⟨b, off, none⟩)) (hy : ρ y = .agg vs.toArray) [hb : HasB L b t2 cs put] [T : TI P t n z] (hl : off + n ≤ cs.length ∧ vs.length = n) (h1 : (vs.all fun u => u.oneCell') = true) (hn : lay cs off vs = new) :
    ∃ w', (execOp ρ o).run P w = .ok .skip w' ∧ SH F w0 w' (put new) := by
  obtain ⟨i, h2, h3⟩ := hb.ix
  subst hn
  refine ⟨_, exec_lay t p y ho b off hx vs cs (by rw [hy]; rfl) t2 (H.va i h2) (by rw [hl.2]; exact T.size) (by rw [hl.2]; exact hl.1) (List.all_eq_true.1 h1), ?_⟩
  rw [← h3]
  exact H.setRow i h2 _
theorem xCell (H : SH F w0 w L) (p y : Operand) (ho : o.op = .store t p y) (hx : ρ p = .pointer (some ⟨b, off, none⟩)) (hy : ρ y = v) [hb : HasB L b t2 cs put] [T : TS P t zv] (hc : v.cells = [v].toArray) (h1 : v.oneCell' = true) (hl : off < cs.length) (hn : cs.set off v = new) :
    ∃ w', (execOp ρ o).run P w = .ok .skip w' ∧ SH F w0 w' (put new) := by
  obtain ⟨i, h2, h3⟩ := hb.ix
  subst hn
  have e : lay cs off [v] = cs.set off v := by rw [lay, List.set_eq_take_append_cons_drop, if_pos hl, List.append_assoc]; rfl
  refine ⟨_, exec_lay t p y ho b off hx [v] cs (by rw [hy]; exact hc) t2 (H.va i h2) (by simpa using T.size) (by simp only [List.length_singleton]; omega) (fun u hu => by rw [List.mem_singleton.mp hu]; exact h1), ?_⟩
  rw [← h3, ← e]
  exact H.setRow i h2 _
theorem xCellC (H : SH F w0 w L) (p y : Operand) (ho : o.op = .store t p y) (hx : ρ p = .pointer (some ⟨b, off, none⟩)) (hy : ρ y = v) [hb : HasB L b t2 cs put] [T : TS P t zv] (hc : v.cells = [v].toArray) (h1 : v.oneCell' = true) (hl : off < cs.length) (hn : cs.set off v = new) :
    ∃ w', (execOp ρ o).run P w = .ok .skip w' ∧ Chg (fun k => k = b) w w' ∧ SH F w0 w' (put new) := by
  obtain ⟨i, h2, h3⟩ := hb.ix
  subst hn
  have e : lay cs off [v] = cs.set off v := by rw [lay, List.set_eq_take_append_cons_drop, if_pos hl, List.append_assoc]; rfl
  refine ⟨_, exec_lay t p y ho b off hx [v] cs (by rw [hy]; exact hc) t2 (H.va i h2) (by simpa using T.size) (by simp only [List.length_singleton]; omega) (fun u hu => by rw [List.mem_singleton.mp hu]; exact h1), ?_, ?_⟩
  · have := chg_grown (setRow_grown w b (lay cs off [v]).toArray)
    exact ⟨this.os, this.tape, this.output, this.size, fun k hk hn => this.block k hk (fun e => hn (by injection e with e; exact e.symm))⟩
  · rw [← h3, ← e]
    exact H.setRow i h2 _
theorem aCellC (H : SH F w0 w L) (p y : Operand) (ho : o.op = .store t p y) (hx : a.eval p = .pointer (some ⟨b, off, none⟩)) (hy : a.eval y = v) [HasB L b t2 cs put] [TS P t zv] (hc : v.cells = [v].toArray) (h1 : v.oneCell' = true) (hl : off < cs.length) (hn : cs.set off v = new) (hw : Region.wanted o (yielded ops a.tmps) = true)
    (h : ∀ w', Chg (fun k => k = b) w w' → SH F w0 w' (put new) → wpList P ops Q rest (a.put o.dst undef) w') : wpList P ops Q (o :: rest) a w := by
  obtain ⟨w', hr, hch, H'⟩ := xCellC (P := P) (ρ := a.eval) H p y ho hx hy hc h1 hl hn
  exact stepS hr hw (h w' hch H')
theorem oCellC {K : Act → World → Prop} (H : SH F w0 w L) (p y : Operand) (ho : o.op = .store t p y) (hx : a.eval p = .pointer (some ⟨b, off, none⟩)) (hy : a.eval y = v) [HasB L b t2 cs put] [TS P t zv] (hc : v.cells = [v].toArray) (h1 : v.oneCell' = true) (hl : off < cs.length) (hn : cs.set off v = new)
    (h : ∀ w', Chg (fun k => k = b) w w' → SH F w0 w' (put new) → K (a.put o.dst undef) w') : o.wp P a w K Q := by
  obtain ⟨w', hr, hch, H'⟩ := xCellC (P := P) (ρ := a.eval) H p y ho hx hy hc h1 hl hn
  exact opS hr (h w' hch H')
theorem aLay (H : SH F w0 w L) (p y : Operand) (ho : o.op = .store t p y) (hx : a.eval p = .pointer (some ⟨b, off, none⟩)) (hy : a.eval y = .agg vs.toArray) [HasB L b t2 cs put] [TI P t n z] (hl : off + n ≤ cs.length ∧ vs.length = n) (h1 : (vs.all fun u => u.oneCell') = true) (hn : lay cs off vs = new) (hw : Region.wanted o (yielded ops a.tmps) = true)
    (h : ∀ w', SH F w0 w' (put new) → wpList P ops Q rest (a.put o.dst undef) w') : wpList P ops Q (o :: rest) a w := by
  obtain ⟨w', hr, H'⟩ := xLay (P := P) (ρ := a.eval) H p y ho hx hy hl h1 hn
  exact stepS hr hw (h w' H')
theorem lay_whole {cs vs : List Value} (h : cs.length = vs.length) : lay cs 0 vs = vs := by
  rw [lay, List.take_zero, List.nil_append, Nat.zero_add, List.drop_of_length_le (by omega), List.append_nil]
/-- The whole of a variable. -/
theorem aStore (H : SH F w0 w L) (p y : Operand) (ho : o.op = .store t p y) (hx : a.eval p = .pointer (some ⟨b, 0, none⟩)) (hy : a.eval y = .agg vs.toArray) [HasB L b t cs put] [TI P t n z] (hl : cs.length = n ∧ vs.length = n) (h1 : (vs.all fun u => u.oneCell') = true) (hw : Region.wanted o (yielded ops a.tmps) = true)
    (h : ∀ w', SH F w0 w' (put vs) → wpList P ops Q rest (a.put o.dst undef) w') : wpList P ops Q (o :: rest) a w :=
  aLay H p y ho hx hy (by omega) h1 (lay_whole (by omega)) hw h
theorem aCell (H : SH F w0 w L) (p y : Operand) (ho : o.op = .store t p y) (hx : a.eval p = .pointer (some ⟨b, off, none⟩)) (hy : a.eval y = v) [HasB L b t2 cs put] [TS P t zv] (hc : v.cells = [v].toArray) (h1 : v.oneCell' = true) (hl : off < cs.length) (hn : cs.set off v = new) (hw : Region.wanted o (yielded ops a.tmps) = true)
    (h : ∀ w', SH F w0 w' (put new) → wpList P ops Q rest (a.put o.dst undef) w') : wpList P ops Q (o :: rest) a w := by
  obtain ⟨w', hr, H'⟩ := xCell (P := P) (ρ := a.eval) H p y ho hx hy hc h1 hl hn
  exact stepS hr hw (h w' H')
end
/-! What lay there before the call. -/
section
variable {ops : Array Oper} {rest : List Oper} {o : Oper} {a : Act} {Q : Exit → Act → World → Prop} {w0 w : World} {L R : List Own} {ρ : Operand → Value}
variable {b off n : Nat} {t t2 : TypeId} {cs vs new z : List Value} {v zv : Value} {put : List Value → List Own} {y p : Operand}
/-- Things of before, in the world at hand. -/
theorem SH.old (H : SH Nil w0 w L) (RO : HOLD R w0) : HOLD R w := RO.below H.below
theorem aLoadR (RO : HOLD R w0) (H : SH Nil w0 w L) (y : Operand) (ho : o.op = .load t y) (hx : a.eval y = .pointer (some ⟨b, off, none⟩)) [HasB R b t2 cs put] [TI P t n z] (hp : (cs.drop off).take n = vs) (hl : vs.length = n) (hw : Region.wanted o (yielded ops a.tmps) = true)
    (h : wpList P ops Q rest (a.put o.dst (.agg vs.toArray)) w) : wpList P ops Q (o :: rest) a w :=
  stepV (xLoad (H.old RO) y ho hx hp hl) hw h
theorem aLoadR1 (RO : HOLD R w0) (H : SH Nil w0 w L) (y : Operand) (ho : o.op = .load t y) (hx : a.eval y = .pointer (some ⟨b, off, none⟩)) [HasB R b t2 cs put] [TS P t zv] (hc : cs[off]? = some v) (hw : Region.wanted o (yielded ops a.tmps) = true)
    (h : wpList P ops Q rest (a.put o.dst v) w) : wpList P ops Q (o :: rest) a w :=
  stepV (xLoad1 (H.old RO) y ho hx hc) hw h
/-- What is told of a block, as a list of one. -/
theorem HOLD.one {w : World} {b : Nat} {t : TypeId} {cs : List Value} (h : VA w b t cs) : HOLD [.blk b t cs] w := fun o ho => by rw [List.mem_singleton.mp ho]; exact h
theorem HOLD.cons {w : World} {b : Nat} {t : TypeId} {cs : List Value} {L : List Own} (h : VA w b t cs) (hl : HOLD L w) : HOLD (.blk b t cs :: L) w := fun o ho => by
  rcases List.mem_cons.mp ho with rfl | ho
  · exact h
  · exact hl o ho
theorem HOLD.nil (w : World) : HOLD [] w := fun _ h => by cases h
end
section
variable {ops : Array Oper} {rest : List Oper} {o : Oper} {a : Act} {Q : Exit → Act → World → Prop} {F : Nat → Prop} {w0 w : World} {L : List Own}
theorem aAppend (T : ST P α) (H : SH F w0 w L) (s x : Operand) (ho : o.op = .call { callee := .builtin .append, args := #[s, x], argTypes := #[T.t, T.t] }) {A : Option Addr} {len cap : Nat} {vy : Value} {xs ys : List α} {put : Value → List α → List Own} (hs : a.eval s = .slice A len cap) (hx : a.eval x = vy) [hr : HasR L (.slice A len cap) α T.toTy xs put] (HR : RR T.toTy w vy ys) (hl : (xs.length + ys.length) * T.bytes ≤ 140737488355328)
    (hw : Region.wanted o (yielded ops a.tmps) = true) (h : ∀ v1 w1 zs, Hid (zs = xs ++ ys) → SH F w0 w1 (put v1 zs) → wpList P ops Q rest (a.put o.dst v1) w1) : wpList P ops Q (o :: rest) a w := by
  obtain ⟨i, h1, h2⟩ := hr.ix
  exact wAppend T H i h1 vy ys HR hl s x ho hs hx hw fun v1 w1 k => h v1 w1 _ (Lib.hid rfl) (by rw [← h2]; exact k)
theorem aAppLit (T : ST P α) (ys : List α) (cs : Array Value) (hcs : cs.toList = T.all ys) (hm : ys.length ≤ 1000000000) (n : Nat) (hn : ys.length = n) (H : SH F w0 w L) (s x : Operand) (ho : o.op = .call { callee := .builtin .append, args := #[s, x], argTypes := #[T.t, T.t] }) {A : Option Addr} {len cap : Nat} {xs : List α} {put : Value → List α → List Own} (hs : a.eval s = .slice A len cap) (hx : a.eval x = .slice (some ⟨w.heap.size, 0, none⟩) n n) [hr : HasR L (.slice A len cap) α T.toTy xs put] (hl : (xs.length + n) * T.bytes ≤ 140737488355328)
    (hw : Region.wanted o (yielded ops a.tmps) = true) (h : ∀ v1 w1 zs, Hid (zs = xs ++ ys) → SH F w0 w1 (put v1 zs) → wpList P ops Q rest (a.put o.dst v1) w1) : wpList P ops Q (o :: rest) a (w.alloc (.cells cs T.id)) := by
  obtain ⟨i, h1, h2⟩ := hr.ix
  exact wAppLit T ys cs hcs hm n hn H i h1 hl s x ho hs hx hw fun v1 w1 k => h v1 w1 _ (Lib.hid rfl) (by rw [← h2]; exact k)
theorem aAppB1 (b : UInt8) (H : SH F w0 w L) (s x : Operand) (ho : o.op = .call { callee := .builtin .append, args := #[s, x], argTypes := #[22, 22] }) {A : Option Addr} {len cap : Nat} {xs : List UInt8} {put : Value → List UInt8 → List Own} (hs : a.eval s = .slice A len cap) (hx : a.eval x = .slice (some ⟨w.heap.size, 0, none⟩) 1 1) [hr : HasR L (.slice A len cap) UInt8 B8 xs put] (hl : xs.length ≤ 1000000000)
    (hw : Region.wanted o (yielded ops a.tmps) = true) (h : ∀ v1 w1 zs, Hid (zs = xs ++ [b]) → SH F w0 w1 (put v1 zs) → wpList Try.prog ops Q rest (a.put o.dst v1) w1) : wpList Try.prog ops Q (o :: rest) a (w.alloc (.cells #[.int .u8 (b.toNat : Int)] 5)) :=
  aAppLit sB [b] #[.int .u8 (b.toNat : Int)] rfl (by simp) 1 rfl H s x ho hs hx (by show (xs.length + 1) * 1 ≤ _; omega) hw h
theorem aAppBs (H : SH F w0 w L) (s x : Operand) (ho : o.op = .call { callee := .builtin .append, args := #[s, x], argTypes := #[22, 22] }) {A : Option Addr} {len cap : Nat} {vy : Value} {xs ys : List UInt8} {put : Value → List UInt8 → List Own} (hs : a.eval s = .slice A len cap) (hx : a.eval x = vy) [hr : HasR L (.slice A len cap) UInt8 B8 xs put] (HR : RB w vy ys) (hl : xs.length ≤ 1000000000 ∧ ys.length ≤ 1000000000)
    (hw : Region.wanted o (yielded ops a.tmps) = true) (h : ∀ v1 w1 zs, Hid (zs = xs ++ ys) → SH F w0 w1 (put v1 zs) → wpList Try.prog ops Q rest (a.put o.dst v1) w1) : wpList Try.prog ops Q (o :: rest) a w :=
  aAppend sB H s x ho hs hx HR (by show (xs.length + ys.length) * 1 ≤ _; omega) hw h
theorem aMake0 (n : Nat) (hn : n ≤ 1000000) (H : SH F w0 w L) (l c : Operand) (ho : o.op = .makeSlice 22 l c) (hl : a.eval l = .int .i64 0) (hc : a.eval c = .int .i64 (n : Int)) (hw : Region.wanted o (yielded ops a.tmps) = true)
    (h : ∀ b w', SH F w0 w' (.row B8 (.slice (some ⟨b, 0, none⟩) 0 n) [] :: L) → wpList Try.prog ops Q rest (a.put o.dst (.slice (some ⟨b, 0, none⟩) 0 n)) w') : wpList Try.prog ops Q (o :: rest) a w :=
  stepV (exec_make0 n hn l c ho hl hc) hw (h _ _ (H.pushRow (alloc_belowAt w _) (World.ownsRow_made w _ n (Nat.le_refl _) (by simp [maxLen]; omega) (by simp [U8]))))
end
/-! Operations of a region that draws its order, as steps; two, or three, that may come first. -/
section
variable {ops : Array Oper} {o : Oper} {a : Act} {Q : Exit → Act → World → Prop} {F : Nat → Prop} {w0 w : World} {L : List Own} {K : Act → World → Prop}
variable {b off n : Nat} {t t2 : TypeId} {cs vs new z : List Value} {v zv : Value} {put : List Value → List Own}
theorem oAlloc (H : SH F w0 w L) (ho : o.op = .alloc t) [T : TI P t n z] (h : ∀ b w', Below w.heap.size w w' → SH F w0 w' (.blk b t z :: L) → K (a.put o.dst (.pointer (some ⟨b, 0, none⟩))) w') : o.wp P a w K Q :=
  opV (exec_alloc t ho _ z T.zinfo rfl) (h _ _ (alloc_belowAt w _) (H.new _ _))
theorem oAlloc1 (H : SH F w0 w L) (ho : o.op = .alloc t) [T : TS P t zv] (h : ∀ b w', Below w.heap.size w w' → SH F w0 w' (.blk b t [zv] :: L) → K (a.put o.dst (.pointer (some ⟨b, 0, none⟩))) w') : o.wp P a w K Q :=
  opV (exec_alloc t ho zv [zv] T.zinfo T.cells) (h _ _ (alloc_belowAt w _) (H.new _ _))
theorem oBox (H : SH F w0 w L) (y : Operand) (ho : o.op = .box t y) (hx : a.eval y = .agg cs.toArray) (h : ∀ b w', Below w.heap.size w w' → SH F w0 w' (.blk b t cs :: L) → K (a.put o.dst (.pointer (some ⟨b, 0, none⟩))) w') : o.wp P a w K Q :=
  opV (exec_box t y ho cs hx) (h _ _ (alloc_belowAt w _) (H.new _ _))
theorem oBox1 (H : SH F w0 w L) (y : Operand) (ho : o.op = .box t y) (hx : a.eval y = v) (hc : v.cells = [v].toArray) (h : ∀ b w', Below w.heap.size w w' → SH F w0 w' (.blk b t [v] :: L) → K (a.put o.dst (.pointer (some ⟨b, 0, none⟩))) w') : o.wp P a w K Q := by
  refine opV (w' := w.alloc (.cells v.cells t)) ?_ (h _ _ (alloc_belowAt w _) (by rw [hc]; exact H.new t [v]))
  unfold execOp
  simp only [ho, hx]
  rfl
theorem oLay (H : SH F w0 w L) (p y : Operand) (ho : o.op = .store t p y) (hx : a.eval p = .pointer (some ⟨b, off, none⟩)) (hy : a.eval y = .agg vs.toArray) [HasB L b t2 cs put] [TI P t n z] (hl : off + n ≤ cs.length ∧ vs.length = n) (h1 : (vs.all fun u => u.oneCell') = true) (hn : lay cs off vs = new)
    (h : ∀ w', SH F w0 w' (put new) → K (a.put o.dst undef) w') : o.wp P a w K Q := by
  obtain ⟨w', hr, H'⟩ := xLay (P := P) (ρ := a.eval) H p y ho hx hy hl h1 hn
  exact opS hr (h w' H')
theorem oStore (H : SH F w0 w L) (p y : Operand) (ho : o.op = .store t p y) (hx : a.eval p = .pointer (some ⟨b, 0, none⟩)) (hy : a.eval y = .agg vs.toArray) [HasB L b t2 cs put] [TI P t n z] (hl : cs.length = n ∧ vs.length = n) (h1 : (vs.all fun u => u.oneCell') = true)
    (h : ∀ w', SH F w0 w' (put vs) → K (a.put o.dst undef) w') : o.wp P a w K Q :=
  oLay H p y ho hx hy (by omega) h1 (lay_whole (by omega)) h
theorem oCellA (H : SH F w0 w L) (p y : Operand) (ho : o.op = .store t p y) (hx : a.eval p = .pointer (some ⟨b, off, none⟩)) (hy : a.eval y = v) [HasB L b t2 cs put] [TS P t zv] (hc : v.cells = [v].toArray) (h1 : v.oneCell' = true) (hl : off < cs.length) (hn : cs.set off v = new)
    (h : ∀ w', SH F w0 w' (put new) → K (a.put o.dst undef) w') : o.wp P a w K Q := by
  obtain ⟨w', hr, H'⟩ := xCell (P := P) (ρ := a.eval) H p y ho hx hy hc h1 hl hn
  exact opS hr (h w' H')
theorem oAppB1 (b : UInt8) (H : SH F w0 w L) (s x : Operand) (ho : o.op = .call { callee := .builtin .append, args := #[s, x], argTypes := #[22, 22] }) {A : Option Addr} {len cap : Nat} {xs : List UInt8} {put : Value → List UInt8 → List Own} (hs : a.eval s = .slice A len cap) (hx : a.eval x = .slice (some ⟨w.heap.size, 0, none⟩) 1 1) [hr : HasR L (.slice A len cap) UInt8 B8 xs put] (hl : xs.length ≤ 1000000000)
    (h : ∀ v1 w1 zs, Hid (zs = xs ++ [b]) → SH F w0 w1 (put v1 zs) → K (a.put o.dst v1) w1) : o.wp Try.prog a (w.alloc (.cells #[.int .u8 (b.toNat : Int)] 5)) K Q := by
  obtain ⟨i, h1, h2⟩ := hr.ix
  exact oAppLit sB [b] #[.int .u8 (b.toNat : Int)] rfl (by simp) 1 rfl H i h1 (by show (xs.length + 1) * 1 ≤ _; omega) s x ho hs hx fun v1 w1 k => h v1 w1 _ (Lib.hid rfl) (by rw [← h2]; exact k)
theorem oAppN {α : Type} (T : ST P α) (H : SH F w0 w L) (s x : Operand) (ho : o.op = .call { callee := .builtin .append, args := #[s, x], argTypes := #[T.t, T.t] }) {A : Option Addr} {len cap : Nat} {vy : Value} {xs ys : List α} {put : Value → List α → List Own} (hs : a.eval s = .slice A len cap) (hx : a.eval x = vy) [hr : HasR L (.slice A len cap) α T.toTy xs put] (HR : RR T.toTy w vy ys) (hl : (xs.length + ys.length) * T.bytes ≤ 140737488355328)
    (h : ∀ v1 w1 zs, Hid (zs = xs ++ ys) → SH F w0 w1 (put v1 zs) → K (a.put o.dst v1) w1) : o.wp P a w K Q := by
  obtain ⟨i, h1, h2⟩ := hr.ix
  exact oAppend T H i h1 vy ys HR hl s x ho hs hx fun v1 w1 k => h v1 w1 _ (Lib.hid rfl) (by rw [← h2]; exact k)
theorem oAppL {α : Type} (T : ST P α) (ys : List α) (cs : Array Value) (hcs : cs.toList = T.all ys) (hm : ys.length ≤ 1000000000) (n : Nat) (hn : ys.length = n) (H : SH F w0 w L) (s x : Operand) (ho : o.op = .call { callee := .builtin .append, args := #[s, x], argTypes := #[T.t, T.t] }) {A : Option Addr} {len cap : Nat} {xs : List α} {put : Value → List α → List Own} (hs : a.eval s = .slice A len cap) (hx : a.eval x = .slice (some ⟨w.heap.size, 0, none⟩) n n) [hr : HasR L (.slice A len cap) α T.toTy xs put] (hl : (xs.length + n) * T.bytes ≤ 140737488355328)
    (h : ∀ v1 w1 zs, Hid (zs = xs ++ ys) → SH F w0 w1 (put v1 zs) → K (a.put o.dst v1) w1) : o.wp P a (w.alloc (.cells cs T.id)) K Q := by
  obtain ⟨i, h1, h2⟩ := hr.ix
  exact oAppLit T ys cs hcs hm n hn H i h1 hl s x ho hs hx fun v1 w1 k => h v1 w1 _ (Lib.hid rfl) (by rw [← h2]; exact k)
variable {S : World → Prop} {W : Nat → Bool}
theorem stepL2 (i j : Nat) {oi oj : Oper} {fuel : Nat} {listed : Array Bool} (hi : ops.toList[i]? = some oi) (hj : ops.toList[j]? = some oj) (hr : Region.ready .any ops listed = [i, j]) (hw : Region.wanted oi (yielded ops a.tmps) = true) (hw2 : Region.wanted oj (yielded ops a.tmps) = true)
    (h : ∀ K : Act → World → Prop, Shut (∀ a' w', (W i = false → S w → S w') → wpAnyL P .any ops Q S W fuel (listed.setIfInBounds i true) a' w' → K a' w') → oi.wp P a w K Q)
    (h2 : ∀ K : Act → World → Prop, Shut (∀ a' w', (W j = false → S w → S w') → wpAnyL P .any ops Q S W fuel (listed.setIfInBounds j true) a' w' → K a' w') → oj.wp P a w K Q) : wpAnyL P .any ops Q S W (fuel + 1) listed a w := by
  have hi2 : ops[i]? = some oi := by simpa using hi
  have hj2 : ops[j]? = some oj := by simpa using hj
  refine ⟨fun h0 => (by rw [h0] at hr; cases hr), fun k hk => ?_⟩
  rw [hr] at hk
  rcases List.mem_cons.mp hk with rfl | hk
  · unfold wpOp
    simp only [hi2, hw, if_true]
    exact .inl (h _ (fun a' w' h1 h2 => ⟨h1, h2⟩))
  · obtain rfl := List.mem_singleton.mp hk
    unfold wpOp
    simp only [hj2, hw2, if_true]
    exact .inl (h2 _ (fun a' w' h1 h2 => ⟨h1, h2⟩))
theorem stepL3 (i j l : Nat) {oi oj ol : Oper} {fuel : Nat} {listed : Array Bool} (hi : ops.toList[i]? = some oi) (hj : ops.toList[j]? = some oj) (hl : ops.toList[l]? = some ol) (hr : Region.ready .any ops listed = [i, j, l]) (hw : Region.wanted oi (yielded ops a.tmps) = true) (hw2 : Region.wanted oj (yielded ops a.tmps) = true) (hw3 : Region.wanted ol (yielded ops a.tmps) = true)
    (h : ∀ K : Act → World → Prop, Shut (∀ a' w', (W i = false → S w → S w') → wpAnyL P .any ops Q S W fuel (listed.setIfInBounds i true) a' w' → K a' w') → oi.wp P a w K Q)
    (h2 : ∀ K : Act → World → Prop, Shut (∀ a' w', (W j = false → S w → S w') → wpAnyL P .any ops Q S W fuel (listed.setIfInBounds j true) a' w' → K a' w') → oj.wp P a w K Q)
    (h3 : ∀ K : Act → World → Prop, Shut (∀ a' w', (W l = false → S w → S w') → wpAnyL P .any ops Q S W fuel (listed.setIfInBounds l true) a' w' → K a' w') → ol.wp P a w K Q) : wpAnyL P .any ops Q S W (fuel + 1) listed a w := by
  have hi2 : ops[i]? = some oi := by simpa using hi
  have hj2 : ops[j]? = some oj := by simpa using hj
  have hl2 : ops[l]? = some ol := by simpa using hl
  refine ⟨fun h0 => (by rw [h0] at hr; cases hr), fun k hk => ?_⟩
  rw [hr] at hk
  rcases List.mem_cons.mp hk with rfl | hk
  · unfold wpOp
    simp only [hi2, hw, if_true]
    exact .inl (h _ (fun a' w' h1 h2 => ⟨h1, h2⟩))
  rcases List.mem_cons.mp hk with rfl | hk
  · unfold wpOp
    simp only [hj2, hw2, if_true]
    exact .inl (h2 _ (fun a' w' h1 h2 => ⟨h1, h2⟩))
  · obtain rfl := List.mem_singleton.mp hk
    unfold wpOp
    simp only [hl2, hw3, if_true]
    exact .inl (h3 _ (fun a' w' h1 h2 => ⟨h1, h2⟩))
end
/-- An empty literal. -/
theorem xEmpty {P : Program} {o : Oper} {ρ : Operand → Value} {w : World} (T : ST P α) (ho : o.op = .buildSlice T.t 0 #[]) : (execOp ρ o).run P w = .ok (.value (.slice (some ⟨w.heap.size, 0, none⟩) 0 0)) (w.alloc (.cells #[] T.id)) := by
  obtain ⟨i0, hi, hzz⟩ := Option.map_eq_some_iff.1 T.hinfo
  simp only [Prod.mk.injEq] at hzz
  unfold execOp
  simp [ho, Instr.buildSlice, run_underlying T.ht, sizeOf, typeInfo, hi, Instr.fill, newRow]
  rw [show Array.range 0 = #[] from rfl, Array.map_empty]
section
variable {ops : Array Oper} {rest : List Oper} {o : Oper} {a : Act} {Q : Exit → Act → World → Prop} {F : Nat → Prop} {w0 w : World} {L : List Own}
theorem aEmpty (T : ST P α) (H : SH F w0 w L) (ho : o.op = .buildSlice T.t 0 #[]) (hw : Region.wanted o (yielded ops a.tmps) = true)
    (h : ∀ b w', SH F w0 w' (.row T.toTy (.slice (some ⟨b, 0, none⟩) 0 0) [] :: L) → wpList P ops Q rest (a.put o.dst (.slice (some ⟨b, 0, none⟩) 0 0)) w') : wpList P ops Q (o :: rest) a w := by
  refine stepV (xEmpty T ho) hw (h _ _ (H.pushRow (alloc_belowAt w _) ?_))
  exact OR.lit T.toTy w w.heap.size [] #[] rfl (Nat.le_refl _) (by simp)
theorem gSlit {t : TypeId} {n : Nat} {ps : Array (Nat × Operand)} {d : Option Tmp} {ty : TypeId} {q : String} {af : Array Edge} {gd : Option (Nat × Bool)} (h : wpList P ops Q (⟨d, .buildSlice t n ps, ty, q, af, gd⟩ :: rest) a w) : wpList P ops Q (⟨d, .buildSlice t n ps, ty, q, af, gd⟩ :: rest) a w := h
end
/-- A slice's value, as an element of rows of slices. -/
abbrev SVV := Option Addr × Nat × Nat
def SVV.val (s : SVV) : Value := .slice s.1 s.2.1 s.2.2
/-- A row that is read: nothing is said of who may write it. -/
def Own.rd (T : Ty α) (v : Value) (xs : List α) : Own where
  foot k := 0 < xs.length ∧ ∃ (ad : Addr) (n c : Nat), v = .slice (some ad) n c ∧ ad.block = k
  holds w := RR T w v xs
  lt w k h e := by
    obtain ⟨hp, ad, n, c, rfl, rfl⟩ := e
    obtain ⟨A, c2, e2, _, _, h3⟩ := h
    obtain ⟨ad2, rfl, hc⟩ := h3 hp
    injection e2 with e3 _ _
    injection e3 with e3
    subst e3
    have hl : 0 < (T.all xs).length := by rw [Ty.all_length]; exact Nat.mul_pos hp T.hsz
    have := hc 0 _ (List.getElem?_eq_getElem hl)
    rw [Addr.add_zero'] at this
    exact World.block_lt_of_cell? w ad this
  keep w w' h hs hk := by
    obtain ⟨A, c2, rfl, h1, h2, h3⟩ := h
    refine ⟨A, c2, rfl, h1, h2, fun hp => ?_⟩
    obtain ⟨ad2, rfl, hc⟩ := h3 hp
    refine ⟨ad2, rfl, fun j u hj => ?_⟩
    rw [← hc j u hj]
    have hb : (ad2.add j).block = ad2.block := by unfold Addr.add; split <;> rfl
    exact World.cell?_of_block (w := w) (by rw [hb]; exact hk _ ⟨hp, ad2, _, _, rfl, rfl⟩)
/-- What slice v reads. -/
class HasD (L : List Own) (v : Value) (α : outParam Type) (T : outParam (Ty α)) (xs : outParam (List α)) : Prop where
  get : ∀ w, HOLD L w → RR T w v xs
instance HasD.rd {L : List Own} {v : Value} {T : Ty α} {xs : List α} : HasD (.rd T v xs :: L) v α T xs := ⟨fun _ h => h _ (List.mem_cons_self ..)⟩
instance HasD.row {L : List Own} {v : Value} {T : Ty α} {xs : List α} : HasD (.row T v xs :: L) v α T xs := ⟨fun _ h => OR.reads (h _ (List.mem_cons_self ..))⟩
instance (priority := low) HasD.there {o : Own} {L : List Own} {v : Value} {T : Ty α} {xs : List α} [h : HasD L v α T xs] : HasD (o :: L) v α T xs := ⟨fun w hw => h.get w hw.tail⟩
theorem HOLD.rd {L : List Own} {w : World} (v : Value) {T : Ty α} {xs : List α} (h : HOLD L w) [k : HasD L v α T xs] : RR T w v xs := k.get w h
theorem HOLD.rdOne {w : World} {v : Value} {T : Ty α} {xs : List α} (h : RR T w v xs) : HOLD [.rd T v xs] w := fun o ho => by rw [List.mem_singleton.mp ho]; exact h
theorem HOLD.rdCons {w : World} {v : Value} {T : Ty α} {xs : List α} {L : List Own} (h : RR T w v xs) (hl : HOLD L w) : HOLD (.rd T v xs :: L) w := fun o ho => by
  rcases List.mem_cons.mp ho with rfl | ho
  · exact h
  · exact hl o ho
section
variable {ops : Array Oper} {rest : List Oper} {o : Oper} {a : Act} {Q : Exit → Act → World → Prop} {F : Nat → Prop} {w0 w : World} {L R : List Own} {ρ : Operand → Value} {A : Option Addr} {len cap : Nat}
theorem xStr {xs : List UInt8} (y : Operand) (ho : o.op = .convert 22 9 y) (hx : ρ y = .slice A len cap) (h : HOLD L w) [HasD L (.slice A len cap) UInt8 B8 xs] : (execOp ρ o).run Try.prog w = .ok (.value (.string (str xs))) w := by
  have := RR.string (P := Try.prog) (h.rd (.slice A len cap)) Try.underlying22 Try.underlying5 Try.underlying9
  unfold execOp
  simp only [ho, hx, this, Sem.run_bind, Sem.run_pure, Result.andThen_ok]
theorem aStr {xs : List UInt8} (H : SH F w0 w L) (y : Operand) (ho : o.op = .convert 22 9 y) (hx : a.eval y = .slice A len cap) [HasD L (.slice A len cap) UInt8 B8 xs] (hw : Region.wanted o (yielded ops a.tmps) = true) (h : wpList Try.prog ops Q rest (a.put o.dst (.string (str xs))) w) : wpList Try.prog ops Q (o :: rest) a w :=
  stepV (xStr y ho hx H.hold) hw h
theorem aStrR {xs : List UInt8} (RO : HOLD R w0) (H : SH Nil w0 w L) (y : Operand) (ho : o.op = .convert 22 9 y) (hx : a.eval y = .slice A len cap) [HasD R (.slice A len cap) UInt8 B8 xs] (hw : Region.wanted o (yielded ops a.tmps) = true) (h : wpList Try.prog ops Q rest (a.put o.dst (.string (str xs))) w) : wpList Try.prog ops Q (o :: rest) a w :=
  stepV (xStr y ho hx (H.old RO)) hw h
theorem gConv {src dst : TypeId} {y : Operand} {d : Option Tmp} {ty : TypeId} {q : String} {af : Array Edge} {gd : Option (Nat × Bool)} (h : wpList P ops Q (⟨d, .convert src dst y, ty, q, af, gd⟩ :: rest) a w) : wpList P ops Q (⟨d, .convert src dst y, ty, q, af, gd⟩ :: rest) a w := h
end
/-! What the program's types are. -/
instance instTS1 : TS Try.prog 1 (.nilFunc) := ⟨⟨_, Try.underlying1, rfl⟩, by kernel_rfl, by kernel_rfl, rfl⟩
instance instTS2 : TS Try.prog 2 (.int .i64 0) := ⟨⟨_, Try.underlying2, rfl⟩, by kernel_rfl, by kernel_rfl, rfl⟩
instance instTS3 : TS Try.prog 3 (.int .i64 0) := ⟨⟨_, Try.underlying3, rfl⟩, by kernel_rfl, by kernel_rfl, rfl⟩
instance instTS4 : TS Try.prog 4 (.bool false) := ⟨⟨_, Try.underlying4, rfl⟩, by kernel_rfl, by kernel_rfl, rfl⟩
instance instTS5 : TS Try.prog 5 (.int .u8 0) := ⟨⟨_, Try.underlying5, rfl⟩, by kernel_rfl, by kernel_rfl, rfl⟩
instance instTI7 : TI Try.prog 7 4 [.int .i64 0, .int .i64 0, .bool false, .int .u8 0] := ⟨⟨_, Try.underlying7, rfl⟩, by kernel_rfl, by kernel_rfl, by kernel_rfl, rfl⟩
instance instTS9 : TS Try.prog 9 (.string ByteArray.empty) := ⟨⟨_, Try.underlying9, rfl⟩, by kernel_rfl, by kernel_rfl, rfl⟩
instance instTS12 : TS Try.prog 12 (.int .u64 0) := ⟨⟨_, Try.underlying12, rfl⟩, by kernel_rfl, by kernel_rfl, rfl⟩
instance instTI13 : TI Try.prog 13 2 [.string ByteArray.empty, .int .u64 0] := ⟨⟨_, Try.underlying13, rfl⟩, by kernel_rfl, by kernel_rfl, by kernel_rfl, rfl⟩
instance instTS15 : TS Try.prog 15 (.pointer none) := ⟨⟨_, Try.underlying15, rfl⟩, by kernel_rfl, by kernel_rfl, rfl⟩
instance instTS16 : TS Try.prog 16 (.pointer none) := ⟨⟨_, Try.underlying16, rfl⟩, by kernel_rfl, by kernel_rfl, rfl⟩
instance instTS17 : TS Try.prog 17 (.pointer none) := ⟨⟨_, Try.underlying17, rfl⟩, by kernel_rfl, by kernel_rfl, rfl⟩
instance instTI18 : TI Try.prog 18 1 [.pointer none] := ⟨⟨_, Try.underlying18, rfl⟩, by kernel_rfl, by kernel_rfl, by kernel_rfl, rfl⟩
instance instTS20 : TS Try.prog 20 (.nilIface) := ⟨⟨_, Try.underlying20, rfl⟩, by kernel_rfl, by kernel_rfl, rfl⟩
instance instTS21 : TS Try.prog 21 (.int .i32 0) := ⟨⟨_, Try.underlying21, rfl⟩, by kernel_rfl, by kernel_rfl, rfl⟩
instance instTS22 : TS Try.prog 22 (.slice none 0 0) := ⟨⟨_, Try.underlying22, rfl⟩, by kernel_rfl, by kernel_rfl, rfl⟩
instance instTS23 : TS Try.prog 23 (.nilFunc) := ⟨⟨_, Try.underlying23, rfl⟩, by kernel_rfl, by kernel_rfl, rfl⟩
instance instTS24 : TS Try.prog 24 (.int .u32 0) := ⟨⟨_, Try.underlying24, rfl⟩, by kernel_rfl, by kernel_rfl, rfl⟩
instance instTS25 : TS Try.prog 25 (.slice none 0 0) := ⟨⟨_, Try.underlying25, rfl⟩, by kernel_rfl, by kernel_rfl, rfl⟩
instance instTS26 : TS Try.prog 26 (.slice none 0 0) := ⟨⟨_, Try.underlying26, rfl⟩, by kernel_rfl, by kernel_rfl, rfl⟩
instance instTI27 : TI Try.prog 27 32 (List.replicate 32 (.int .u8 0)) := ⟨⟨_, Try.underlying27, rfl⟩, by kernel_rfl, by kernel_rfl, by kernel_rfl, rfl⟩
instance instTI28 : TI Try.prog 28 2 [.int .u32 0, .int .u32 0] := ⟨⟨_, Try.underlying28, rfl⟩, by kernel_rfl, by kernel_rfl, by kernel_rfl, rfl⟩
instance instTI29 : TI Try.prog 29 35 (List.replicate 32 (.int .u8 0) ++ [.int .u32 0, .int .u32 0, .int .u32 0]) := ⟨⟨_, Try.underlying29, rfl⟩, by kernel_rfl, by kernel_rfl, by kernel_rfl, rfl⟩
instance instTI30 : TI Try.prog 30 35 (List.replicate 32 (.int .u8 0) ++ [.int .u32 0, .int .u32 0, .int .u32 0]) := ⟨⟨_, Try.underlying30, rfl⟩, by kernel_rfl, by kernel_rfl, by kernel_rfl, rfl⟩
instance instTI31 : TI Try.prog 31 39 ([.int .u32 0, .slice none 0 0, .slice none 0 0, .int .u32 0] ++ List.replicate 32 (.int .u8 0) ++ [.int .u32 0, .int .u32 0, .int .u32 0]) := ⟨⟨_, Try.underlying31, rfl⟩, by kernel_rfl, by kernel_rfl, by kernel_rfl, rfl⟩
instance instTI32 : TI Try.prog 32 39 ([.int .u32 0, .slice none 0 0, .slice none 0 0, .int .u32 0] ++ List.replicate 32 (.int .u8 0) ++ [.int .u32 0, .int .u32 0, .int .u32 0]) := ⟨⟨_, Try.underlying32, rfl⟩, by kernel_rfl, by kernel_rfl, by kernel_rfl, rfl⟩
instance instTS33 : TS Try.prog 33 (.int .i64 0) := ⟨⟨_, Try.underlying33, rfl⟩, by kernel_rfl, by kernel_rfl, rfl⟩
instance instTS35 : TS Try.prog 35 (.nilFunc) := ⟨⟨_, Try.underlying35, rfl⟩, by kernel_rfl, by kernel_rfl, rfl⟩
instance instTS36 : TS Try.prog 36 (.nilFunc) := ⟨⟨_, Try.underlying36, rfl⟩, by kernel_rfl, by kernel_rfl, rfl⟩
instance instTS37 : TS Try.prog 37 (.nilFunc) := ⟨⟨_, Try.underlying37, rfl⟩, by kernel_rfl, by kernel_rfl, rfl⟩
instance instTS38 : TS Try.prog 38 (.nilFunc) := ⟨⟨_, Try.underlying38, rfl⟩, by kernel_rfl, by kernel_rfl, rfl⟩
instance instTS40 : TS Try.prog 40 (.nilFunc) := ⟨⟨_, Try.underlying40, rfl⟩, by kernel_rfl, by kernel_rfl, rfl⟩
instance instTS41 : TS Try.prog 41 (.nilFunc) := ⟨⟨_, Try.underlying41, rfl⟩, by kernel_rfl, by kernel_rfl, rfl⟩
instance instTS42 : TS Try.prog 42 (.nilFunc) := ⟨⟨_, Try.underlying42, rfl⟩, by kernel_rfl, by kernel_rfl, rfl⟩
instance instTS43 : TS Try.prog 43 (.nilFunc) := ⟨⟨_, Try.underlying43, rfl⟩, by kernel_rfl, by kernel_rfl, rfl⟩
instance instTS44 : TS Try.prog 44 (.nilFunc) := ⟨⟨_, Try.underlying44, rfl⟩, by kernel_rfl, by kernel_rfl, rfl⟩
instance instTS45 : TS Try.prog 45 (.nilFunc) := ⟨⟨_, Try.underlying45, rfl⟩, by kernel_rfl, by kernel_rfl, rfl⟩
instance instTS46 : TS Try.prog 46 (.slice none 0 0) := ⟨⟨_, Try.underlying46, rfl⟩, by kernel_rfl, by kernel_rfl, rfl⟩
instance instTI47 : TI Try.prog 47 38 ([.int .u32 0, .string ByteArray.empty] ++ List.replicate 32 (.int .u8 0) ++ [.int .u32 0, .int .u32 0, .int .u32 0, .slice none 0 0]) := ⟨⟨_, Try.underlying47, rfl⟩, by kernel_rfl, by kernel_rfl, by kernel_rfl, rfl⟩
instance instTI48 : TI Try.prog 48 38 ([.int .u32 0, .string ByteArray.empty] ++ List.replicate 32 (.int .u8 0) ++ [.int .u32 0, .int .u32 0, .int .u32 0, .slice none 0 0]) := ⟨⟨_, Try.underlying48, rfl⟩, by kernel_rfl, by kernel_rfl, by kernel_rfl, rfl⟩
instance instTI49 : TI Try.prog 49 74 ([.string ByteArray.empty, .int .u32 0] ++ List.replicate 32 (.int .u8 0) ++ [.int .u32 0, .int .u32 0, .int .u32 0] ++ List.replicate 32 (.int .u8 0) ++ [.int .u32 0, .int .u32 0, .int .u32 0, .bool false, .bool false]) := ⟨⟨_, Try.underlying49, rfl⟩, by kernel_rfl, by kernel_rfl, by kernel_rfl, rfl⟩
instance instTI50 : TI Try.prog 50 74 ([.string ByteArray.empty, .int .u32 0] ++ List.replicate 32 (.int .u8 0) ++ [.int .u32 0, .int .u32 0, .int .u32 0] ++ List.replicate 32 (.int .u8 0) ++ [.int .u32 0, .int .u32 0, .int .u32 0, .bool false, .bool false]) := ⟨⟨_, Try.underlying50, rfl⟩, by kernel_rfl, by kernel_rfl, by kernel_rfl, rfl⟩
instance instTI51 : TI Try.prog 51 35 ([.int .u32 0, .string ByteArray.empty, .int .i64 0] ++ List.replicate 32 (.int .u8 0)) := ⟨⟨_, Try.underlying51, rfl⟩, by kernel_rfl, by kernel_rfl, by kernel_rfl, rfl⟩
instance instTI52 : TI Try.prog 52 35 ([.int .u32 0, .string ByteArray.empty, .int .i64 0] ++ List.replicate 32 (.int .u8 0)) := ⟨⟨_, Try.underlying52, rfl⟩, by kernel_rfl, by kernel_rfl, by kernel_rfl, rfl⟩
instance instTS53 : TS Try.prog 53 (.nilFunc) := ⟨⟨_, Try.underlying53, rfl⟩, by kernel_rfl, by kernel_rfl, rfl⟩
instance instTI54 : TI Try.prog 54 512 (List.replicate 512 (.int .u8 0)) := ⟨⟨_, Try.underlying54, rfl⟩, by kernel_rfl, by kernel_rfl, by kernel_rfl, rfl⟩
instance instTS56 : TS Try.prog 56 (.nilFunc) := ⟨⟨_, Try.underlying56, rfl⟩, by kernel_rfl, by kernel_rfl, rfl⟩
instance instTS57 : TS Try.prog 57 (.nilFunc) := ⟨⟨_, Try.underlying57, rfl⟩, by kernel_rfl, by kernel_rfl, rfl⟩
instance instTS58 : TS Try.prog 58 (.nilFunc) := ⟨⟨_, Try.underlying58, rfl⟩, by kernel_rfl, by kernel_rfl, rfl⟩
instance instTS59 : TS Try.prog 59 (.pointer none) := ⟨⟨_, Try.underlying59, rfl⟩, by kernel_rfl, by kernel_rfl, rfl⟩
instance instTS60 : TS Try.prog 60 (.nilFunc) := ⟨⟨_, Try.underlying60, rfl⟩, by kernel_rfl, by kernel_rfl, rfl⟩
instance instTI61 : TI Try.prog 61 2 [.slice none 0 0, .bool false] := ⟨⟨_, Try.underlying61, rfl⟩, by kernel_rfl, by kernel_rfl, by kernel_rfl, rfl⟩
instance instTI62 : TI Try.prog 62 2 [.slice none 0 0, .bool false] := ⟨⟨_, Try.underlying62, rfl⟩, by kernel_rfl, by kernel_rfl, by kernel_rfl, rfl⟩
instance instTS63 : TS Try.prog 63 (.nilFunc) := ⟨⟨_, Try.underlying63, rfl⟩, by kernel_rfl, by kernel_rfl, rfl⟩
instance instTS64 : TS Try.prog 64 (.nilFunc) := ⟨⟨_, Try.underlying64, rfl⟩, by kernel_rfl, by kernel_rfl, rfl⟩
instance instTS65 : TS Try.prog 65 (.nilFunc) := ⟨⟨_, Try.underlying65, rfl⟩, by kernel_rfl, by kernel_rfl, rfl⟩
instance instTS66 : TS Try.prog 66 (.nilFunc) := ⟨⟨_, Try.underlying66, rfl⟩, by kernel_rfl, by kernel_rfl, rfl⟩
instance instTS67 : TS Try.prog 67 (.nilFunc) := ⟨⟨_, Try.underlying67, rfl⟩, by kernel_rfl, by kernel_rfl, rfl⟩
instance instTS68 : TS Try.prog 68 (.pointer none) := ⟨⟨_, Try.underlying68, rfl⟩, by kernel_rfl, by kernel_rfl, rfl⟩
instance instTI69 : TI Try.prog 69 2 [.slice none 0 0, .bool false] := ⟨⟨_, Try.underlying69, rfl⟩, by kernel_rfl, by kernel_rfl, by kernel_rfl, rfl⟩
instance instTI70 : TI Try.prog 70 2 [.slice none 0 0, .bool false] := ⟨⟨_, Try.underlying70, rfl⟩, by kernel_rfl, by kernel_rfl, by kernel_rfl, rfl⟩
instance instTS71 : TS Try.prog 71 (.nilFunc) := ⟨⟨_, Try.underlying71, rfl⟩, by kernel_rfl, by kernel_rfl, rfl⟩
instance instTS72 : TS Try.prog 72 (.int .u64 0) := ⟨⟨_, Try.underlying72, rfl⟩, by kernel_rfl, by kernel_rfl, rfl⟩
instance instTS73 : TS Try.prog 73 (.nilFunc) := ⟨⟨_, Try.underlying73, rfl⟩, by kernel_rfl, by kernel_rfl, rfl⟩
instance instTS74 : TS Try.prog 74 (.pointer none) := ⟨⟨_, Try.underlying74, rfl⟩, by kernel_rfl, by kernel_rfl, rfl⟩
instance instTI75 : TI Try.prog 75 1 [.slice none 0 0] := ⟨⟨_, Try.underlying75, rfl⟩, by kernel_rfl, by kernel_rfl, by kernel_rfl, rfl⟩
instance instTI76 : TI Try.prog 76 1 [.slice none 0 0] := ⟨⟨_, Try.underlying76, rfl⟩, by kernel_rfl, by kernel_rfl, by kernel_rfl, rfl⟩
instance instTS77 : TS Try.prog 77 (.nilFunc) := ⟨⟨_, Try.underlying77, rfl⟩, by kernel_rfl, by kernel_rfl, rfl⟩
instance instTS78 : TS Try.prog 78 (.nilFunc) := ⟨⟨_, Try.underlying78, rfl⟩, by kernel_rfl, by kernel_rfl, rfl⟩
instance instTS79 : TS Try.prog 79 (.nilFunc) := ⟨⟨_, Try.underlying79, rfl⟩, by kernel_rfl, by kernel_rfl, rfl⟩
instance instTS80 : TS Try.prog 80 (.nilFunc) := ⟨⟨_, Try.underlying80, rfl⟩, by kernel_rfl, by kernel_rfl, rfl⟩
instance instTS81 : TS Try.prog 81 (.nilFunc) := ⟨⟨_, Try.underlying81, rfl⟩, by kernel_rfl, by kernel_rfl, rfl⟩
instance instTS82 : TS Try.prog 82 (.nilFunc) := ⟨⟨_, Try.underlying82, rfl⟩, by kernel_rfl, by kernel_rfl, rfl⟩
instance instTS83 : TS Try.prog 83 (.nilFunc) := ⟨⟨_, Try.underlying83, rfl⟩, by kernel_rfl, by kernel_rfl, rfl⟩
instance instTS84 : TS Try.prog 84 (.nilFunc) := ⟨⟨_, Try.underlying84, rfl⟩, by kernel_rfl, by kernel_rfl, rfl⟩
instance instTS85 : TS Try.prog 85 (.nilFunc) := ⟨⟨_, Try.underlying85, rfl⟩, by kernel_rfl, by kernel_rfl, rfl⟩
instance instTS86 : TS Try.prog 86 (.nilFunc) := ⟨⟨_, Try.underlying86, rfl⟩, by kernel_rfl, by kernel_rfl, rfl⟩
instance instTS87 : TS Try.prog 87 (.nilFunc) := ⟨⟨_, Try.underlying87, rfl⟩, by kernel_rfl, by kernel_rfl, rfl⟩
instance instTS88 : TS Try.prog 88 (.nilFunc) := ⟨⟨_, Try.underlying88, rfl⟩, by kernel_rfl, by kernel_rfl, rfl⟩
instance instTS89 : TS Try.prog 89 (.nilFunc) := ⟨⟨_, Try.underlying89, rfl⟩, by kernel_rfl, by kernel_rfl, rfl⟩
instance instTS90 : TS Try.prog 90 (.nilFunc) := ⟨⟨_, Try.underlying90, rfl⟩, by kernel_rfl, by kernel_rfl, rfl⟩
instance instTS91 : TS Try.prog 91 (.nilFunc) := ⟨⟨_, Try.underlying91, rfl⟩, by kernel_rfl, by kernel_rfl, rfl⟩
instance instTS92 : TS Try.prog 92 (.nilFunc) := ⟨⟨_, Try.underlying92, rfl⟩, by kernel_rfl, by kernel_rfl, rfl⟩
instance instTS93 : TS Try.prog 93 (.nilFunc) := ⟨⟨_, Try.underlying93, rfl⟩, by kernel_rfl, by kernel_rfl, rfl⟩
instance instTS94 : TS Try.prog 94 (.nilFunc) := ⟨⟨_, Try.underlying94, rfl⟩, by kernel_rfl, by kernel_rfl, rfl⟩
instance instTS95 : TS Try.prog 95 (.nilFunc) := ⟨⟨_, Try.underlying95, rfl⟩, by kernel_rfl, by kernel_rfl, rfl⟩
instance instTS96 : TS Try.prog 96 (.nilFunc) := ⟨⟨_, Try.underlying96, rfl⟩, by kernel_rfl, by kernel_rfl, rfl⟩
instance instTS97 : TS Try.prog 97 (.nilFunc) := ⟨⟨_, Try.underlying97, rfl⟩, by kernel_rfl, by kernel_rfl, rfl⟩
instance instTS98 : TS Try.prog 98 (.nilFunc) := ⟨⟨_, Try.underlying98, rfl⟩, by kernel_rfl, by kernel_rfl, rfl⟩
instance instTS99 : TS Try.prog 99 (.nilFunc) := ⟨⟨_, Try.underlying99, rfl⟩, by kernel_rfl, by kernel_rfl, rfl⟩
instance instTS100 : TS Try.prog 100 (.nilFunc) := ⟨⟨_, Try.underlying100, rfl⟩, by kernel_rfl, by kernel_rfl, rfl⟩
instance instTS101 : TS Try.prog 101 (.nilFunc) := ⟨⟨_, Try.underlying101, rfl⟩, by kernel_rfl, by kernel_rfl, rfl⟩
instance instTS102 : TS Try.prog 102 (.nilFunc) := ⟨⟨_, Try.underlying102, rfl⟩, by kernel_rfl, by kernel_rfl, rfl⟩
instance instTS103 : TS Try.prog 103 (.nilFunc) := ⟨⟨_, Try.underlying103, rfl⟩, by kernel_rfl, by kernel_rfl, rfl⟩
instance instTS104 : TS Try.prog 104 (.nilFunc) := ⟨⟨_, Try.underlying104, rfl⟩, by kernel_rfl, by kernel_rfl, rfl⟩
instance instTS105 : TS Try.prog 105 (.nilFunc) := ⟨⟨_, Try.underlying105, rfl⟩, by kernel_rfl, by kernel_rfl, rfl⟩
instance instTS106 : TS Try.prog 106 (.slice none 0 0) := ⟨⟨_, Try.underlying106, rfl⟩, by kernel_rfl, by kernel_rfl, rfl⟩
instance instTS107 : TS Try.prog 107 (.pointer none) := ⟨⟨_, Try.underlying107, rfl⟩, by kernel_rfl, by kernel_rfl, rfl⟩
instance instTS109 : TS Try.prog 109 (.nilFunc) := ⟨⟨_, Try.underlying109, rfl⟩, by kernel_rfl, by kernel_rfl, rfl⟩
instance instTS110 : TS Try.prog 110 (.pointer none) := ⟨⟨_, Try.underlying110, rfl⟩, by kernel_rfl, by kernel_rfl, rfl⟩
instance instTS112 : TS Try.prog 112 (.nilFunc) := ⟨⟨_, Try.underlying112, rfl⟩, by kernel_rfl, by kernel_rfl, rfl⟩
instance instTS114 : TS Try.prog 114 (.nilFunc) := ⟨⟨_, Try.underlying114, rfl⟩, by kernel_rfl, by kernel_rfl, rfl⟩
instance instTS115 : TS Try.prog 115 (.pointer none) := ⟨⟨_, Try.underlying115, rfl⟩, by kernel_rfl, by kernel_rfl, rfl⟩
instance instTS116 : TS Try.prog 116 (.nilFunc) := ⟨⟨_, Try.underlying116, rfl⟩, by kernel_rfl, by kernel_rfl, rfl⟩
instance instTS117 : TS Try.prog 117 (.nilFunc) := ⟨⟨_, Try.underlying117, rfl⟩, by kernel_rfl, by kernel_rfl, rfl⟩
instance instTS118 : TS Try.prog 118 (.nilFunc) := ⟨⟨_, Try.underlying118, rfl⟩, by kernel_rfl, by kernel_rfl, rfl⟩
instance instTS119 : TS Try.prog 119 (.nilFunc) := ⟨⟨_, Try.underlying119, rfl⟩, by kernel_rfl, by kernel_rfl, rfl⟩
instance instTS121 : TS Try.prog 121 (.nilFunc) := ⟨⟨_, Try.underlying121, rfl⟩, by kernel_rfl, by kernel_rfl, rfl⟩
instance instTS122 : TS Try.prog 122 (.nilFunc) := ⟨⟨_, Try.underlying122, rfl⟩, by kernel_rfl, by kernel_rfl, rfl⟩
instance instTS124 : TS Try.prog 124 (.nilFunc) := ⟨⟨_, Try.underlying124, rfl⟩, by kernel_rfl, by kernel_rfl, rfl⟩
instance instTS125 : TS Try.prog 125 (.nilFunc) := ⟨⟨_, Try.underlying125, rfl⟩, by kernel_rfl, by kernel_rfl, rfl⟩
instance instTS126 : TS Try.prog 126 (.nilFunc) := ⟨⟨_, Try.underlying126, rfl⟩, by kernel_rfl, by kernel_rfl, rfl⟩
instance instTS128 : TS Try.prog 128 (.nilFunc) := ⟨⟨_, Try.underlying128, rfl⟩, by kernel_rfl, by kernel_rfl, rfl⟩
instance instTS129 : TS Try.prog 129 (.nilFunc) := ⟨⟨_, Try.underlying129, rfl⟩, by kernel_rfl, by kernel_rfl, rfl⟩
instance instTS130 : TS Try.prog 130 (.nilFunc) := ⟨⟨_, Try.underlying130, rfl⟩, by kernel_rfl, by kernel_rfl, rfl⟩
instance instTI131 : TI Try.prog 131 44 (List.replicate 44 (.int .u8 0)) := ⟨⟨_, Try.underlying131, rfl⟩, by kernel_rfl, by kernel_rfl, by kernel_rfl, rfl⟩
instance instTS132 : TS Try.prog 132 (.nilFunc) := ⟨⟨_, Try.underlying132, rfl⟩, by kernel_rfl, by kernel_rfl, rfl⟩
instance instTS133 : TS Try.prog 133 (.nilFunc) := ⟨⟨_, Try.underlying133, rfl⟩, by kernel_rfl, by kernel_rfl, rfl⟩
instance instTS134 : TS Try.prog 134 (.nilFunc) := ⟨⟨_, Try.underlying134, rfl⟩, by kernel_rfl, by kernel_rfl, rfl⟩
instance instTS135 : TS Try.prog 135 (.nilFunc) := ⟨⟨_, Try.underlying135, rfl⟩, by kernel_rfl, by kernel_rfl, rfl⟩
instance instTS138 : TS Try.prog 138 (.nilFunc) := ⟨⟨_, Try.underlying138, rfl⟩, by kernel_rfl, by kernel_rfl, rfl⟩
instance instTS139 : TS Try.prog 139 (.nilFunc) := ⟨⟨_, Try.underlying139, rfl⟩, by kernel_rfl, by kernel_rfl, rfl⟩
instance instTS140 : TS Try.prog 140 (.int .u64 0) := ⟨⟨_, Try.underlying140, rfl⟩, by kernel_rfl, by kernel_rfl, rfl⟩
instance instTS141 : TS Try.prog 141 (.nilFunc) := ⟨⟨_, Try.underlying141, rfl⟩, by kernel_rfl, by kernel_rfl, rfl⟩
instance instTS142 : TS Try.prog 142 (.nilFunc) := ⟨⟨_, Try.underlying142, rfl⟩, by kernel_rfl, by kernel_rfl, rfl⟩
instance instTS143 : TS Try.prog 143 (.slice none 0 0) := ⟨⟨_, Try.underlying143, rfl⟩, by kernel_rfl, by kernel_rfl, rfl⟩
instance instTS144 : TS Try.prog 144 (.slice none 0 0) := ⟨⟨_, Try.underlying144, rfl⟩, by kernel_rfl, by kernel_rfl, rfl⟩
instance instTI145 : TI Try.prog 145 4 [.slice none 0 0, .slice none 0 0, .int .i64 0, .bool false] := ⟨⟨_, Try.underlying145, rfl⟩, by kernel_rfl, by kernel_rfl, by kernel_rfl, rfl⟩
instance instTI146 : TI Try.prog 146 4 [.slice none 0 0, .slice none 0 0, .int .i64 0, .bool false] := ⟨⟨_, Try.underlying146, rfl⟩, by kernel_rfl, by kernel_rfl, by kernel_rfl, rfl⟩
instance instTI147 : TI Try.prog 147 8 (List.replicate 8 (.int .u64 0)) := ⟨⟨_, Try.underlying147, rfl⟩, by kernel_rfl, by kernel_rfl, by kernel_rfl, rfl⟩
instance instTI148 : TI Try.prog 148 9 ([.int .i64 0] ++ List.replicate 8 (.int .u64 0)) := ⟨⟨_, Try.underlying148, rfl⟩, by kernel_rfl, by kernel_rfl, by kernel_rfl, rfl⟩
instance instTI149 : TI Try.prog 149 9 ([.int .i64 0] ++ List.replicate 8 (.int .u64 0)) := ⟨⟨_, Try.underlying149, rfl⟩, by kernel_rfl, by kernel_rfl, by kernel_rfl, rfl⟩
instance instTS150 : TS Try.prog 150 (.nilFunc) := ⟨⟨_, Try.underlying150, rfl⟩, by kernel_rfl, by kernel_rfl, rfl⟩
instance instTS151 : TS Try.prog 151 (.nilFunc) := ⟨⟨_, Try.underlying151, rfl⟩, by kernel_rfl, by kernel_rfl, rfl⟩
instance instTI152 : TI Try.prog 152 3 [.pointer none, .pointer none, .int .u32 0] := ⟨⟨_, Try.underlying152, rfl⟩, by kernel_rfl, by kernel_rfl, by kernel_rfl, rfl⟩
instance instTI153 : TI Try.prog 153 3 [.pointer none, .pointer none, .int .u32 0] := ⟨⟨_, Try.underlying153, rfl⟩, by kernel_rfl, by kernel_rfl, by kernel_rfl, rfl⟩
instance instTS155 : TS Try.prog 155 (.nilFunc) := ⟨⟨_, Try.underlying155, rfl⟩, by kernel_rfl, by kernel_rfl, rfl⟩
instance instTS156 : TS Try.prog 156 (.nilFunc) := ⟨⟨_, Try.underlying156, rfl⟩, by kernel_rfl, by kernel_rfl, rfl⟩
instance instTS157 : TS Try.prog 157 (.nilFunc) := ⟨⟨_, Try.underlying157, rfl⟩, by kernel_rfl, by kernel_rfl, rfl⟩
instance instTS158 : TS Try.prog 158 (.nilFunc) := ⟨⟨_, Try.underlying158, rfl⟩, by kernel_rfl, by kernel_rfl, rfl⟩
instance instTS159 : TS Try.prog 159 (.pointer none) := ⟨⟨_, Try.underlying159, rfl⟩, by kernel_rfl, by kernel_rfl, rfl⟩
instance instTS160 : TS Try.prog 160 (.nilFunc) := ⟨⟨_, Try.underlying160, rfl⟩, by kernel_rfl, by kernel_rfl, rfl⟩
instance instTS161 : TS Try.prog 161 (.nilFunc) := ⟨⟨_, Try.underlying161, rfl⟩, by kernel_rfl, by kernel_rfl, rfl⟩
instance instTI162 : TI Try.prog 162 8 (List.replicate 8 (.int .u32 0)) := ⟨⟨_, Try.underlying162, rfl⟩, by kernel_rfl, by kernel_rfl, by kernel_rfl, rfl⟩
instance instTS163 : TS Try.prog 163 (.nilFunc) := ⟨⟨_, Try.underlying163, rfl⟩, by kernel_rfl, by kernel_rfl, rfl⟩
instance instTS164 : TS Try.prog 164 (.slice none 0 0) := ⟨⟨_, Try.underlying164, rfl⟩, by kernel_rfl, by kernel_rfl, rfl⟩
instance instTS165 : TS Try.prog 165 (.nilFunc) := ⟨⟨_, Try.underlying165, rfl⟩, by kernel_rfl, by kernel_rfl, rfl⟩
instance instTS166 : TS Try.prog 166 (.nilFunc) := ⟨⟨_, Try.underlying166, rfl⟩, by kernel_rfl, by kernel_rfl, rfl⟩
instance instTI167 : TI Try.prog 167 140 (List.replicate 32 (.int .u8 0) ++ [.int .u32 0, .int .u32 0, .int .u32 0] ++ List.replicate 32 (.int .u8 0) ++ [.int .u32 0, .int .u32 0, .int .u32 0] ++ List.replicate 32 (.int .u8 0) ++ [.int .u32 0, .int .u32 0, .int .u32 0] ++ List.replicate 32 (.int .u8 0) ++ [.int .u32 0, .int .u32 0, .int .u32 0]) := ⟨⟨_, Try.underlying167, rfl⟩, by kernel_rfl, by kernel_rfl, by kernel_rfl, rfl⟩
instance instTI168 : TI Try.prog 168 281 (List.replicate 32 (.int .u8 0) ++ [.int .u32 0, .int .u32 0, .int .u32 0] ++ List.replicate 32 (.int .u8 0) ++ [.int .u32 0, .int .u32 0, .int .u32 0] ++ List.replicate 32 (.int .u8 0) ++ [.int .u32 0, .int .u32 0, .int .u32 0] ++ List.replicate 32 (.int .u8 0) ++ [.int .u32 0, .int .u32 0, .int .u32 0] ++ List.replicate 32 (.int .u8 0) ++ [.int .u32 0, .int .u32 0, .int .u32 0] ++ List.replicate 32 (.int .u8 0) ++ [.int .u32 0, .int .u32 0, .int .u32 0] ++ List.replicate 32 (.int .u8 0) ++ [.int .u32 0, .int .u32 0, .int .u32 0] ++ List.replicate 32 (.int .u8 0) ++ [.int .u32 0, .int .u32 0, .int .u32 0, .int .i64 0]) := ⟨⟨_, Try.underlying168, rfl⟩, by kernel_rfl, by kernel_rfl, by kernel_rfl, rfl⟩
instance instTI169 : TI Try.prog 169 281 (List.replicate 32 (.int .u8 0) ++ [.int .u32 0, .int .u32 0, .int .u32 0] ++ List.replicate 32 (.int .u8 0) ++ [.int .u32 0, .int .u32 0, .int .u32 0] ++ List.replicate 32 (.int .u8 0) ++ [.int .u32 0, .int .u32 0, .int .u32 0] ++ List.replicate 32 (.int .u8 0) ++ [.int .u32 0, .int .u32 0, .int .u32 0] ++ List.replicate 32 (.int .u8 0) ++ [.int .u32 0, .int .u32 0, .int .u32 0] ++ List.replicate 32 (.int .u8 0) ++ [.int .u32 0, .int .u32 0, .int .u32 0] ++ List.replicate 32 (.int .u8 0) ++ [.int .u32 0, .int .u32 0, .int .u32 0] ++ List.replicate 32 (.int .u8 0) ++ [.int .u32 0, .int .u32 0, .int .u32 0, .int .i64 0]) := ⟨⟨_, Try.underlying169, rfl⟩, by kernel_rfl, by kernel_rfl, by kernel_rfl, rfl⟩
instance instTS171 : TS Try.prog 171 (.nilFunc) := ⟨⟨_, Try.underlying171, rfl⟩, by kernel_rfl, by kernel_rfl, rfl⟩
instance instTI172 : TI Try.prog 172 64 (List.replicate 64 (.int .u8 0)) := ⟨⟨_, Try.underlying172, rfl⟩, by kernel_rfl, by kernel_rfl, by kernel_rfl, rfl⟩
instance instTI173 : TI Try.prog 173 74 (List.replicate 8 (.int .u32 0) ++ List.replicate 64 (.int .u8 0) ++ [.int .i64 0, .int .u64 0]) := ⟨⟨_, Try.underlying173, rfl⟩, by kernel_rfl, by kernel_rfl, by kernel_rfl, rfl⟩
instance instTI174 : TI Try.prog 174 74 (List.replicate 8 (.int .u32 0) ++ List.replicate 64 (.int .u8 0) ++ [.int .i64 0, .int .u64 0]) := ⟨⟨_, Try.underlying174, rfl⟩, by kernel_rfl, by kernel_rfl, by kernel_rfl, rfl⟩
instance instTS175 : TS Try.prog 175 (.nilFunc) := ⟨⟨_, Try.underlying175, rfl⟩, by kernel_rfl, by kernel_rfl, rfl⟩
instance instTS176 : TS Try.prog 176 (.nilFunc) := ⟨⟨_, Try.underlying176, rfl⟩, by kernel_rfl, by kernel_rfl, rfl⟩
instance instTS178 : TS Try.prog 178 (.nilFunc) := ⟨⟨_, Try.underlying178, rfl⟩, by kernel_rfl, by kernel_rfl, rfl⟩
instance instTI179 : TI Try.prog 179 16 (List.replicate 16 (.int .u32 0)) := ⟨⟨_, Try.underlying179, rfl⟩, by kernel_rfl, by kernel_rfl, by kernel_rfl, rfl⟩
instance instTI180 : TI Try.prog 180 16 (List.replicate 16 (.int .u32 0)) := ⟨⟨_, Try.underlying180, rfl⟩, by kernel_rfl, by kernel_rfl, by kernel_rfl, rfl⟩
instance instTS181 : TS Try.prog 181 (.nilFunc) := ⟨⟨_, Try.underlying181, rfl⟩, by kernel_rfl, by kernel_rfl, rfl⟩
instance instTI182 : TI Try.prog 182 64 (List.replicate 64 (.int .u32 0)) := ⟨⟨_, Try.underlying182, rfl⟩, by kernel_rfl, by kernel_rfl, by kernel_rfl, rfl⟩
instance instTS183 : TS Try.prog 183 (.nilFunc) := ⟨⟨_, Try.underlying183, rfl⟩, by kernel_rfl, by kernel_rfl, rfl⟩
instance instTS184 : TS Try.prog 184 (.nilFunc) := ⟨⟨_, Try.underlying184, rfl⟩, by kernel_rfl, by kernel_rfl, rfl⟩
instance instTS185 : TS Try.prog 185 (.nilFunc) := ⟨⟨_, Try.underlying185, rfl⟩, by kernel_rfl, by kernel_rfl, rfl⟩
instance instTS186 : TS Try.prog 186 (.nilFunc) := ⟨⟨_, Try.underlying186, rfl⟩, by kernel_rfl, by kernel_rfl, rfl⟩
instance instTS187 : TS Try.prog 187 (.nilFunc) := ⟨⟨_, Try.underlying187, rfl⟩, by kernel_rfl, by kernel_rfl, rfl⟩
instance instTS188 : TS Try.prog 188 (.pointer none) := ⟨⟨_, Try.underlying188, rfl⟩, by kernel_rfl, by kernel_rfl, rfl⟩
instance instTS189 : TS Try.prog 189 (.nilFunc) := ⟨⟨_, Try.underlying189, rfl⟩, by kernel_rfl, by kernel_rfl, rfl⟩
instance instTS191 : TS Try.prog 191 (.nilFunc) := ⟨⟨_, Try.underlying191, rfl⟩, by kernel_rfl, by kernel_rfl, rfl⟩
instance instTS192 : TS Try.prog 192 (.nilFunc) := ⟨⟨_, Try.underlying192, rfl⟩, by kernel_rfl, by kernel_rfl, rfl⟩
instance instTS193 : TS Try.prog 193 (.nilFunc) := ⟨⟨_, Try.underlying193, rfl⟩, by kernel_rfl, by kernel_rfl, rfl⟩
instance instTS194 : TS Try.prog 194 (.nilFunc) := ⟨⟨_, Try.underlying194, rfl⟩, by kernel_rfl, by kernel_rfl, rfl⟩
instance instTI195 : TI Try.prog 195 2 [.int .i64 0, .slice none 0 0] := ⟨⟨_, Try.underlying195, rfl⟩, by kernel_rfl, by kernel_rfl, by kernel_rfl, rfl⟩
instance instTI196 : TI Try.prog 196 2 [.int .i64 0, .slice none 0 0] := ⟨⟨_, Try.underlying196, rfl⟩, by kernel_rfl, by kernel_rfl, by kernel_rfl, rfl⟩
instance instTS197 : TS Try.prog 197 (.nilFunc) := ⟨⟨_, Try.underlying197, rfl⟩, by kernel_rfl, by kernel_rfl, rfl⟩
instance instTS198 : TS Try.prog 198 (.nilFunc) := ⟨⟨_, Try.underlying198, rfl⟩, by kernel_rfl, by kernel_rfl, rfl⟩
instance instTI199 : TI Try.prog 199 4 [.pointer none, .pointer none, .pointer none, .string ByteArray.empty] := ⟨⟨_, Try.underlying199, rfl⟩, by kernel_rfl, by kernel_rfl, by kernel_rfl, rfl⟩
instance instTI201 : TI Try.prog 201 0 [] := ⟨⟨_, Try.underlying201, rfl⟩, by kernel_rfl, by kernel_rfl, by kernel_rfl, rfl⟩
instance instTI202 : TI Try.prog 202 0 [] := ⟨⟨_, Try.underlying202, rfl⟩, by kernel_rfl, by kernel_rfl, by kernel_rfl, rfl⟩
instance instTS206 : TS Try.prog 206 (.nilFunc) := ⟨⟨_, Try.underlying206, rfl⟩, by kernel_rfl, by kernel_rfl, rfl⟩
instance instTS207 : TS Try.prog 207 (.pointer none) := ⟨⟨_, Try.underlying207, rfl⟩, by kernel_rfl, by kernel_rfl, rfl⟩
instance instTI210 : TI Try.prog 210 11 [.int .u64 0, .int .u64 0, .int .u32 0, .int .u8 0, .int .u8 0, .int .u8 0, .int .u8 0, .nilFunc, .pointer none, .int .i32 0, .int .i32 0] := ⟨⟨_, Try.underlying210, rfl⟩, by kernel_rfl, by kernel_rfl, by kernel_rfl, rfl⟩
instance instTS212 : TS Try.prog 212 (.nilFunc) := ⟨⟨_, Try.underlying212, rfl⟩, by kernel_rfl, by kernel_rfl, rfl⟩
/-- Lists' lengths, parts. -/
theorem one_all (xs : List UInt8) : ((xs.map cb).all fun u => u.oneCell') = true := by simp [Value.oneCell']
theorem part_all {cs : List Value} {n : Nat} (h : cs.length = n) : (cs.drop 0).take n = cs := by rw [List.drop_zero, List.take_of_length_le (by omega)]
theorem cellS {w wS : World} {ad : Addr} {v : Value} (hS : wS = w.drew) (h : w.cell? ad = some v) : wS.cell? ad = some v := by subst hS; exact h
/-- A region that draws its order: S tells that no block of before has changed. -/
theorem startA {ops : Array Oper} {Q : Exit → Act → World → Prop} (W : Nat → Bool) {id : Nat} {a : Act} {w : World} (hm : P.follows .mixedOrders = true)
    (h : ∀ wS, wS = w.drew → wpAnyL P .any ops Q (fun w' => Below wS.heap.size wS w') W ops.size (Array.replicate ops.size false) a wS) : (Code.region id ops true).wp P Q a w :=
  startL _ W hm (h _ rfl)
/-- The results of a function that lie in variables. -/
theorem res_cell {fn : Func} {d : Tmp} {t t2 : TypeId} (hf : fn.results = #[.cell d t]) (tmps : Array Value) {w : World} {L : List Own} (H : HOLD L w) {b n : Nat} {cs z : List Value} {put : List Value → List Own} (hp : tmps.getD d undef = .pointer (some ⟨b, 0, none⟩)) [HasB L b t2 cs put] [T : TI P t n z] (hl : cs.length = n) :
    (results fn tmps).run P w = .ok (.agg cs.toArray) w := by
  obtain ⟨d, h1, h2⟩ := T.under
  exact results_cell hf tmps H.va hp d h1 h2 (by rw [hl]; exact T.size)
theorem res_cell_tmp {fn : Func} {d e : Tmp} {t t2 : TypeId} (hf : fn.results = #[.cell d t, .tmp e]) (tmps : Array Value) {w : World} {L : List Own} (H : HOLD L w) {b n : Nat} {cs z : List Value} {put : List Value → List Own} (hp : tmps.getD d undef = .pointer (some ⟨b, 0, none⟩)) [HasB L b t2 cs put] [T : TI P t n z] (hl : cs.length = n) :
    (results fn tmps).run P w = .ok (.tuple #[.agg cs.toArray, tmps.getD e undef]) w := by
  obtain ⟨d, h1, h2⟩ := T.under
  exact results_cell_tmp hf tmps H.va hp d h1 h2 (by rw [hl]; exact T.size)
end Go.Proofs.Ytbglebchnlfklaa
