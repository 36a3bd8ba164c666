/- Ground words of this family of proofs, over any program: rows that are read, rows that are owned, cuts, appends. -/
import Derived.Below
import Derived.Deep.Draws
import Derived.Deep.AppendLies
import Derived.Maps.AppendAt
import Derived.OwnWalk
import Derived.Laws.BytesArg
import Derived.Laws.MakeOwn
import Derived.Laws.OwnMore
import Derived.Laws.CopyOwn
import Derived.Tactics
import Derived.Lib.ConvBytes
import Derived.Lib.Hide
import Derived.Laws.Slices
import Derived.WalkKit
import Derived.KernelRfl
import Derived.RowKit3
import Derived.Deep.LoopGhost
import Derived.Deep.QuietTactic
import Derived.BigQuiet
import Derived.WideLaws
import Derived.Deep.DeepCutAuto
import Derived.Deep.CutBlock
import Derived.Deep.RegionHeld3
import Derived.Laws.Rows
import Derived.Laws.IdiomCopy
import Derived.Laws.BitsLemmas
import Derived.WalkSpells
import Derived.Outline
namespace Go.Proofs.Ytfnneneaalaagaa
open Go.RowKit

theorem i64w (x : Int) (h0 : -9223372036854775808 ≤ x) (h1 : x ≤ 9223372036854775807) : IntKind.i64.wrap x = x := by rw [IntKind.wrap_i64]; omega

/-- A kind of elements: its type, cells and bytes of one, and the cells of each. -/
structure Ty (α : Type) where
  id : Nat
  sz : Nat
  bytes : Nat
  zero : Value
  enc : α → List Value
  hlen : ∀ x, (enc x).length = sz
  hone : ∀ x, ∀ u ∈ enc x, u.oneCell' = true
  hsz : 0 < sz
  hby : 0 < bytes

variable {α : Type} {T : Ty α} {P : Program}

/-- All cells of a row. -/
def Ty.all (T : Ty α) (xs : List α) : List Value := xs.flatMap T.enc
theorem Ty.all_nil : T.all ([] : List α) = [] := rfl
theorem Ty.all_length (xs : List α) : (T.all xs).length = xs.length * T.sz := by
  unfold Ty.all
  induction xs with
  | nil => simp
  | cons x xs ih => rw [List.flatMap_cons, List.length_append, ih, T.hlen, List.length_cons, Nat.succ_mul, Nat.add_comm]
theorem Ty.all_append (xs ys : List α) : T.all (xs ++ ys) = T.all xs ++ T.all ys := by simp [Ty.all]
theorem Ty.all_one (x : α) : T.all [x] = T.enc x := by simp [Ty.all]
theorem Ty.all_cons (x : α) (xs : List α) : T.all (x :: xs) = T.enc x ++ T.all xs := by simp [Ty.all]
theorem Ty.all_oneCell (xs : List α) : ∀ u ∈ T.all xs, u.oneCell' = true := by
  intro u hu
  simp only [Ty.all, List.mem_flatMap] at hu
  obtain ⟨x, _, hx⟩ := hu
  exact T.hone x u hx
theorem Ty.all_drop (xs : List α) (i : Nat) : (T.all xs).drop (i * T.sz) = T.all (xs.drop i) := by
  induction xs generalizing i with
  | nil => simp [Ty.all]
  | cons x xs ih =>
    cases i with
    | zero => simp
    | succ i =>
      rw [Ty.all_cons, List.drop_succ_cons, Nat.succ_mul, Nat.add_comm, ← List.drop_drop, ← T.hlen x, List.drop_left, T.hlen, ih]
theorem Ty.all_take (xs : List α) (i : Nat) : (T.all xs).take (i * T.sz) = T.all (xs.take i) := by
  induction xs generalizing i with
  | nil => simp [Ty.all]
  | cons x xs ih =>
    cases i with
    | zero => simp [Ty.all]
    | succ i =>
      rw [Ty.all_cons, List.take_succ_cons, Ty.all_cons, List.take_append, T.hlen, Nat.succ_mul, List.take_of_length_le (by rw [T.hlen]; omega), Nat.add_sub_cancel, ih]
theorem Ty.all_get (xs : List α) (i : Nat) (h : i < xs.length) (j : Nat) (hj : j < T.sz) : (T.all xs)[i * T.sz + j]? = (T.enc xs[i])[j]? := by
  have h1 : (T.all xs)[i * T.sz + j]? = ((T.all xs).drop (i * T.sz))[j]? := by rw [List.getElem?_drop]
  rw [h1, Ty.all_drop, List.drop_eq_getElem_cons h, Ty.all_cons, List.getElem?_append_left (by rw [T.hlen]; exact hj)]

/-- The slice value v reads as xs in w. -/
def RR (T : Ty α) (w : World) (v : Value) (xs : List α) : Prop :=
  ∃ A c, v = .slice A xs.length c ∧ xs.length ≤ c ∧ xs.length ≤ 9223372036854775807 ∧
    (0 < xs.length → ∃ ad, A = some ad ∧ ∀ j u, (T.all xs)[j]? = some u → w.cell? (ad.add j) = some u)

/-- v is a row of the call's own, from block base on, that reads as xs. -/
def OR (T : Ty α) (w : World) (base : Nat) (v : Value) (xs : List α) : Prop := w.ownsRow base T.id T.sz v xs.length (T.all xs)

theorem cell_below {w w1 : World} (h : Below w.heap.size w w1) {a : Addr} {v : Value} (hc : w.cell? a = some v) : w1.cell? a = some v := (h.cell (World.block_lt_of_cell? w a hc)).trans hc

theorem pw_below_drewN {B : Nat} {w W : World} (h : Below B w W) (n : Nat) : Below B w (W.drewN n) := ⟨h.os, h.tape, h.output, h.size, h.block⟩

theorem RR.below {w w1 : World} {v : Value} {xs : List α} (h : RR T w v xs) (hb : Below w.heap.size w w1) : RR T w1 v xs := by
  obtain ⟨A, c, e, h1, h2, h3⟩ := h
  refine ⟨A, c, e, h1, h2, fun hp => ?_⟩
  obtain ⟨ad, e2, hc⟩ := h3 hp
  exact ⟨ad, e2, fun j u hj => cell_below hb (hc j u hj)⟩

theorem OR.reads {w : World} {base : Nat} {v : Value} {xs : List α} (h : OR T w base v xs) : RR T w v xs := by
  rcases Nat.eq_zero_or_pos xs.length with h0 | h0
  · rcases h.2 with ⟨rfl, _⟩ | ⟨g, cap, cur, rfl, _, _, h1, h2, _⟩
    · exact ⟨none, 0, by rw [h0], by omega, by omega, fun hp => by omega⟩
    · exact ⟨_, cap, rfl, h1, by omega, fun hp => by omega⟩
  · obtain ⟨g, cap, rfl, _, _⟩ := h.form h0
    have hm : xs.length ≤ cap ∧ xs.length ≤ 9223372036854775807 := by
      rcases h.2 with ⟨h1, _⟩ | ⟨g', cap', cur, he, _, _, h1, h2, _⟩
      · cases h1
      · injection he with _ _ he
        subst he
        simp only [maxLen] at h2
        omega
    exact ⟨_, cap, rfl, hm.1, hm.2, fun _ => ⟨_, rfl, fun j u hj => h.cells (g := g) rfl j _ hj⟩⟩

theorem OR.below {w w1 : World} {base : Nat} {v : Value} {xs : List α} (h : OR T w base v xs) (hb : Below w.heap.size w w1) : OR T w1 base v xs :=
  World.ownsRow.kept h (row := none) ⟨hb.os, hb.tape, hb.output, hb.size, fun i hi _ => hb.block i hi⟩ (by cases v.ownBlock <;> simp)
theorem OR.other {w w1 : World} {base : Nat} {v : Value} {xs : List α} {row : Option Nat} (h : OR T w base v xs) (hg : w.grownBy w1 row) (hne : v.ownBlock = none ∨ v.ownBlock ≠ row) : OR T w1 base v xs := World.ownsRow.kept h hg hne
theorem OR.nil (w : World) (base : Nat) : OR T w base (.slice none 0 0) [] := ⟨by simp [Ty.all], .inl ⟨rfl, rfl⟩⟩
theorem OR.lower {w : World} {base base' : Nat} {v : Value} {xs : List α} (h : OR T w base v xs) (hb : base' ≤ base) : OR T w base' v xs := by
  refine ⟨h.1, ?_⟩
  rcases h.2 with h2 | ⟨g, cap, cur, h3, h4, h5⟩
  · exact .inl h2
  · exact .inr ⟨g, cap, cur, h3, by omega, h5⟩
theorem OR.ge {w : World} {base : Nat} {v : Value} {xs : List α} (h : OR T w base v xs) : ∀ k, v.ownBlock = some k → base ≤ k ∧ k < w.heap.size := World.ownsRow.lt h

/-- A row that lay before another one was made is another one. -/
theorem OR.apart {β : Type} {T2 : Ty β} {w w1 : World} {b : Nat} {v v2 : Value} {xs : List α} {ys : List β} (h : OR T w b v xs) (h2 : OR T2 w1 w.heap.size v2 ys) : v.ownBlock = none ∨ v.ownBlock ≠ v2.ownBlock := by
  cases hv : v.ownBlock with
  | none => exact .inl rfl
  | some k =>
    refine .inr fun e => ?_
    have h3 := (OR.ge h k hv).2
    have h4 := (OR.ge h2 k e.symm).1
    omega
theorem RR.len {w : World} {v : Value} {xs : List α} (h : RR T w v xs) : ∃ A c, v = .slice A xs.length c ∧ xs.length ≤ c := by
  obtain ⟨A, c, e, h1, _⟩ := h
  exact ⟨A, c, e, h1⟩
theorem RR.nil (w : World) : RR T w (.slice none 0 0) [] := ⟨none, 0, rfl, by simp, by simp, fun h => by simp at h⟩

/-- A cut of a row that is read: the value behind it, and what it reads. -/
theorem RR.cut (T : Ty α) {t : TypeId} (ht : P.underlying t = some (.slice T.id)) {z : Value} (hinfo : (P.info? T.id).map (fun i => (i.zero, i.size, i.bytes)) = some (some z, T.sz, T.bytes))
    (A : Option Addr) (c : Nat) (xs : List α) (i j : Nat) (hij : i ≤ j) (hj : j ≤ xs.length) (hc : xs.length ≤ c) :
    ∃ A', (∀ (kl kh : IntKind) (W : World), (Instr.slice t (.slice A xs.length c) (some (.int kl (i : Int))) (some (.int kh (j : Int))) none).run P W = .ok (.slice A' (j - i) (c - i)) W) ∧
      (∀ (kl : IntKind) (W : World), j = xs.length → (Instr.slice t (.slice A xs.length c) (some (.int kl (i : Int))) none none).run P W = .ok (.slice A' (xs.length - i) (c - i)) W) ∧
      (∀ (kh : IntKind) (W : World), i = 0 → (Instr.slice t (.slice A xs.length c) none (some (.int kh (j : Int))) none).run P W = .ok (.slice A' j c) W) ∧
      ∀ w, RR T w (.slice A xs.length c) xs → RR T w (.slice A' (j - i) (c - i)) ((xs.take j).drop i) := by
  obtain ⟨i0, hi, hzz⟩ := Option.map_eq_some_iff.1 hinfo
  simp only [Prod.mk.injEq] at hzz
  obtain ⟨_, hsz, _⟩ := hzz
  have hel : P.elem t = T.id := by simp [Program.elem, ht]
  have hu : P.underlying t = some (.slice (P.elem t)) := by rw [hel]; exact ht
  refine ⟨if c = i then A else A.map (·.add (i * T.sz)), fun kl kh W => ?_, fun kl W he => ?_, fun kh W he => ?_, fun w h => ?_⟩
  · rw [run_slice_lh W t A xs.length c hu kl kh (i : Int) (j : Int) (by omega) (by omega) (by omega), hel]
    simp [sizeOf, typeInfo, hi, hsz, sliced, Result.andThen]
  · rw [run_slice_l W t A xs.length c hu kl (i : Int) (by omega) (by omega), hel]
    simp [sizeOf, typeInfo, hi, hsz, sliced, Result.andThen]
  · subst he
    have ha : (A.map fun x => x.add 0) = A := by cases A <;> simp [Addr.add]
    rw [run_slice_h W t A xs.length c hu kh (j : Int) (by omega) (by omega), hel]
    simp [sizeOf, typeInfo, hi, hsz, sliced, Result.andThen, ha]
  · obtain ⟨A2, c2, e, h1, h2, h3⟩ := h
    injection e with e1 e2 e3
    subst e1; subst e3
    have hl : ((xs.take j).drop i).length = j - i := by rw [List.length_drop, List.length_take]; omega
    refine ⟨if c = i then A else A.map (·.add (i * T.sz)), c - i, by rw [hl], by omega, by omega, fun hp => ?_⟩
    obtain ⟨ad, rfl, hcell⟩ := h3 (by omega)
    rw [if_neg (by omega)]
    refine ⟨ad.add (i * T.sz), rfl, fun k u hk => ?_⟩
    have ha : (ad.add (i * T.sz)).add k = ad.add (i * T.sz + k) := by
      unfold Addr.add
      by_cases h1 : i * T.sz = 0 <;> by_cases h2 : k = 0 <;> simp [h1, h2, Nat.add_assoc]
    rw [ha]
    refine hcell _ _ ?_
    rw [← Ty.all_drop, List.getElem?_drop, ← Ty.all_take, List.getElem?_take] at hk
    split at hk
    · exact hk
    · cases hk

/-- An element that is read. -/
theorem RR.at_ {w : World} {A : Option Addr} {n c : Nat} {xs : List α} (h : RR T w (.slice A n c) xs) (i : Nat) (hi : i < xs.length) :
    ∃ ad, A = some ad ∧ ∀ j u, (T.enc xs[i])[j]? = some u → w.cell? (ad.add (i * T.sz + j)) = some u := by
  obtain ⟨A2, c2, e, h1, h2, h3⟩ := h
  injection e with e1 e2 e3
  subst e1
  obtain ⟨ad, rfl, hcell⟩ := h3 (by omega)
  refine ⟨ad, rfl, fun j u hj => hcell _ _ ?_⟩
  have hlt : j < T.sz := by have := (List.getElem?_eq_some_iff.1 hj).1; rwa [T.hlen] at this
  rw [Ty.all_get xs i hi j hlt]
  exact hj

/-- Every block from B on is the call's own or new: two steps. -/
theorem below_two {B : Nat} {w w1 w2 : World} (h : Below B w w1) (hB : B ≤ w1.heap.size) (k : Below w1.heap.size w1 w2) : Below B w w2 := h.trans (k.mono hB)

section
variable {ops : Array Oper} {rest : List Oper} {o : Oper} {a : Act} {Q : Exit → Act → World → Prop}

/-- append(v, x): the goal's world is that behind the variadic's box. -/
theorem wp_append1 (T : Ty α) {w0 W : World} (base : Nat) (hgd : o.guard = none) (s x : Operand) (t : TypeId) (z : Value)
    (ho : o.op = .call { callee := .builtin .append, args := #[s, x], argTypes := #[t, t] })
    (ht : P.underlying t = some (.slice T.id)) (hinfo : (P.info? T.id).map (fun i => (i.zero, i.size, i.bytes)) = some (some z, T.sz, T.bytes)) (hz : z.cells.size = T.sz)
    (v : Value) (xs : List α) (y : α) (cs : Array Value) (hs : a.eval s = v) (hx : a.eval x = .slice (some ⟨W.heap.size, 0, none⟩) 1 1)
    (hy : cs.toList = T.enc y)
    (HO : OR T W base v xs) (HB : Below base w0 W) (hbase : base ≤ W.heap.size) (hl : (xs.length + 1) * T.bytes ≤ 140737488355328)
    (h : ∀ v1 w1, OR T w1 base v1 (xs ++ [y]) → Below base w0 w1 → W.grownBy w1 v.ownBlock → (v1.ownBlock = v.ownBlock ∨ ∃ b, v1.ownBlock = some b ∧ W.heap.size ≤ b) → base ≤ w1.heap.size → wpList P ops Q rest (a.put o.dst v1) w1) :
    wpList P ops Q (o :: rest) a (W.alloc (.cells cs T.id)) := by
  obtain ⟨i0, hi, hzz⟩ := Option.map_eq_some_iff.1 hinfo
  simp only [Prod.mk.injEq] at hzz
  obtain ⟨hz0, hz1, hz2⟩ := hzz
  have hlen : xs.length + 1 ≤ 140737488355328 := Nat.le_trans (Nat.le_mul_of_pos_right _ T.hby) hl
  refine wpList_append_own_at (W.alloc (.cells cs T.id)) hgd s x t ho base T.id i0 z T.sz T.bytes ht hi hz0 hz1 hz2 hz T.hsz v xs.length (T.all xs) hs (World.ownsRow.alloc HO _) ⟨W.heap.size, 0, none⟩ 1 1 (T.enc y) hx (by rw [T.hlen]; simp)
    (by rw [← hy]; exact World.news_of_block (cs := cs) (t := T.id) (fr := (0, 0)) (heap_alloc_new W _)) (T.hone y) (by simp only [maxLen]; omega) hl (by simp; omega) ?_
  intro v1 w1 hown hg _ hat
  have hg' := World.grownBy.trans (World.grownBy_alloc W (.cells cs T.id) v.ownBlock) hg
  refine h v1 w1 (by unfold OR; rw [List.length_append, Ty.all_append, Ty.all_one]; exact hown) ((HB.alloc hbase _).grown hg (by simp; omega) (fun k hk => (OR.ge HO k hk).1)) hg' ?_ (Nat.le_trans hbase hg'.size)
  rcases hat with hat | hat
  · exact .inl hat
  · exact .inr ⟨_, hat, by simp⟩

/-- append(v, ys...): ys a row that is read. -/
theorem wp_appendN (T : Ty α) {w0 W : World} (base : Nat) (hgd : o.guard = none) (s x : Operand) (t : TypeId) (z : Value)
    (ho : o.op = .call { callee := .builtin .append, args := #[s, x], argTypes := #[t, t] })
    (ht : P.underlying t = some (.slice T.id)) (hinfo : (P.info? T.id).map (fun i => (i.zero, i.size, i.bytes)) = some (some z, T.sz, T.bytes)) (hz : z.cells.size = T.sz)
    (v : Value) (xs ys : List α) (vy : Value) (hs : a.eval s = v) (hx : a.eval x = vy)
    (HO : OR T W base v xs) (HR : RR T W vy ys) (HB : Below base w0 W) (hbase : base ≤ W.heap.size) (hl : (xs.length + ys.length) * T.bytes ≤ 140737488355328)
    (h : ∀ v1 w1, OR T w1 base v1 (xs ++ ys) → Below base w0 w1 → W.grownBy w1 v.ownBlock → (v1.ownBlock = v.ownBlock ∨ ∃ b, v1.ownBlock = some b ∧ W.heap.size ≤ b) → base ≤ w1.heap.size → wpList P ops Q rest (a.put o.dst v1) w1) :
    wpList P ops Q (o :: rest) a W := by
  obtain ⟨i0, hi, hzz⟩ := Option.map_eq_some_iff.1 hinfo
  simp only [Prod.mk.injEq] at hzz
  obtain ⟨hz0, hz1, hz2⟩ := hzz
  have hlen : xs.length + ys.length ≤ 140737488355328 := Nat.le_trans (Nat.le_mul_of_pos_right _ T.hby) hl
  obtain ⟨A, c, rfl, hc, hm, hcell⟩ := HR
  have hrun : ∃ v1 w1, (Builtin.append_ #[t, t] o.type #[v, .slice A ys.length c]).run P W = .ok v1 w1 ∧ OR T w1 base v1 (xs ++ ys) ∧ W.grownBy w1 v.ownBlock ∧ (v1.ownBlock = v.ownBlock ∨ v1.ownBlock = some W.heap.size) := by
    rcases Nat.eq_zero_or_pos ys.length with h0 | h0
    · obtain rfl : ys = [] := List.eq_nil_of_length_eq_zero h0
      refine ⟨v, W, ?_, by simpa using HO, World.grownBy.refl W _, .inl rfl⟩
      rcases HO.2 with ⟨rfl, hn⟩ | ⟨g, cap, cur, rfl, _, hgg, hnc, _, hcs, _⟩
      · cases A <;> simp [Builtin.append_, run_underlying ht, sizeOf, typeInfo, hi, Builtin.lenOf, Builtin.firstCells, loadCells, loadCellsFrom]
      · cases A <;> simp [Builtin.append_, run_underlying ht, sizeOf, typeInfo, hi, Builtin.lenOf, Builtin.firstCells, hnc, storeCells, loadCells, loadCellsFrom]
    · obtain ⟨ad, rfl, hcc⟩ := hcell h0
      obtain ⟨v1, w1, h1, h2, h3, _, h5⟩ := run_append_own_at (P := P) W base t o.type T.id i0 z T.sz T.bytes ht hi hz0 hz1 hz2 hz T.hsz v xs.length (T.all xs) HO ad ys.length c (T.all ys) (Ty.all_length ys) hcc (Ty.all_oneCell ys) (by simp only [maxLen]; omega) hl hbase
      exact ⟨v1, w1, h1, by unfold OR; rw [List.length_append, Ty.all_append]; exact h2, h3, h5⟩
  obtain ⟨v1, w1, h1, h2, h3, h4⟩ := hrun
  refine wpList_plain hgd fun K hK => ?_
  unfold Oper.wp execOp
  simp only [ho, resolve, invoke, builtin, Sem.run_bind, Sem.run_pure, Result.andThen_ok, List.map_toArray, List.map_cons, List.map_nil, hs, hx, h1]
  refine hK _ _ (h v1 w1 h2 (HB.grown h3 hbase (fun k hk => (OR.ge HO k hk).1)) h3 ?_ (Nat.le_trans hbase h3.size))
  rcases h4 with h4 | h4
  · exact .inl h4
  · exact .inr ⟨_, h4, Nat.le_refl _⟩
end

theorem grown_none {w w' : World} (h : w.grownBy w' none) : Below w.heap.size w w' := ⟨h.os, h.tape, h.output, h.size, fun k hk => h.block k hk (by simp)⟩
theorem below_grown {w w' : World} (h : Below w.heap.size w w') (row : Option Nat) : w.grownBy w' row := ⟨h.os, h.tape, h.output, h.size, fun k hk _ => h.block k hk⟩

/-! A region that draws its order, whose steps leave what was there as it was, but for the block 'row': S is always 'as in the world at hand'. -/
def wpE (P : Program) (ops : Array Oper) (Q : Exit → Act → World → Prop) (row : Option Nat) (fuel : Nat) (listed : Array Bool) (a : Act) (w : World) : Prop := wpAnyH P .any ops Q (fun w' => w.grownBy w' row) fuel listed a w
section
variable {ops : Array Oper} {Q : Exit → Act → World → Prop} {row : Option Nat}
theorem wpAnyH_imp {md : Region.Mode} {S S' : World → Prop} (hS : ∀ w, S' w → S w) : ∀ (fuel : Nat) (listed : Array Bool) (a : Act) (w : World), wpAnyH P md ops Q S' fuel listed a w → wpAnyH P md ops Q S fuel listed a w
  | 0, _, _, _, h => h
  | fuel + 1, _, _, _, h => ⟨h.1, fun i hi => wpOp_mono (fun a' w' h' => ⟨hS _ h'.1, wpAnyH_imp hS fuel _ a' w' h'.2⟩) (h.2 i hi)⟩
theorem startE (row : Option Nat) {id : Nat} {a : Act} {w : World} (hm : P.follows .mixedOrders = true) (h : wpE P ops Q row ops.size (Array.replicate ops.size false) a w.drew) : (Code.region id ops true).wp P Q a w :=
  wp_region_held_drew (S := fun w' => w.drew.grownBy w' row) hm (World.grownBy.refl _ _) (fun _ => h)
theorem takeE (i : Nat) {oi : Oper} {v : Value} {fuel : Nat} {listed : Array Bool} {a : Act} {w : World} (hi : ops.toList[i]? = some oi) (hs : Region.noSelect ops = true) (hf : Region.free .any ops listed i = true) (hr : (Region.ready .any ops listed).contains i = true)
    (hQ : ∀ c a w, Q (.panic c) (a.put oi.dst v) w → Q (.panic c) a w) (hw : Region.wanted oi (yielded ops a.tmps) = true)
    (hy : ∀ w', w.grownBy w' row → (execOp a.eval oi).run P w' = .ok (.value v) w') (h : wpE P ops Q row fuel (listed.setIfInBounds i true) (a.put oi.dst v) w) : wpE P ops Q row (fuel + 1) listed a w :=
  wpAnyH_take (by simpa using hi) hs hf hr hQ (.inl ⟨hw, hy⟩) (World.grownBy.refl _ _) h
theorem skipE (i : Nat) {oi : Oper} {fuel : Nat} {listed : Array Bool} {a : Act} {w : World} (hi : ops.toList[i]? = some oi) (hs : Region.noSelect ops = true) (hf : Region.free .any ops listed i = true) (hr : (Region.ready .any ops listed).contains i = true)
    (hQ : ∀ c a w, Q (.panic c) (a.put oi.dst undef) w → Q (.panic c) a w) (hw : Region.wanted oi (yielded ops a.tmps) = false)
    (h : wpE P ops Q row fuel (listed.setIfInBounds i true) (a.put oi.dst undef) w) : wpE P ops Q row (fuel + 1) listed a w :=
  wpAnyH_take (by simpa using hi) hs hf hr hQ (.inr ⟨hw, rfl⟩) (World.grownBy.refl _ _) h
theorem stepE (i : Nat) {oi : Oper} {fuel : Nat} {listed : Array Bool} {a : Act} {w : World} (hi : ops.toList[i]? = some oi) (hr : Region.ready .any ops listed = [i]) (hw : Region.wanted oi (yielded ops a.tmps) = true)
    (h : ∀ K : Act → World → Prop, Shut (∀ a' w', w.grownBy w' row → wpE P ops Q row fuel (listed.setIfInBounds i true) a' w' → K a' w') → oi.wp P a w K Q) : wpE P ops Q row (fuel + 1) listed a w :=
  wpAnyH_ready hr (by simp) (AllReadyH.cons (by simpa using hi) (fun K hK => by rw [if_pos hw]; exact h K (fun a' w' hb he => hK a' w' hb (fun _ => wpAnyH_imp (fun w2 h2 => World.grownBy.trans hb h2) _ _ _ _ he))) AllReadyH.nil)
/-- Behind a step that only makes memory: on with the walk. -/
theorem K_out {P : Program} {fuel : Nat} {listed : Array Bool} {K : Act → World → Prop} {a' : Act} {w w' : World} (hK : Shut (∀ a' w', w.grownBy w' row → wpE P ops Q row fuel listed a' w' → K a' w')) (hb : Below w.heap.size w w')
    (h : wpE P ops Q row fuel listed a' w') : K a' w' := hK.out a' w' (below_grown hb row) h
theorem doneE {fuel : Nat} {listed : Array Bool} {a : Act} {w : World} (hr : Region.ready .any ops listed = []) (h : Q .normal a w) : wpE P ops Q row fuel listed a w := wpAnyH_done hr h fuel
end

/-- A literal row. -/
theorem OR.lit (T : Ty α) (w : World) (base : Nat) (xs : List α) (cs : Array Value) (hcs : cs.toList = T.all xs) (hb : base ≤ w.heap.size) (hm : xs.length ≤ 9223372036854775807) :
    OR T (w.alloc (.cells cs T.id)) base (.slice (some ⟨w.heap.size, 0, none⟩) xs.length xs.length) xs := by
  have h := World.ownsRow_lit (base := base) (e := T.id) (size := T.sz) w cs xs.length hb (by simpa [maxLen] using hm) (by rw [← Array.length_toList, hcs, Ty.all_length])
  unfold OR
  rw [hcs] at h
  exact h

/-! Bytes. -/
abbrev cb (x : UInt8) : Value := .int .u8 (x.toNat : Int)
def U8 (e : Nat) : Ty UInt8 where
  id := e
  sz := 1
  bytes := 1
  zero := .int .u8 0
  enc := fun x => [cb x]
  hlen := fun _ => rfl
  hone := fun x u hu => by simp at hu; subst hu; rfl
  hsz := by omega
  hby := by omega
theorem U8_all (e : Nat) (xs : List UInt8) : (U8 e).all xs = xs.map cb := by
  unfold Ty.all U8
  induction xs with
  | nil => rfl
  | cons x xs ih => simp [List.flatMap_cons, ih]

def str (xs : List UInt8) : ByteArray := ⟨xs.toArray⟩
@[simp, go_sem] theorem str_toList (xs : List UInt8) : (str xs).toList = xs := ByteArray.toList_mk xs
theorem str_inj {xs ys : List UInt8} (h : str xs = str ys) : xs = ys := by
  unfold str at h
  injection h with h
  simpa using congrArg Array.toList h

/-- string(v). -/
theorem RR.string {e : Nat} {w : World} {v : Value} {xs : List UInt8} (h : RR (U8 e) w v xs) {src dst e' : TypeId} (hs : P.underlying src = some (.slice e')) (he : P.underlying e' = some (.int .u8)) (hd : P.underlying dst = some .string) :
    (convert src dst v).run P w = .ok (.string (str xs)) w := by
  obtain ⟨A, c, rfl, hc, hm, hcell⟩ := h
  rcases Nat.eq_zero_or_pos xs.length with h0 | h0
  · obtain rfl : xs = [] := List.eq_nil_of_length_eq_zero h0
    rw [run_convert_bytes_string w src dst e' _ _ c hs he hd]
    cases A <;> simp [Conv.bytesToString, str, loadCells, loadCellsFrom, ByteArray.empty, ByteArray.emptyWithCapacity] <;> rfl
  · obtain ⟨ad, rfl, hcc⟩ := hcell h0
    have hl : (loadCells ad xs.length).run P w = .ok (xs.map cb).toArray w := by
      have := run_loadCells_list (P := P) w ad (xs.map cb) (fun j v hj => hcc j v (by rw [U8_all]; exact hj))
      simpa using this
    have hl2 : (xs.map cb) = (xs.map fun x => ((x.toNat : Int))).map (Value.int .u8) := by simp [cb]
    rw [hl2] at hl
    rw [run_convert_bytes_string w src dst e' _ _ c hs he hd, run_bytesToString w _ xs.length c (xs.map fun x => ((x.toNat : Int))) hl, foldl_push_bytes]
    simp [str, ByteArray.empty, ByteArray.emptyWithCapacity, Function.comp_def]
    rfl
end Go.Proofs.Ytfnneneaalaagaa
