/- Structs and arrays in variables of the call's own. -/
import Derived.Test.YtfnneneaalaagaaEq
import Derived.Deep.MidRow
import Derived.Laws.Tables
namespace Go.Proofs.Ytfnneneaalaagaa
open Go.RowKit
variable {P : Program} {α : Type}

/-- Block b holds cs. -/
def VA (w : World) (b : Nat) (t : TypeId) (cs : List Value) : Prop := w.heap[b]? = some (.cells cs.toArray t (0, 0))
theorem VA.lt {w : World} {b : Nat} {t : TypeId} {cs : List Value} (h : VA w b t cs) : b < w.heap.size := by
  rcases Nat.lt_or_ge b w.heap.size with h2 | h2
  · exact h2
  · rw [VA, Array.getElem?_eq_none h2] at h; cases h
theorem VA.grown {w w1 : World} {b : Nat} {t : TypeId} {cs : List Value} {row : Option Nat} (h : VA w b t cs) (hg : w.grownBy w1 row) (hne : some b ≠ row) : VA w1 b t cs := (hg.block b h.lt hne).trans h
theorem VA.below {w w1 : World} {b : Nat} {t : TypeId} {cs : List Value} (h : VA w b t cs) (hb : Below w.heap.size w w1) : VA w1 b t cs := (hb.block b h.lt).trans h
theorem VA.cell {w : World} {b : Nat} {t : TypeId} {cs : List Value} (h : VA w b t cs) (i : Nat) : w.cell? ⟨b, i, none⟩ = cs[i]? := by
  unfold World.cell?
  rw [show (⟨b, i, none⟩ : Addr).block = b from rfl, h]
  simp
theorem VA.frozen {w : World} {b : Nat} {t : TypeId} {cs : List Value} (h : VA w b t cs) (i : Nat) : w.frozen? ⟨b, i, none⟩ = false := by
  unfold World.frozen?
  rw [show (⟨b, i, none⟩ : Addr).block = b from rfl, h]
  simp
theorem VA.range {w : World} {b : Nat} {t : TypeId} {cs : List Value} (h : VA w b t cs) (o : Nat) (xs : List Value) (hx : (cs.drop o).take xs.length = xs) : w.rangeAt b o xs := fun j v hv => by
  rw [h.cell, ← hv, ← hx, List.getElem?_take, List.getElem?_drop]
  have := (List.getElem?_eq_some_iff.1 hv).1
  rw [if_pos this]
theorem VA.all {w : World} {b : Nat} {t : TypeId} {cs : List Value} (h : VA w b t cs) : w.rangeAt b 0 cs := h.range 0 cs (by simp)
theorem VA.new (w : World) (cs : List Value) (t : TypeId) : VA (w.alloc (.cells cs.toArray t)) w.heap.size t cs := heap_alloc_new w _
theorem RR.range {T : Ty α} {w : World} {b o : Nat} {xs : List α} (h : w.rangeAt b o (T.all xs)) (hm : xs.length ≤ 9223372036854775807) : RR T w (.slice (some ⟨b, o, none⟩) xs.length xs.length) xs :=
  ⟨some ⟨b, o, none⟩, xs.length, rfl, Nat.le_refl _, by simpa [maxLen] using hm, fun _ => ⟨_, rfl, fun j v hv => by rw [Addr.add_mid]; exact h j v hv⟩⟩

section
variable {ops : Array Oper} {rest : List Oper} {o o1 o2 : Oper} {a : Act} {Q : Exit → Act → World → Prop} {w w' : World} {ρ : Operand → Value}

/-- An operation that yields a value. -/
theorem stepV {v : Value} (hr : (execOp a.eval o).run P w = .ok (.value v) w') (hw : Region.wanted o (yielded ops a.tmps) = true) (h : wpList P ops Q rest (a.put o.dst v) w') : wpList P ops Q (o :: rest) a w :=
  wpList_step fun K hK => by
    rw [if_pos hw]
    unfold Oper.wp
    rw [hr]
    exact hK _ _ h
theorem stepS (hr : (execOp a.eval o).run P w = .ok .skip w') (hw : Region.wanted o (yielded ops a.tmps) = true) (h : wpList P ops Q rest (a.put o.dst undef) w') : wpList P ops Q (o :: rest) a w :=
  wpList_step fun K hK => by
    rw [if_pos hw]
    unfold Oper.wp
    rw [hr]
    exact hK _ _ h

theorem exec_load (t : TypeId) (x : Operand) (ho : o.op = .load t x) (b off : Nat) (hx : ρ x = .pointer (some ⟨b, off, none⟩)) (cs : List Value) (d : TypeDesc) (hc : w.rangeAt b off cs)
    (hu : P.underlying t = some d) (hd : d.isRow = true) (hi : (P.info? t).map (·.size) = some cs.length) : (execOp ρ o).run P w = .ok (.value (.agg cs.toArray)) w := by
  unfold execOp
  simp only [ho, hx, run_loadAt_mid w b off t cs d hc hu hd hi, Sem.run_bind, Sem.run_pure, Result.andThen_ok]
theorem run_loadAt_any (w : World) (ad : Addr) (ty : TypeId) (cs : List Value) (d : TypeDesc) (hc : ∀ (j : Nat) (v : Value), cs[j]? = some v → w.cell? (ad.add j) = some v)
    (hu : P.underlying ty = some d) (hd : d.isRow = true) (hi : (P.info? ty).map (·.size) = some cs.length) : (Instr.loadAt ty (.pointer (some ad))).run P w = .ok (.agg cs.toArray) w := by
  have hl : (loadCells ad cs.length).run P w = .ok cs.toArray w := run_loadCells_list (P := P) w ad cs hc
  have hv : (loadVar ty ad).run P w = .ok (.agg cs.toArray) w := by
    cases hq : P.info? ty with
    | none => simp [hq] at hi
    | some i =>
      have hs : i.size = cs.length := by simpa [hq] using hi
      have hagg : (isAgg ty).run P w = .ok true w := by
        unfold isAgg
        rw [Sem.run_bind, run_underlying hu w]
        cases d <;> simp_all
      simp [loadVar, Sem.run_bind, hagg, sizeOf, typeInfo, hq, hs, hl]
  simp only [Instr.loadAt, Instr.sureAddr, Sem.run_bind, Sem.run_pure, Result.andThen_ok, hv]
theorem exec_loadA (t : TypeId) (x : Operand) (ho : o.op = .load t x) (ad : Addr) (hx : ρ x = .pointer (some ad)) (cs : List Value) (d : TypeDesc) (hc : ∀ (j : Nat) (v : Value), cs[j]? = some v → w.cell? (ad.add j) = some v)
    (hu : P.underlying t = some d) (hd : d.isRow = true) (hi : (P.info? t).map (·.size) = some cs.length) : (execOp ρ o).run P w = .ok (.value (.agg cs.toArray)) w := by
  unfold execOp
  simp only [ho, hx, run_loadAt_any w ad t cs d hc hu hd hi, Sem.run_bind, Sem.run_pure, Result.andThen_ok]
theorem exec_arrptr (arr : TypeId) (x : Operand) (ho : o.op = .sliceToArrayPointer arr x) (n : Nat) (e : TypeId) (ht : P.underlying arr = some (.array n e)) (A : Option Addr) (len c : Nat) (hx : ρ x = .slice A len c) (hl : n ≤ len) : (execOp ρ o).run P w = .ok (.value (.pointer A)) w := by
  have h : ¬ len < n := by omega
  unfold execOp
  simp only [ho, hx, Instr.arrayAt, Sem.run_bind, run_underlying ht, Result.andThen_ok, if_neg h, Sem.run_pure]
theorem exec_build (t : TypeId) (parts : Array (Nat × Operand)) (ho : o.op = .build t parts) (cs : List Value) (h : P.built t (parts.map fun (i, x) => (i, ρ x)).toList = some cs.toArray) : (execOp ρ o).run P w = .ok (.value (.agg cs.toArray)) w := by
  unfold execOp
  simp only [ho, run_build w _ _ _ h, Sem.run_bind, Sem.run_pure, Result.andThen_ok]
theorem exec_buildL (t : TypeId) (parts : List (Nat × Operand)) (ho : o.op = .build t parts.toArray) (vals : List (Nat × Value)) (hv : parts.map (fun x => (x.1, ρ x.2)) = vals) (cs : List Value) (h : P.built t vals = some cs.toArray) : (execOp ρ o).run P w = .ok (.value (.agg cs.toArray)) w :=
  exec_build t parts.toArray ho cs (by subst hv; simpa using h)
theorem exec_zero (t : TypeId) (ho : o.op = .build t #[]) (cs : List Value) (h : P.built t [] = some cs.toArray) : (execOp ρ o).run P w = .ok (.value (.agg cs.toArray)) w :=
  exec_build t #[] ho cs (by simpa using h)
theorem exec_eql (t tx : TypeId) (x y : Operand) (ho : o.op = .binOp .eql t x y tx) (xs ys : Array Value) (hx : ρ x = .agg xs) (hy : ρ y = .agg ys) (hm : P.eqGuardType P.depth t = false) (r : Bool) (h : (binOp .eql t (.agg xs) (.agg ys)).run P w = .ok (.bool r) w) :
    (execOp ρ o).run P w = .ok (.value (.bool r)) w := by
  unfold execOp
  simp only [ho, hx, hy, run_eqGuard_agg w _ _ _ _ _ _ hm, h, Sem.run_bind, Sem.run_pure, Result.andThen_ok]
theorem exec_neq (t tx : TypeId) (x y : Operand) (ho : o.op = .binOp .neq t x y tx) (xs ys : Array Value) (hx : ρ x = .agg xs) (hy : ρ y = .agg ys) (hm : P.eqGuardType P.depth t = false) (r : Bool) (h : (binOp .eql t (.agg xs) (.agg ys)).run P w = .ok (.bool r) w) :
    (execOp ρ o).run P w = .ok (.value (.bool (!r))) w := by
  have h2 : (binOp .neq t (.agg xs) (.agg ys)).run P w = .ok (.bool (!r)) w := by
    rw [run_neq_struct]
    rw [run_eql_struct] at h
    generalize (Op.equalIn 10000 t (.agg xs) (.agg ys)).run P w = q at h ⊢
    cases q with
    | ok b w2 => simp only [Result.andThen_ok] at h ⊢; cases h; rfl
    | halt x w2 => simp [Result.andThen] at h
  unfold execOp
  simp only [ho, hx, hy, run_eqGuard_agg w _ _ _ _ _ _ hm, h2, Sem.run_bind, Sem.run_pure, Result.andThen_ok]
theorem exec_index {e : TypeId} {m n D : Nat} {ag : Bool} {enc : α → List Value} {val : α → Value} {eq : α → α → Bool} (h : EqT P e n ag D enc val eq) (t : TypeId) (x y : Operand) (ho : o.op = .index t x y) (ht : P.underlying t = some (.array m e)) (xs : List α) (hx : ρ x = .agg (xs.flatMap enc).toArray) (hl : xs.length = m)
    (i : Nat) (k : IntKind) (hy : ρ y = .int k (i : Int)) (hi : i < xs.length) : (execOp ρ o).run P w = .ok (.value (val xs[i])) w := by
  have h1 : 0 ≤ (i : Int) ∧ (i : Int) < (m : Int) := by omega
  have hmul : i * n + n ≤ xs.length * n := by rw [← Nat.succ_mul]; exact Nat.mul_le_mul_right _ hi
  have hp := h.part (xs.flatMap enc) (i * n) xs[i] (flatMap_at h.len xs i hi) (by rw [flatMap_len h.len]; exact hmul) w
  unfold execOp
  simp only [ho, hx, hy, Instr.index, asIntOf, Sem.run_bind, Sem.run_pure, Result.andThen_ok, run_underlying ht, if_pos h1, Sem.run_ite, h.size, Int.toNat_natCast, hp]
theorem exec_box (t : TypeId) (x : Operand) (ho : o.op = .box t x) (cs : List Value) (hx : ρ x = .agg cs.toArray) : (execOp ρ o).run P w = .ok (.value (.pointer (some ⟨w.heap.size, 0, none⟩))) (w.alloc (.cells cs.toArray t)) := by
  unfold execOp
  simp only [ho, hx]
  rfl
theorem exec_alloc (t : TypeId) (ho : o.op = .alloc t) (z : Value) (cs : List Value) (hz : (P.info? t).map (·.zero) = some (some z)) (hc : z.cells = cs.toArray) : (execOp ρ o).run P w = .ok (.value (.pointer (some ⟨w.heap.size, 0, none⟩))) (w.alloc (.cells cs.toArray t)) := by
  cases hq : P.info? t with
  | none => simp [hq] at hz
  | some i =>
    simp only [hq, Option.map_some, Option.some.injEq] at hz
    unfold execOp
    simp only [ho, Instr.alloc, zeroValue, typeInfo, Sem.run_bind, run_program, Sem.run_pure, Result.andThen_ok, hq, hz, newVar, newRow, hc]
    rfl
theorem exec_store (t : TypeId) (x y : Operand) (ho : o.op = .store t x y) (b : Nat) (hx : ρ x = .pointer (some ⟨b, 0, none⟩)) (cs old : List Value) (hy : ρ y = .agg cs.toArray) (t2 : TypeId) (hv : VA w b t2 old) (hi : (P.info? t).map (·.size) = some cs.length) (hl : old.length = cs.length) (h1 : ∀ v ∈ cs, v.oneCell' = true) :
    (execOp ρ o).run P w = .ok .skip (w.setRow b cs.toArray) := by
  unfold execOp
  simp only [ho, hx, hy, Instr.storeAt, Instr.sureAddr, Sem.run_bind, Sem.run_pure, Result.andThen_ok, run_storeVar_row w b t2 t old.toArray cs.toArray hv (by simpa using hi) (by simpa using hl) (all_oneCell_toArray h1)]

theorem VA.set {w : World} {b : Nat} {t : TypeId} {old : List Value} (h : VA w b t old) (cs : List Value) : VA (w.setRow b cs.toArray) b t cs := setRow_heap w b old.toArray cs.toArray t (0, 0) h
theorem setRow_grown (w : World) (b : Nat) (cs : Array Value) : w.grownBy (w.setRow b cs) (some b) := ⟨rfl, rfl, rfl, by simp, fun k _ hk => by
  simp only [World.setRow, Array.getElem?_modify]
  rw [if_neg (fun e => hk (by rw [e]))]⟩
theorem alloc_belowAt (w : World) (o : Obj) : Below w.heap.size w (w.alloc o) := (Below.refl _ _).alloc (Nat.le_refl _) _

theorem run_loadVar_va {w : World} {b : Nat} {t2 : TypeId} {cs : List Value} (hv : VA w b t2 cs) (t : TypeId) (d : TypeDesc) (hu : P.underlying t = some d) (hd : d.isRow = true) (hi : (P.info? t).map (·.size) = some cs.length) : (loadVar t ⟨b, 0, none⟩).run P w = .ok (.agg cs.toArray) w :=
  run_loadVar_mid w b 0 t cs d hv.all hu hd hi
theorem results_cell {fn : Func} {d : Tmp} {t : TypeId} (h : fn.results = #[.cell d t]) (tmps : Array Value) {w : World} {b : Nat} {t2 : TypeId} {cs : List Value} (hv : VA w b t2 cs) (hp : tmps.getD d undef = .pointer (some ⟨b, 0, none⟩)) (td : TypeDesc) (hu : P.underlying t = some td) (hd : td.isRow = true) (hi : (P.info? t).map (·.size) = some cs.length) :
    (results fn tmps).run P w = .ok (.agg cs.toArray) w := by
  have hp2 : tmps[d]?.getD undef = .pointer (some ⟨b, 0, none⟩) := by rw [← hp]; simp
  simp [results, h, hp2, asAddr, run_loadVar_va hv t td hu hd hi]
theorem results_cell_tmp {fn : Func} {d e : Tmp} {t : TypeId} (h : fn.results = #[.cell d t, .tmp e]) (tmps : Array Value) {w : World} {b : Nat} {t2 : TypeId} {cs : List Value} (hv : VA w b t2 cs) (hp : tmps.getD d undef = .pointer (some ⟨b, 0, none⟩)) (td : TypeDesc) (hu : P.underlying t = some td) (hd : td.isRow = true) (hi : (P.info? t).map (·.size) = some cs.length) :
    (results fn tmps).run P w = .ok (.tuple #[.agg cs.toArray, tmps.getD e undef]) w := by
  have hp2 : tmps[d]?.getD undef = .pointer (some ⟨b, 0, none⟩) := by rw [← hp]; simp
  simp [results, h, hp2, asAddr, run_loadVar_va hv t td hu hd hi]
/-- A variable is made, and a value laid into it. -/
theorem wpVar (t : TypeId) (ho1 : o1.op = .alloc t) (z : Value) (zs : List Value) (hz : (P.info? t).map (·.zero) = some (some z)) (hc : z.cells = zs.toArray) (d : Nat) (y : Operand) (ho2 : o2.op = .store t (.tmp d) y) (cs : List Value)
    (hx : (a.put o1.dst (.pointer (some ⟨w.heap.size, 0, none⟩))).eval (.tmp d) = .pointer (some ⟨w.heap.size, 0, none⟩))
    (hy : (a.put o1.dst (.pointer (some ⟨w.heap.size, 0, none⟩))).eval y = .agg cs.toArray) (hl : zs.length = cs.length) (hi : (P.info? t).map (·.size) = some cs.length) (h1 : ∀ v ∈ cs, v.oneCell' = true)
    (hw1 : Region.wanted o1 (yielded ops a.tmps) = true) (hw2 : Region.wanted o2 (yielded ops (a.put o1.dst (.pointer (some ⟨w.heap.size, 0, none⟩))).tmps) = true)
    (h : ∀ w', VA w' w.heap.size t cs → Below w.heap.size w w' → wpList P ops Q rest ((a.put o1.dst (.pointer (some ⟨w.heap.size, 0, none⟩))).put o2.dst undef) w') : wpList P ops Q (o1 :: o2 :: rest) a w := by
  refine stepV (exec_alloc t ho1 z zs hz hc) hw1 ?_
  have hv := VA.new w zs t
  refine stepS (exec_store t (.tmp d) y ho2 w.heap.size hx cs zs hy t hv hi hl h1) hw2 ?_
  exact h _ (hv.set cs) ((alloc_belowAt w _).grown (setRow_grown _ _ _) (alloc_belowAt w _).size (fun k hk => by cases hk; exact Nat.le_refl _))
/-- A value is put into a variable of its own. -/
theorem wpBox (t : TypeId) (x : Operand) (ho : o.op = .box t x) (cs : List Value) (hx : a.eval x = .agg cs.toArray) (hw : Region.wanted o (yielded ops a.tmps) = true)
    (h : ∀ w', VA w' w.heap.size t cs → Below w.heap.size w w' → wpList P ops Q rest (a.put o.dst (.pointer (some ⟨w.heap.size, 0, none⟩))) w') : wpList P ops Q (o :: rest) a w :=
  stepV (exec_box t x ho cs hx) hw (h _ (VA.new w cs t) (alloc_belowAt w _))
/-- A variable is made. -/
theorem wpAlloc (t : TypeId) (ho : o.op = .alloc t) (z : Value) (zs : List Value) (hz : (P.info? t).map (·.zero) = some (some z)) (hc : z.cells = zs.toArray) (hw : Region.wanted o (yielded ops a.tmps) = true)
    (h : ∀ w', VA w' w.heap.size t zs → Below w.heap.size w w' → wpList P ops Q rest (a.put o.dst (.pointer (some ⟨w.heap.size, 0, none⟩))) w') : wpList P ops Q (o :: rest) a w :=
  stepV (exec_alloc t ho z zs hz hc) hw (h _ (VA.new w zs t) (alloc_belowAt w _))
/-- A value is laid into a variable. -/
theorem wpStore (t : TypeId) (x y : Operand) (ho : o.op = .store t x y) (b : Nat) (hx : a.eval x = .pointer (some ⟨b, 0, none⟩)) (cs old : List Value) (hy : a.eval y = .agg cs.toArray) (t2 : TypeId) (hv : VA w b t2 old) (hi : (P.info? t).map (·.size) = some cs.length) (hl : old.length = cs.length) (h1 : ∀ v ∈ cs, v.oneCell' = true)
    (hw : Region.wanted o (yielded ops a.tmps) = true) (h : ∀ w', VA w' b t2 cs → w.grownBy w' (some b) → wpList P ops Q rest (a.put o.dst undef) w') : wpList P ops Q (o :: rest) a w :=
  stepS (exec_store t x y ho b hx cs old hy t2 hv hi hl h1) hw (h _ (hv.set cs) (setRow_grown _ _ _))
/-- The same, at the operation: a step of a region that draws its order. -/
theorem opStore {K : Act → World → Prop} (t : TypeId) (x y : Operand) (ho : o.op = .store t x y) (b : Nat) (hx : a.eval x = .pointer (some ⟨b, 0, none⟩)) (cs old : List Value) (hy : a.eval y = .agg cs.toArray) (t2 : TypeId) (hv : VA w b t2 old) (hi : (P.info? t).map (·.size) = some cs.length) (hl : old.length = cs.length) (h1 : ∀ v ∈ cs, v.oneCell' = true)
    (h : ∀ w', VA w' b t2 cs → w.grownBy w' (some b) → K (a.put o.dst undef) w') : o.wp P a w K Q := by
  unfold Oper.wp
  rw [exec_store t x y ho b hx cs old hy t2 hv hi hl h1]
  exact h _ (hv.set cs) (setRow_grown _ _ _)
end
end Go.Proofs.Ytfnneneaalaagaa
