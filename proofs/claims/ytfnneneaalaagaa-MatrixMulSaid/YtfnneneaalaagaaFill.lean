/- Structs and arrays, built of parts; parts laid into a variable. -/
import Derived.Test.YtfnneneaalaagaaAgg
namespace Go.Proofs.Ytfnneneaalaagaa
open Go.RowKit
variable {P : Program}

/-- vs, laid over cs from place i on. -/
def lay (cs : List Value) (i : Nat) (vs : List Value) : List Value := cs.take i ++ vs ++ cs.drop (i + vs.length)
theorem lay_length (cs : List Value) (i : Nat) (vs : List Value) (h : i + vs.length ≤ cs.length) : (lay cs i vs).length = cs.length := by
  unfold lay; simp; omega
theorem lay_cons (cs : List Value) (i : Nat) (v : Value) (vs : List Value) (h : i < cs.length) : lay (cs.set i v) (i + 1) vs = lay cs i (v :: vs) := by
  have e : cs.set i v = cs.take i ++ (v :: cs.drop (i + 1)) := by rw [List.set_eq_take_append_cons_drop, if_pos h]
  have hl : (cs.take i).length = i := by rw [List.length_take]; omega
  have e1 : (cs.take i ++ (v :: cs.drop (i + 1))).take (i + 1) = cs.take i ++ [v] := by
    rw [List.take_append, hl, List.take_of_length_le (by omega), show i + 1 - i = 1 by omega]
    rfl
  have e2 : (cs.take i ++ (v :: cs.drop (i + 1))).drop (i + 1 + vs.length) = cs.drop (i + (vs.length + 1)) := by
    rw [List.drop_append, hl, List.drop_of_length_le (by omega), List.nil_append, show i + 1 + vs.length - i = vs.length + 1 by omega, List.drop_succ_cons, List.drop_drop]
    congr 1
    omega
  unfold lay
  rw [e, e1, e2, List.length_cons, List.append_assoc (cs.take i) [v] vs]
  rfl
theorem foldl_lay (off : Nat) : ∀ (vs : List Value) (n : Nat) (cs : List Value), off + n + vs.length ≤ cs.length →
    (vs.zipIdx n).foldl (fun (c : Array Value) (x : Value × Nat) => c.setIfInBounds (off + x.2) x.1) cs.toArray = (lay cs (off + n) vs).toArray
  | [], n, cs, _ => by simp [lay]
  | v :: vs, n, cs, h => by
    simp only [List.length_cons] at h
    rw [List.zipIdx_cons, List.foldl_cons]
    have e : cs.toArray.setIfInBounds (off + n) v = (cs.set (off + n) v).toArray := by simp
    rw [e, foldl_lay off vs (n + 1) (cs.set (off + n) v) (by simp; omega), ← Nat.add_assoc, lay_cons cs (off + n) v vs (by omega)]
theorem fill_cons (place : Nat → Option (Nat × Nat)) (cs : List Value) (i : Nat) (v : Value) (rest : List (Nat × Value)) (off size : Nat) (vs : List Value) (hp : place i = some (off, size)) (hv : v.cells = vs.toArray) (hs : vs.length = size) (hl : off + size ≤ cs.length) :
    Instr.fill place cs.toArray ((i, v) :: rest) = Instr.fill place (lay cs off vs).toArray rest := by
  have h1 : (v.cells.size != size || decide (off + v.cells.size > cs.toArray.size)) = false := by
    rw [hv]; simp; omega
  have h2 : v.cells.zipIdx.foldl (fun cs (c, j) => cs.setIfInBounds (off + j) c) cs.toArray = (lay cs off vs).toArray := by
    rw [hv]
    have := foldl_lay off vs 0 cs (by omega)
    rw [Nat.add_zero] at this
    rw [← this, ← Array.foldl_toList]
    simp
  rw [Instr.fill, hp]
  simp only [h2]
  rw [if_neg]
  have h3 := h1
  simp only [Bool.or_eq_false_iff, bne_eq_false_iff_eq, decide_eq_false_iff_not] at h3
  simp [h3.1]
  have := h3.2
  simp at this
  omega

section
variable {ops : Array Oper} {rest : List Oper} {o : Oper} {a : Act} {Q : Exit → Act → World → Prop} {w : World} {ρ : Operand → Value}
theorem run_storeVar_lay (t : TypeId) (b off : Nat) (v : Value) (vs old : List Value) (hvc : v.cells = vs.toArray) (t2 : TypeId) (hv : VA w b t2 old) (hi : (P.info? t).map (·.size) = some vs.length) (hl : off + vs.length ≤ old.length) (h1 : ∀ v ∈ vs, v.oneCell' = true) :
    (storeVar t ⟨b, off, none⟩ v).run P w = .ok () (w.setRow b (lay old off vs).toArray) := by
  have := run_storeCells_at P b off t2 vs 0 old.toArray w hv (by simpa using hl) h1
  simp only [Nat.add_zero] at this
  cases hq : P.info? t with
  | none => simp [hq] at hi
  | some i =>
    have hs : i.size = vs.length := by simpa [hq] using hi
    simp [storeVar, sizeOf, typeInfo, hq, hvc, hs, this, lay]
theorem exec_lay (t : TypeId) (x y : Operand) (ho : o.op = .store t x y) (b off : Nat) (hx : ρ x = .pointer (some ⟨b, off, none⟩)) (vs old : List Value) (hy : (ρ y).cells = vs.toArray) (t2 : TypeId) (hv : VA w b t2 old) (hi : (P.info? t).map (·.size) = some vs.length) (hl : off + vs.length ≤ old.length) (h1 : ∀ v ∈ vs, v.oneCell' = true) :
    (execOp ρ o).run P w = .ok .skip (w.setRow b (lay old off vs).toArray) := by
  unfold execOp
  simp only [ho, hx, Instr.storeAt, Instr.sureAddr, Sem.run_bind, Sem.run_pure, Result.andThen_ok, run_storeVar_lay t b off (ρ y) vs old hy t2 hv hi hl h1]
/-- A part is laid into a variable. -/
theorem wpLay (t : TypeId) (x y : Operand) (ho : o.op = .store t x y) (b off : Nat) (hx : a.eval x = .pointer (some ⟨b, off, none⟩)) (vs old new : List Value) (hy : (a.eval y).cells = vs.toArray) (t2 : TypeId) (hv : VA w b t2 old) (hi : (P.info? t).map (·.size) = some vs.length) (hl : off + vs.length ≤ old.length) (h1 : ∀ v ∈ vs, v.oneCell' = true)
    (hn : lay old off vs = new) (hw : Region.wanted o (yielded ops a.tmps) = true) (h : ∀ w', VA w' b t2 new → w.grownBy w' (some b) → wpList P ops Q rest (a.put o.dst undef) w') : wpList P ops Q (o :: rest) a w := by
  subst hn
  exact stepS (exec_lay t x y ho b off hx vs old hy t2 hv hi hl h1) hw (h _ (hv.set _) (setRow_grown _ _ _))
end
end Go.Proofs.Ytfnneneaalaagaa
