/- '==' of arrays and of structs. -/
import Derived.Test.YtfnneneaalaagaaKit
import Derived.Laws.StructEq
namespace Go.Proofs.Ytfnneneaalaagaa
open Go.RowKit
variable {P : Program} {α : Type}

/-- Two values of a type are told apart by '=='. -/
structure EqT (P : Program) (t : TypeId) (n : Nat) (ag : Bool) (D : Nat) (enc : α → List Value) (val : α → Value) (eq : α → α → Bool) : Prop where
  isAg : ∀ w, (isAgg t).run P w = .ok ag w
  size : ∀ w, (sizeOf t).run P w = .ok n w
  len : ∀ x, (enc x).length = n
  vals : ∀ x, val x = if ag = true then .agg (enc x).toArray else (enc x).headD undef
  one : ag = false → n = 1
  eqs : ∀ d w x y, (Op.equalIn (d + D) t (val x) (val y)).run P w = .ok (eq x y) w

theorem EqT.part {t : TypeId} {n D : Nat} {ag : Bool} {enc : α → List Value} {val : α → Value} {eq : α → α → Bool} (h : EqT P t n ag D enc val eq) (cs : List Value) (off : Nat) (x : α) (hx : (cs.drop off).take n = enc x) (hl : off + n ≤ cs.length) (w : World) :
    (part t cs.toArray off).run P w = .ok (val x) w := by
  unfold Go.part
  rw [Sem.run_bind, h.isAg w, Result.andThen_ok]
  cases ag with
  | true =>
    simp only [if_true, Sem.run_bind, h.size w, Result.andThen_ok, Sem.run_pure]
    rw [h.vals x, if_pos rfl, ← hx]
    congr 2
    apply Array.toList_inj.mp
    simp
  | false =>
    have hn := h.one rfl
    subst hn
    have hlt : off < cs.length := by omega
    have e1 : cs.toArray[off]? = some (val x) := by
      rw [h.vals x]
      simp only [Bool.false_eq_true, if_false, List.getElem?_toArray]
      rw [← hx, List.getElem?_eq_getElem hlt, List.drop_eq_getElem_cons hlt]
      rfl
    simp only [Bool.false_eq_true, if_false]
    rw [e1]
    simp

theorem flatMap_len {enc : α → List Value} {n : Nat} (h : ∀ x, (enc x).length = n) (xs : List α) : (xs.flatMap enc).length = xs.length * n := by
  induction xs with
  | nil => simp
  | cons x xs ih => simp [ih, h, Nat.succ_mul, Nat.add_comm]
theorem flatMap_at {enc : α → List Value} {n : Nat} (h : ∀ x, (enc x).length = n) : ∀ (xs : List α) (i : Nat) (hi : i < xs.length), ((xs.flatMap enc).drop (i * n)).take n = enc xs[i]
  | [], i, hi => by simp at hi
  | x :: xs, 0, _ => by simp [h]
  | x :: xs, i + 1, hi => by
    rw [List.flatMap_cons, Nat.succ_mul, Nat.add_comm, ← List.drop_drop, List.drop_left' (h x), flatMap_at h xs i (by simpa using hi)]
    rfl
theorem all_range_zip {eq : α → α → Bool} : ∀ (xs ys : List α), xs.length = ys.length → ((xs.zip ys).all fun p => eq p.1 p.2) = (List.range xs.length).all fun i => match xs[i]?, ys[i]? with | some a, some b => eq a b | _, _ => true
  | [], [], _ => rfl
  | [], _ :: _, h => by simp at h
  | _ :: _, [], h => by simp at h
  | x :: xs, y :: ys, h => by
    rw [List.length_cons, List.range_succ_eq_map, List.all_cons, List.all_map, List.zip_cons_cons, List.all_cons, all_range_zip xs ys (by simpa using h)]
    rfl

theorem EqT.arr {t e : TypeId} {n m D : Nat} {ag : Bool} {enc : α → List Value} {val : α → Value} {eq : α → α → Bool} (h : EqT P e n ag D enc val eq) (ht : P.underlying t = some (.array m e))
    (d : Nat) (w : World) (xs ys : List α) (hx : xs.length = m) (hy : ys.length = m) :
    (Op.equalIn (d + (D + 1)) t (.agg (xs.flatMap enc).toArray) (.agg (ys.flatMap enc).toArray)).run P w = .ok ((xs.zip ys).all fun p => eq p.1 p.2) w := by
  rw [all_range_zip xs ys (by omega), hx, List.range_eq_range', ← Nat.add_assoc, Op.equalIn]
  simp only [Sem.run_bind, run_underlying ht, Result.andThen_ok, h.size, Std.Legacy.Range.forIn_eq_forIn_range', Std.Legacy.Range.size, Nat.sub_zero, Nat.add_sub_cancel, Nat.div_one]
  have hl : ∀ i ∈ List.range' 0 m 1, i < m := fun i hi => by simpa using (List.mem_range'_1.1 hi).2
  generalize List.range' 0 m 1 = l at hl ⊢
  induction l with
  | nil => simp
  | cons i l ih =>
    have hi : i < m := hl i (by simp)
    have hix : i < xs.length := by omega
    have hiy : i < ys.length := by omega
    have hmul : i * n + n ≤ m * n := by rw [← Nat.succ_mul]; exact Nat.mul_le_mul_right _ hi
    have px := h.part (xs.flatMap enc) (i * n) xs[i] (flatMap_at h.len xs i hix) (by rw [flatMap_len h.len, hx]; exact hmul) w
    have py := h.part (ys.flatMap enc) (i * n) ys[i] (flatMap_at h.len ys i hiy) (by rw [flatMap_len h.len, hy]; exact hmul) w
    have pe := h.eqs d w xs[i] ys[i]
    simp only [List.forIn_cons, Sem.run_bind, px, py, pe, Result.andThen_ok, List.all_cons, List.getElem?_eq_getElem hix, List.getElem?_eq_getElem hiy]
    cases hb : eq xs[i] ys[i]
    · simp
    · simp only [Bool.not_true, Bool.false_eq_true, if_false, Sem.run_pure, Result.andThen_ok, Bool.true_and]
      exact ih fun j hj => hl j (by simp [hj])
theorem zip_all_eq [BEq α] [LawfulBEq α] : ∀ (xs ys : List α), xs.length = ys.length → ((xs.zip ys).all fun p => p.1 == p.2) = (xs == ys)
  | [], [], _ => rfl
  | [], _ :: _, h => by simp at h
  | _ :: _, [], h => by simp at h
  | x :: xs, y :: ys, h => by rw [List.zip_cons_cons, List.all_cons, zip_all_eq xs ys (by simpa using h), List.cons_beq_cons]

/-- Whole numbers of one cell. -/
theorem EqT.int (t : TypeId) (k : IntKind) (ht : P.underlying t = some (.int k)) (hs : ∀ w, (sizeOf t).run P w = .ok 1 w) (num : α → Int) :
    EqT P t 1 false 1 (fun x => [.int k (num x)]) (fun x => .int k (num x)) (fun x y => num x == num y) where
  isAg w := by unfold isAgg; rw [Sem.run_bind, run_underlying ht w]; rfl
  size := hs
  len x := rfl
  vals x := rfl
  one _ := rfl
  eqs d w x y := run_equalIn_int w d t k k _ _ ht

/-- Rows of so many elements. -/
abbrev RowOf (α : Type) (m : Nat) := { l : List α // l.length = m }
theorem EqT.row {t e : TypeId} {n m D : Nat} {ag : Bool} {enc : α → List Value} {val : α → Value} {eq : α → α → Bool} (h : EqT P e n ag D enc val eq) (ht : P.underlying t = some (.array m e)) (hs : ∀ w, (sizeOf t).run P w = .ok (m * n) w) :
    EqT P t (m * n) true (D + 1) (fun l : RowOf α m => l.1.flatMap enc) (fun l => .agg (l.1.flatMap enc).toArray) (fun x y => (x.1.zip y.1).all fun p => eq p.1 p.2) where
  isAg w := by unfold isAgg; rw [Sem.run_bind, run_underlying ht w]; rfl
  size := hs
  len x := by rw [flatMap_len h.len, x.2]
  vals x := rfl
  one h := by cases h
  eqs d w x y := h.arr ht d w x.1 y.1 x.2 y.2
/-- Fields by name, type and place. -/
def eqF (d : Nat) (xs ys : Array Value) : List (String × TypeId × Nat) → Sem Bool
  | [] => pure true
  | f :: fs =>
    if f.1 ≠ "_" then do
      let a ← part f.2.1 xs f.2.2
      let b ← part f.2.1 ys f.2.2
      let r ← Op.equalIn d f.2.1 a b
      if (!r) = true then pure false else eqF d xs ys fs
    else eqF d xs ys fs
theorem eqFields_eq (d : Nat) (xs ys : Array Value) : ∀ fs : List Field, Op.eqFields d xs ys fs = eqF d xs ys (fs.map fun f => (f.name, f.type, f.offset))
  | [] => rfl
  | f :: fs => by rw [Op.eqFields, List.map_cons, eqF, eqFields_eq d xs ys fs]
/-- One field of a struct. -/
theorem eqF_cons {β : Type} {n D : Nat} {ag : Bool} {enc : β → List Value} {val : β → Value} {eq : β → β → Bool} (name : String) (t : TypeId) (o : Nat) (fs : List (String × TypeId × Nat)) (h : EqT P t n ag D enc val eq) (hn : name ≠ "_") (d : Nat) (hD : D ≤ d) (xs ys : List Value) (x y : β)
    (hx : (xs.drop o).take n = enc x) (hy : (ys.drop o).take n = enc y) (hl : o + n ≤ xs.length) (hl2 : o + n ≤ ys.length) (w : World) (r : Bool) (hr : (eqF d xs.toArray ys.toArray fs).run P w = .ok r w) :
    (eqF d xs.toArray ys.toArray ((name, t, o) :: fs)).run P w = .ok (eq x y && r) w := by
  obtain ⟨d, rfl⟩ : ∃ k, d = k + D := ⟨d - D, by omega⟩
  rw [eqF, if_pos hn]
  simp only [Sem.run_bind, h.part xs o x hx hl w, h.part ys o y hy hl2 w, h.eqs d w x y, Result.andThen_ok]
  cases eq x y
  · simp
  · simp [hr]
theorem eqF_nil (d : Nat) (xs ys : Array Value) (w : World) : (eqF d xs ys []).run P w = .ok true w := by simp [eqF]
end Go.Proofs.Ytfnneneaalaagaa
