/- Pointers: what they are, and the package ptr. -/
import Derived.Test.YthogefehainmdabBase
import Derived.Test.YthogefehainmdabBits
import Derived.Test.YthogefehainmdabEq
import Derived.Deep.MidRow
namespace Go.Proofs.Ythogefehainmdab
open Go.RowKit

structure PT where
  hash : List UInt8
  hl : hash.length = 32
  birth : UInt32
  a0 : UInt32
  a1 : UInt32
  deriving DecidableEq
def u32 (n : UInt32) : Value := .int .u32 (n.toNat : Int)
def PT.cells (p : PT) : List Value := p.hash.map cb ++ [u32 p.birth, u32 p.a0, u32 p.a1]
def PT.val (p : PT) : Value := .agg p.cells.toArray
def PT.may (p : PT) : Bool := if p.a0 = 0 then p.a1 == 0 else p.a0 != p.a1
theorem PT.len (p : PT) : p.cells.length = 35 := by simp [PT.cells, p.hl]
theorem PT.take32 (p : PT) : p.cells.take 32 = p.hash.map cb := by rw [PT.cells, List.take_append_of_le_length (by simp [p.hl]), List.take_of_length_le (by simp [p.hl])]
theorem PT.drop32 (p : PT) : p.cells.drop 32 = [u32 p.birth, u32 p.a0, u32 p.a1] := by rw [PT.cells, List.drop_left' (by simp [p.hl])]
theorem PT.drop33 (p : PT) : p.cells.drop 33 = [u32 p.a0, u32 p.a1] := by rw [show 33 = 32 + 1 from rfl, ← List.drop_drop, PT.drop32]; rfl
theorem PT.c32 (p : PT) : p.cells.toArray[32]? = some (u32 p.birth) := by simp [PT.cells, p.hl]
theorem PT.c33 (p : PT) : p.cells.toArray[33]? = some (u32 p.a0) := by simp [PT.cells, p.hl]
theorem PT.c34 (p : PT) : p.cells.toArray[34]? = some (u32 p.a1) := by simp [PT.cells, p.hl]
theorem PT.ext' (p q : PT) (h1 : p.hash = q.hash) (h2 : p.birth = q.birth) (h3 : p.a0 = q.a0) (h4 : p.a1 = q.a1) : p = q := by
  cases p; cases q; simp_all
/-- The hole. -/
def PT.hole : PT := ⟨List.replicate 32 0, by simp, 0, 0, 0⟩
theorem u32_eq (a b : UInt32) : ((a.toNat : Int) == (b.toNat : Int)) = (a == b) := by
  by_cases h : a = b
  · subst h; simp
  · have : ¬ (a.toNat : Int) = (b.toNat : Int) := fun e => h (UInt32.toNat_inj.mp (by omega))
    rw [beq_eq_false_iff_ne.mpr this, beq_eq_false_iff_ne.mpr h]
theorem u8_eq (a b : UInt8) : ((a.toNat : Int) == (b.toNat : Int)) = (a == b) := by
  by_cases h : a = b
  · subst h; simp
  · have : ¬ (a.toNat : Int) = (b.toNat : Int) := fun e => h (UInt8.toNat_inj.mp (by omega))
    rw [beq_eq_false_iff_ne.mpr this, beq_eq_false_iff_ne.mpr h]

theorem sizeOf_ok {P : Program} {t : TypeId} {n : Nat} (h : (P.info? t).map (·.size) = some n) (w : World) : (sizeOf t).run P w = .ok n w := by
  cases hq : P.info? t with
  | none => simp [hq] at h
  | some i => simp [hq] at h; simp [sizeOf, typeInfo, hq, h]
theorem eqU8 : EqT Try.prog 5 1 false 1 (fun x : UInt8 => [cb x]) cb (fun x y => (x.toNat : Int) == (y.toNat : Int)) :=
  EqT.int 5 .u8 (by kernel_rfl) (sizeOf_ok (by kernel_rfl)) (fun x : UInt8 => (x.toNat : Int))
theorem eqU32 : EqT Try.prog 30 1 false 1 (fun x : UInt32 => [u32 x]) u32 (fun x y => (x.toNat : Int) == (y.toNat : Int)) :=
  EqT.int 30 .u32 (by kernel_rfl) (sizeOf_ok (by kernel_rfl)) (fun x : UInt32 => (x.toNat : Int))

theorem eqHash : EqT Try.prog 29 (32 * 1) true 2 (fun l : RowOf UInt8 32 => l.1.flatMap fun x => [cb x]) (fun l => .agg (l.1.flatMap fun x => [cb x]).toArray) (fun x y => (x.1.zip y.1).all fun p => (p.1.toNat : Int) == (p.2.toNat : Int)) :=
  eqU8.row (by kernel_rfl) (sizeOf_ok (by kernel_rfl))
theorem eqAt : EqT Try.prog 31 (2 * 1) true 2 (fun l : RowOf UInt32 2 => l.1.flatMap fun x => [u32 x]) (fun l => .agg (l.1.flatMap fun x => [u32 x]).toArray) (fun x y => (x.1.zip y.1).all fun p => (p.1.toNat : Int) == (p.2.toNat : Int)) :=
  eqU32.row (by kernel_rfl) (sizeOf_ok (by kernel_rfl))
theorem flatMap_one {α : Type} (f : α → Value) (l : List α) : (l.flatMap fun x => [f x]) = l.map f := by
  induction l with
  | nil => rfl
  | cons x l ih => simp [ih]
theorem zip_u8 : ∀ (xs ys : List UInt8), xs.length = ys.length → ((xs.zip ys).all fun p => (p.1.toNat : Int) == (p.2.toNat : Int)) = (xs == ys) := by
  intro xs ys h
  rw [← zip_all_eq xs ys h]
  congr 1
  funext p
  exact u8_eq _ _

theorem eqPT : EqT Try.prog 33 35 true 3 PT.cells PT.val (fun p q => p == q) where
  isAg w := by unfold isAgg; rw [Sem.run_bind, run_underlying (t := 33) Try.underlying33 w]; rfl
  size := sizeOf_ok (by kernel_rfl)
  len := PT.len
  vals p := rfl
  one h := by cases h
  eqs d w p q := by
    unfold PT.val
    rw [run_equalIn_struct w (d + 2) 33 _ _ (by kernel_rfl) (by kernel_rfl)]
    have hf : (Program.fieldsOf Try.prog 33).toList.map (fun f => (f.name, f.type, f.offset)) = [("Hash", 29, 0), ("Birth", 30, 32), ("At", 31, 33)] := by kernel_rfl
    rw [eqFields_eq, hf]
    have h3 := eqF_cons (P := Try.prog) "At" 31 33 [] eqAt (by decide) (d + 2) (by omega) p.cells q.cells ⟨[p.a0, p.a1], rfl⟩ ⟨[q.a0, q.a1], rfl⟩ (by rw [PT.drop33]; rfl) (by rw [PT.drop33]; rfl) (by rw [PT.len]; decide) (by rw [PT.len]; decide) w true (eqF_nil _ _ _ _)
    have h2 := eqF_cons (P := Try.prog) "Birth" 30 32 _ eqU32 (by decide) (d + 2) (by omega) p.cells q.cells p.birth q.birth (by rw [PT.drop32]; rfl) (by rw [PT.drop32]; rfl) (by rw [PT.len]; decide) (by rw [PT.len]; decide) w _ h3
    have h1 := eqF_cons (P := Try.prog) "Hash" 29 0 _ eqHash (by decide) (d + 2) (by omega) p.cells q.cells ⟨p.hash, p.hl⟩ ⟨q.hash, q.hl⟩ (by rw [List.drop_zero, flatMap_one]; exact PT.take32 p) (by rw [List.drop_zero, flatMap_one]; exact PT.take32 q) (by rw [PT.len]; decide) (by rw [PT.len]; decide) w _ h2
    rw [h1]
    congr 1
    simp only [zip_u8 p.hash q.hash (by rw [p.hl, q.hl]), u32_eq, List.zip_cons_cons, List.zip_nil_right, List.all_cons, List.all_nil, Bool.and_true]
    rw [Bool.eq_iff_iff]
    simp only [Bool.and_eq_true, beq_iff_eq]
    constructor
    · rintro ⟨h1, h2, h3, h4⟩; exact PT.ext' p q h1 h2 h3 h4
    · rintro rfl; exact ⟨rfl, rfl, rfl, rfl⟩
theorem ptr_eql (p q : PT) (w : World) : (binOp .eql 33 p.val q.val).run Try.prog w = .ok (.bool (p == q)) w := by
  unfold PT.val
  rw [run_eql_struct]
  have h := eqPT.eqs 9997 w p q
  unfold PT.val at h
  rw [h]; rfl

set_option maxRecDepth 100000 in
theorem May_any (p : PT) (w : World) : Calls Try.prog 16 #[p.val] w fun e w' => e = .returned (.bool p.may) ∧ Below w.heap.size w w' := by
  have h33 := p.c33
  have h34 := p.c34
  have hb : Below w.heap.size w (w.alloc (.cells p.cells.toArray 33)) := (Below.refl _ _).alloc (Nat.le_refl _) _
  unfold PT.val u32 at *
  generalize p.cells.toArray = C at h33 h34 hb
  have e0 := u32_eq p.a0 0
  have e1 := u32_eq p.a1 0
  have e2 : ((p.a0.toNat : Int) != (p.a1.toNat : Int)) = (p.a0 != p.a1) := by rw [bne, bne, u32_eq]
  simp only [UInt32.toNat_zero, Int.natCast_zero] at e0 e1
  by_cases h : p.a0 = 0
  · have hm : p.may = (p.a1 == 0) := by rw [PT.may, if_pos h]
    rw [hm]
    have h0 : ((p.a0.toNat : Int) == 0) = true := by rw [h]; rfl
    clear h hm e0
    go_enter Try.func16, Try.ntmps16
    go_wp2
    go_ret
    exact ⟨rfl, hb⟩
  · have hm : p.may = (p.a0 != p.a1) := by rw [PT.may, if_neg h]
    rw [hm]
    have h0 : ((p.a0.toNat : Int) == 0) = false := by
      have : ¬ (p.a0.toNat : Int) = 0 := fun e => h (UInt32.toNat_inj.mp (by simpa using e))
      simpa using this
    clear h hm e0
    go_enter Try.func16, Try.ntmps16
    go_wp2
    go_ret
    exact ⟨rfl, hb⟩
end Go.Proofs.Ythogefehainmdab
