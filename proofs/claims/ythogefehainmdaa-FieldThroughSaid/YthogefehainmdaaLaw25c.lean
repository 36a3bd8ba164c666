/- The laws of layer 25: lists, places. -/
import Derived.Test.YthogefehainmdaaRefF3
import Derived.Test.YthogefehainmdaaLaw25a
namespace Go.Proofs.Ythogefehainmdaa
open Go.RowKit

set_option maxHeartbeats 1600000 in
set_option maxRecDepth 100000 in
theorem FieldLists_any (va vb : Value) (xs ys : List UInt8) (x : UInt8) (w : World) (ha : RB w va xs) (hb : RB w vb ys) : Calls Try.prog 7 #[va, vb, .int .u8 (x.toNat : Int)] w fun e w' => e = .returned (.bool true) ∧ Below w.heap.size w w' := by
  obtain ⟨A, c, rfl, hc⟩ := id ha.len
  obtain ⟨A2, c2, rfl, hc2⟩ := id hb.len
  by_cases h1 : 20 < xs.length
  · have h1' : decide ((20 : Int) < (xs.length : Int)) = true := decide_eq_true (by omega)
    have h1c : (20 : Int) < (xs.length : Int) := by omega
    go_enter Try.func7, Try.ntmps7
    go_wp2_with (first | (go_at_call 17; (with_reducible refine (alive25_any _).mono ?_); rintro e w3 ⟨rfl, rfl⟩))
    go_ret
    exact ⟨rfl, Below.refl _ _⟩
  have h1' : decide ((20 : Int) < (xs.length : Int)) = false := decide_eq_false (by omega)
  have h1c : (xs.length : Int) ≤ 20 := by omega
  by_cases h2 : 20 < ys.length
  · have h2' : decide ((20 : Int) < (ys.length : Int)) = true := decide_eq_true (by omega)
    have h2c : (20 : Int) < (ys.length : Int) := by omega
    go_enter Try.func7, Try.ntmps7
    go_wp2_with (first | (go_at_call 17; (with_reducible refine (alive25_any _).mono ?_); rintro e w3 ⟨rfl, rfl⟩))
    go_ret
    exact ⟨rfl, Below.refl _ _⟩
  have h2' : decide ((20 : Int) < (ys.length : Int)) = false := decide_eq_false (by omega)
  have h2c : (ys.length : Int) ≤ 20 := by omega
  have c1 := fun W (h : Below w.heap.size w W) => FDot_any _ _ xs ys W (ha.below h) (hb.below h) (by omega)
  have c2 := fun W (h : Below w.heap.size w W) => RDot_any _ _ xs ys W (ha.below h) (hb.below h) (by omega)
  have c3 := fun W (h : Below w.heap.size w W) => FEval_any _ xs x W (ha.below h) (by omega)
  have c4 := fun W (h : Below w.heap.size w W) => REval_any _ xs x W (ha.below h) (by omega)
  generalize dotV xs ys = d1 at c1 c2
  generalize dotE xs ys = d2 at c1 c2
  generalize evalH x xs = d3 at c3 c4
  have C1 := Lib.hid c1
  have C2 := Lib.hid c2
  have C3 := Lib.hid c3
  have C4 := Lib.hid c4
  have hb0 := Below.refl w.heap.size w
  clear c1 c2 c3 c4
  go_enter Try.func7, Try.ntmps7
  go_wp2_with (first
    | (go_at_call 17; (with_reducible refine (alive25_any _).mono ?_); rintro e w3 ⟨rfl, rfl⟩)
    | (go_at_call 31; (with_reducible refine (C1.out _ hb0).mono ?_); rintro e w1 ⟨rfl, hb1⟩; replace hb0 := below_two hb0 hb0.size hb1)
    | (go_at_call 32; (with_reducible refine (C2.out _ hb0).mono ?_); rintro e w1 ⟨rfl, hb1⟩; replace hb0 := below_two hb0 hb0.size hb1)
    | (go_at_call 33; (with_reducible refine (C3.out _ hb0).mono ?_); rintro e w1 ⟨rfl, hb1⟩; replace hb0 := below_two hb0 hb0.size hb1)
    | (go_at_call 34; (with_reducible refine (C4.out _ hb0).mono ?_); rintro e w1 ⟨rfl, hb1⟩; replace hb0 := below_two hb0 hb0.size hb1))
  go_ret
  exact ⟨rfl, hb0⟩

set_option maxHeartbeats 1600000 in
set_option maxRecDepth 100000 in
theorem FieldThrough_any (va vb : Value) (xs ys : List UInt8) (x : UInt8) (w : World) (ha : RB w va xs) (hb : RB w vb ys) : Calls Try.prog 13 #[va, vb, .int .u8 (x.toNat : Int)] w fun e w' => e = .returned (.bool true) ∧ Below w.heap.size w w' := by
  obtain ⟨A, c, rfl, hc⟩ := id ha.len
  obtain ⟨A2, c2, rfl, hc2⟩ := id hb.len
  by_cases h1 : 12 < xs.length
  · have h1' : decide ((12 : Int) < (xs.length : Int)) = true := decide_eq_true (by omega)
    have h1c : (12 : Int) < (xs.length : Int) := by omega
    go_enter Try.func13, Try.ntmps13
    go_wp2_with (first | (go_at_call 17; (with_reducible refine (alive25_any _).mono ?_); rintro e w3 ⟨rfl, rfl⟩))
    go_ret
    exact ⟨rfl, Below.refl _ _⟩
  have h1' : decide ((12 : Int) < (xs.length : Int)) = false := decide_eq_false (by omega)
  have h1c : (xs.length : Int) ≤ 12 := by omega
  by_cases h2 : 12 < ys.length
  · have h2' : decide ((12 : Int) < (ys.length : Int)) = true := decide_eq_true (by omega)
    have h2c : (12 : Int) < (ys.length : Int) := by omega
    go_enter Try.func13, Try.ntmps13
    go_wp2_with (first | (go_at_call 17; (with_reducible refine (alive25_any _).mono ?_); rintro e w3 ⟨rfl, rfl⟩))
    go_ret
    exact ⟨rfl, Below.refl _ _⟩
  have h2' : decide ((12 : Int) < (ys.length : Int)) = false := decide_eq_false (by omega)
  have h2c : (ys.length : Int) ≤ 12 := by omega
  have c1 := fun W (h : Below w.heap.size w W) => FThrough_any _ _ xs ys x W (ha.below h) (hb.below h) (by omega) (by omega)
  have c2 := fun W (h : Below w.heap.size w W) => RThrough_any _ _ xs ys x W (ha.below h) (hb.below h) (by omega) (by omega)
  generalize thV xs ys x = d1 at c1 c2
  generalize thE xs ys = d2 at c1 c2
  have C1 := Lib.hid c1
  have C2 := Lib.hid c2
  have hb0 := Below.refl w.heap.size w
  clear c1 c2
  go_enter Try.func13, Try.ntmps13
  go_wp2_with (first
    | (go_at_call 17; (with_reducible refine (alive25_any _).mono ?_); rintro e w3 ⟨rfl, rfl⟩)
    | (go_at_call 56; (with_reducible refine (C1.out _ hb0).mono ?_); rintro e w1 ⟨rfl, hb1⟩; replace hb0 := below_two hb0 hb0.size hb1)
    | (go_at_call 57; (with_reducible refine (C2.out _ hb0).mono ?_); rintro e w1 ⟨rfl, hb1⟩; replace hb0 := below_two hb0 hb0.size hb1))
  go_ret
  exact ⟨rfl, hb0⟩
end Go.Proofs.Ythogefehainmdaa
