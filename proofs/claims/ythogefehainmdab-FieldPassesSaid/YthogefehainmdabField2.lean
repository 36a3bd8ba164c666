/- The package field: polynomials, sums of products, places. -/
import Derived.Test.YthogefehainmdabField
import Derived.Test.YthogefehainmdabFieldPoly
import Derived.StillTailTactics
namespace Go.Proofs.Ythogefehainmdab
open Go.RowKit

set_option maxHeartbeats 800000 in
set_option maxRecDepth 100000 in
theorem FEval_any (v : Value) (ps : List UInt8) (x : UInt8) (w : World) (hv : RB w v ps) (hl : ps.length ≤ 1000000000) :
    Calls Try.prog 8 #[v, .int .u8 (x.toNat : Int)] w fun e w' => e = .returned (.int .u8 ((evalH x ps).toNat : Int)) ∧ Below w.heap.size w w' := by
  obtain ⟨A, c, rfl, hc⟩ := hv.len
  have hw0 : IntKind.i64.wrap ((ps.length : Int) - 1) = (ps.length : Int) - 1 := by rw [IntKind.wrap_i64]; omega
  go_enter Try.func8, Try.ntmps8
  go_wp2
  go_loopw [5, 6] (fun v5 v6 wr => ∃ (k : Nat) (o : UInt8), v6 = .int .i64 ((k : Int) - 1) ∧ k ≤ ps.length ∧ v5 = .int .u8 (o.toNat : Int) ∧ o = evalH x (ps.drop k) ∧ Below w.heap.size w wr) (fun _ i _ => (intOf i + 1).toNat)
  case atStart => exact ⟨ps.length, 0, rfl, Nat.le_refl _, rfl, by simp [evalH], Below.refl _ _⟩
  case round =>
    obtain ⟨k, o, rfl, hk, rfl, ho, hb⟩ := hrel
    by_cases h0 : k = 0
    · subst h0
      rw [List.drop_zero] at ho
      have HO := Lib.hid ho
      clear ho
      go_wp2
      go_ret
      rw [← HO.out]
      exact ⟨rfl, hb⟩
    · have h0' : (0 : Int) ≤ (k : Int) - 1 := by omega
      obtain ⟨k, rfl⟩ : ∃ j, k = j + 1 := ⟨k - 1, by omega⟩
      have hkl : k < ps.length := by omega
      obtain ⟨ad, rfl, hcc⟩ := (hv.below hb).at_ k hkl
      have hcx := hcc 0 (cb ps[k]) (by simp [U8])
      simp only [show B8.sz = 1 from rfl, Nat.mul_one, Nat.add_zero] at hcx
      have hd : evalH x (ps.drop k) = fmul o x ^^^ ps[k] := by rw [List.drop_eq_getElem_cons hkl, evalH, ho]
      generalize ps[k] = pk at hcx hd
      have hx := xor8 (fmul o x) pk
      obtain ⟨r, hr⟩ : ∃ r, r = fmul o x ^^^ pk := ⟨_, rfl⟩
      rw [← hr] at hx hd
      have HD := Lib.hid hd
      have e1 : ((k + 1 : Nat) : Int) - 1 = (k : Int) := by omega
      have e2 : IntKind.i64.wrap ((k : Int) - 1) = (k : Int) - 1 := by rw [IntKind.wrap_i64]; omega
      rw [e1]
      have hki : (k : Int) < (ps.length : Int) := by omega
      clear hr hd ho hcc e1 h0' h0
      go_wp2_with fail
      (refine wp_region_still_lit (by kernel_rfl) (by kernel_rfl) ?_; (repeat (first | still_step | still_call (FMul_any _ _ _))); refine wpStill_nil ?_)
      go_wp2
      go_roundw
      case rel => exact ⟨k, r, by go_num, by omega, by go_num, HD.out.symm, hb.drew⟩
      case measure => simp [intOf] <;> omega

end Go.Proofs.Ythogefehainmdab
