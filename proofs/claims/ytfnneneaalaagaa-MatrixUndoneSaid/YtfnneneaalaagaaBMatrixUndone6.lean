/- Ground of the statement MatrixUndone, part 6: Law26b, RowMx. -/
import Derived.Test.YtfnneneaalaagaaBMatrixUndone5
namespace Go.Proofs.Ytfnneneaalaagaa
open Go.RowKit
set_option linter.unusedSimpArgs false
set_option linter.unusedVariables false

def i2C (p : Int × Int) : List Value := [.int .i64 p.1, .int .i64 p.2]
theorem i2C_one (m : Int × Int) : ∀ v ∈ i2C m, v.oneCell' = true := by
  intro v hv
  simp only [i2C, List.mem_cons, List.not_mem_nil, or_false] at hv
  rcases hv with rfl | rfl <;> rfl
def i2T : AT Try.prog (Int × Int) := ⟨34, i2C, 2, fun _ => rfl, i2C_one, _, Try.underlying34, rfl, by kernel_rfl, (0, 0), by kernel_rfl, by kernel_rfl⟩
set_option maxHeartbeats 3200000 in
set_option maxRecDepth 100000 in
theorem MatrixPick_any (r c : Int) (l : List UInt8) (A0 : Option Addr) (cp0 : Nat) (vr : Value) (rs : List Int) (k n : Int) (w : World) (hv : RB w (.slice A0 l.length cp0) l) (hcp : l.length ≤ cp0) (hvr : RI w vr rs) :
    Calls Try.prog 7 #[.agg (mxT.enc (r, c, A0, l.length, cp0)).toArray, vr, .agg (i2T.enc (k, n)).toArray] w fun e w' => e = .returned (.bool true) ∧ Below w.heap.size w w' := by
  have H0 := SH.start Nil w
  obtain ⟨r1, c1, l1, E1, P1, P2⟩ := Pick_pair l r c A0 cp0 vr rs hcp
  obtain ⟨r2, c2, l2, E2, U1, U2⟩ := Unit_pair k
  obtain ⟨r3, c3, l3, E3, C1, C2⟩ := Code_pair k n
  have cS : ∀ W, Calls Try.prog 19 #[.agg (mxT.enc (r, c, A0, l.length, cp0)).toArray] W fun e w' => e = .returned (.bool (smallB r c l.length)) ∧ Below W.heap.size W w' := fun W => small_any r c A0 l.length cp0 W
  have cL : ∀ W, Calls Try.prog 20 #[] W fun e w' => e = .returned (.bool true) ∧ Below W.heap.size W w' := alive26_any
  have cP : ∀ W, Calls Try.prog 23 #[.agg (mxT.enc (r, c, A0, l.length, cp0)).toArray] W fun e w' => e = .returned (.agg (rxT.enc (r, c, A0, l.length, cp0)).toArray) ∧ Below W.heap.size W w' := fun W => plain26_any r c A0 l.length cp0 W
  obtain ⟨Ar, cr, hvre, -⟩ := id hvr
  have HP1 := Lib.hid P1
  have HP2 := Lib.hid P2
  have HV := Lib.hid hv
  have HR := Lib.hid hvr
  clear P1 P2 hv hvr
  subst hvre
  generalize smallB r c l.length = sm at cS
  cases sm with
  | false =>
    go_enter Try.func7, Try.ntmps7
    go_wp2_with (first
      | ((with_reducible refine gBox ?_); refine wBox i2T (k, n) H1 _ rfl rfl rfl ?_; clear H1; intro w2 HH; have H2 := HH.drew; clear HH; have HS0 := H2.va 0 rfl)
      | ((with_reducible refine gBox ?_); refine wBox mxT (r, c, A0, l.length, cp0) H0 _ rfl rfl rfl ?_; clear H0; intro w1 H1))
    refine startS (fun w' => VA w' w1.heap.size 34 (i2C (k, n))) (by kernel_rfl) HS0 ?_
    refine takeS 0 HS0 rfl (by kernel_rfl) (by kernel_rfl) (by kernel_rfl) (fun _ _ _ h => h) rfl (v := ?_) ?_ ?_
    rotate_left
    · intro w' hw'; clear hw'; go_simp; (try with_reducible rfl)
    (try simp only [Act.put, List.setIfInBounds_toArray, List.set_cons_zero, List.set_cons_succ])
    refine takeS 1 HS0 rfl (by kernel_rfl) (by kernel_rfl) (by kernel_rfl) (fun _ _ _ h => h) rfl (v := ?_) ?_ ?_
    rotate_left
    · intro w' hw'; have k5 : w'.cell? ⟨w1.heap.size, 0, none⟩ = some (.int .i64 k) := VA.cell hw' 0; clear hw'; go_simp; (try with_reducible rfl)
    (try simp only [Act.put, List.setIfInBounds_toArray, List.set_cons_zero, List.set_cons_succ])
    refine takeS 2 HS0 rfl (by kernel_rfl) (by kernel_rfl) (by kernel_rfl) (fun _ _ _ h => h) rfl (v := ?_) ?_ ?_
    rotate_left
    · intro w' hw'; clear hw'; go_simp; (try with_reducible rfl)
    (try simp only [Act.put, List.setIfInBounds_toArray, List.set_cons_zero, List.set_cons_succ])
    refine takeS 3 HS0 rfl (by kernel_rfl) (by kernel_rfl) (by kernel_rfl) (fun _ _ _ h => h) rfl (v := ?_) ?_ ?_
    rotate_left
    · intro w' hw'; have k5 : w'.cell? ⟨w1.heap.size, 1, none⟩ = some (.int .i64 n) := VA.cell hw' 1; clear hw'; go_simp; (try with_reducible rfl)
    (try simp only [Act.put, List.setIfInBounds_toArray, List.set_cons_zero, List.set_cons_succ])
    refine takeS 4 HS0 rfl (by kernel_rfl) (by kernel_rfl) (by kernel_rfl) (fun _ _ _ h => h) rfl (v := ?_) ?_ ?_
    rotate_left
    · intro w' hw'; clear hw'; go_simp; (try with_reducible rfl)
    (try simp only [Act.put, List.setIfInBounds_toArray, List.set_cons_zero, List.set_cons_succ])
    refine takeS 5 HS0 rfl (by kernel_rfl) (by kernel_rfl) (by kernel_rfl) (fun _ _ _ h => h) rfl (v := ?_) ?_ ?_
    rotate_left
    · intro w' hw'; clear hw'; go_simp; (try with_reducible rfl)
    (try simp only [Act.put, List.setIfInBounds_toArray, List.set_cons_zero, List.set_cons_succ])
    refine doneS (by kernel_rfl) ?_
    clear HS0
    go_wp2_with (first
      | ((with_reducible refine gLoad ?_); refine wLoad mxT (r, c, A0, l.length, cp0) H2 1 rfl rfl _ rfl rfl rfl ?_)
      | (go_at_call 19; (with_reducible refine (cS _).mono ?_); rintro e w3 ⟨rfl, hb⟩; have H3 := H2.step hb; clear H2 hb)
      | (go_at_call 20; (with_reducible refine (cL _).mono ?_); rintro e w4 ⟨rfl, hb⟩; have H4 := H3.step hb; clear H3 hb))
    go_ret
    exact ⟨rfl, H4.below⟩
  | true =>
    by_cases h40 : 40 < (rs.length : Int)
    · have d40 : decide ((40 : Int) < (rs.length : Int)) = true := by simpa using h40
      go_enter Try.func7, Try.ntmps7
      go_wp2_with (first
        | ((with_reducible refine gBox ?_); refine wBox i2T (k, n) H1 _ rfl rfl rfl ?_; clear H1; intro w2 HH; have H2 := HH.drew; clear HH; have HS0 := H2.va 0 rfl)
        | ((with_reducible refine gBox ?_); refine wBox mxT (r, c, A0, l.length, cp0) H0 _ rfl rfl rfl ?_; clear H0; intro w1 H1))
      refine startS (fun w' => VA w' w1.heap.size 34 (i2C (k, n))) (by kernel_rfl) HS0 ?_
      refine takeS 0 HS0 rfl (by kernel_rfl) (by kernel_rfl) (by kernel_rfl) (fun _ _ _ h => h) rfl (v := ?_) ?_ ?_
      rotate_left
      · intro w' hw'; clear hw'; go_simp; (try with_reducible rfl)
      (try simp only [Act.put, List.setIfInBounds_toArray, List.set_cons_zero, List.set_cons_succ])
      refine takeS 1 HS0 rfl (by kernel_rfl) (by kernel_rfl) (by kernel_rfl) (fun _ _ _ h => h) rfl (v := ?_) ?_ ?_
      rotate_left
      · intro w' hw'; have k5 : w'.cell? ⟨w1.heap.size, 0, none⟩ = some (.int .i64 k) := VA.cell hw' 0; clear hw'; go_simp; (try with_reducible rfl)
      (try simp only [Act.put, List.setIfInBounds_toArray, List.set_cons_zero, List.set_cons_succ])
      refine takeS 2 HS0 rfl (by kernel_rfl) (by kernel_rfl) (by kernel_rfl) (fun _ _ _ h => h) rfl (v := ?_) ?_ ?_
      rotate_left
      · intro w' hw'; clear hw'; go_simp; (try with_reducible rfl)
      (try simp only [Act.put, List.setIfInBounds_toArray, List.set_cons_zero, List.set_cons_succ])
      refine takeS 3 HS0 rfl (by kernel_rfl) (by kernel_rfl) (by kernel_rfl) (fun _ _ _ h => h) rfl (v := ?_) ?_ ?_
      rotate_left
      · intro w' hw'; have k5 : w'.cell? ⟨w1.heap.size, 1, none⟩ = some (.int .i64 n) := VA.cell hw' 1; clear hw'; go_simp; (try with_reducible rfl)
      (try simp only [Act.put, List.setIfInBounds_toArray, List.set_cons_zero, List.set_cons_succ])
      refine takeS 4 HS0 rfl (by kernel_rfl) (by kernel_rfl) (by kernel_rfl) (fun _ _ _ h => h) rfl (v := ?_) ?_ ?_
      rotate_left
      · intro w' hw'; clear hw'; go_simp; (try with_reducible rfl)
      (try simp only [Act.put, List.setIfInBounds_toArray, List.set_cons_zero, List.set_cons_succ])
      refine takeS 5 HS0 rfl (by kernel_rfl) (by kernel_rfl) (by kernel_rfl) (fun _ _ _ h => h) rfl (v := ?_) ?_ ?_
      rotate_left
      · intro w' hw'; clear hw'; go_simp; (try with_reducible rfl)
      (try simp only [Act.put, List.setIfInBounds_toArray, List.set_cons_zero, List.set_cons_succ])
      refine doneS (by kernel_rfl) ?_
      clear HS0
      go_wp2_with (first
        | ((with_reducible refine gLoad ?_); refine wLoad mxT (r, c, A0, l.length, cp0) H2 1 rfl rfl _ rfl rfl rfl ?_)
        | (go_at_call 19; (with_reducible refine (cS _).mono ?_); rintro e w3 ⟨rfl, hb⟩; have H3 := H2.step hb; clear H2 hb)
        | (go_at_call 20; (with_reducible refine (cL _).mono ?_); rintro e w4 ⟨rfl, hb⟩; have H4 := H3.step hb; clear H3 hb))
      go_ret
      exact ⟨rfl, H4.below⟩
    · have d40 : decide ((40 : Int) < (rs.length : Int)) = false := by simpa using h40
      go_enter Try.func7, Try.ntmps7
      go_wp2_with (first
        | ((with_reducible refine gBox ?_); refine wBox i2T (k, n) H1 _ rfl rfl rfl ?_; clear H1; intro w2 HH; have H2 := HH.drew; clear HH; have HS0 := H2.va 0 rfl)
        | ((with_reducible refine gBox ?_); refine wBox mxT (r, c, A0, l.length, cp0) H0 _ rfl rfl rfl ?_; clear H0; intro w1 H1))
      refine startS (fun w' => VA w' w1.heap.size 34 (i2C (k, n))) (by kernel_rfl) HS0 ?_
      refine takeS 0 HS0 rfl (by kernel_rfl) (by kernel_rfl) (by kernel_rfl) (fun _ _ _ h => h) rfl (v := ?_) ?_ ?_
      rotate_left
      · intro w' hw'; clear hw'; go_simp; (try with_reducible rfl)
      (try simp only [Act.put, List.setIfInBounds_toArray, List.set_cons_zero, List.set_cons_succ])
      refine takeS 1 HS0 rfl (by kernel_rfl) (by kernel_rfl) (by kernel_rfl) (fun _ _ _ h => h) rfl (v := ?_) ?_ ?_
      rotate_left
      · intro w' hw'; have k5 : w'.cell? ⟨w1.heap.size, 0, none⟩ = some (.int .i64 k) := VA.cell hw' 0; clear hw'; go_simp; (try with_reducible rfl)
      (try simp only [Act.put, List.setIfInBounds_toArray, List.set_cons_zero, List.set_cons_succ])
      refine takeS 2 HS0 rfl (by kernel_rfl) (by kernel_rfl) (by kernel_rfl) (fun _ _ _ h => h) rfl (v := ?_) ?_ ?_
      rotate_left
      · intro w' hw'; clear hw'; go_simp; (try with_reducible rfl)
      (try simp only [Act.put, List.setIfInBounds_toArray, List.set_cons_zero, List.set_cons_succ])
      refine takeS 3 HS0 rfl (by kernel_rfl) (by kernel_rfl) (by kernel_rfl) (fun _ _ _ h => h) rfl (v := ?_) ?_ ?_
      rotate_left
      · intro w' hw'; have k5 : w'.cell? ⟨w1.heap.size, 1, none⟩ = some (.int .i64 n) := VA.cell hw' 1; clear hw'; go_simp; (try with_reducible rfl)
      (try simp only [Act.put, List.setIfInBounds_toArray, List.set_cons_zero, List.set_cons_succ])
      refine takeS 4 HS0 rfl (by kernel_rfl) (by kernel_rfl) (by kernel_rfl) (fun _ _ _ h => h) rfl (v := ?_) ?_ ?_
      rotate_left
      · intro w' hw'; clear hw'; go_simp; (try with_reducible rfl)
      (try simp only [Act.put, List.setIfInBounds_toArray, List.set_cons_zero, List.set_cons_succ])
      refine takeS 5 HS0 rfl (by kernel_rfl) (by kernel_rfl) (by kernel_rfl) (fun _ _ _ h => h) rfl (v := ?_) ?_ ?_
      rotate_left
      · intro w' hw'; clear hw'; go_simp; (try with_reducible rfl)
      (try simp only [Act.put, List.setIfInBounds_toArray, List.set_cons_zero, List.set_cons_succ])
      refine doneS (by kernel_rfl) ?_
      clear HS0
      go_wp2_with (first
        | ((with_reducible refine gAlloc ?_); refine wVar mxT (r1, c1, A1, l1.length, cp1) H4 rfl 9 _ rfl rfl rfl rfl rfl ?_; clear H4; intro w5 H5)
        | ((with_reducible refine gAlloc ?_); refine wVar rxT (r1, c1, A2, l1.length, cp2) H7 rfl 11 _ rfl rfl rfl rfl rfl ?_; clear H7; intro w8 H8)
        | ((with_reducible refine gAlloc ?_); refine wVar mxT (r2, c2, A3, l2.length, cp3) H9 rfl 13 _ rfl rfl rfl rfl rfl ?_; clear H9; intro w10 H10)
        | ((with_reducible refine gAlloc ?_); refine wVar rxT (r2, c2, A4, l2.length, cp4) H11 rfl 15 _ rfl rfl rfl rfl rfl ?_; clear H11; intro w12 H12)
        | ((with_reducible refine gAlloc ?_); refine wVar mxT (r3, c3, A5, l3.length, cp5) H13 rfl 17 _ rfl rfl rfl rfl rfl ?_; clear H13; intro w14 H14)
        | ((with_reducible refine gAlloc ?_); refine wVar rxT (r3, c3, A6, l3.length, cp6) H15 rfl 19 _ rfl rfl rfl rfl rfl ?_; clear H15; intro w16 H16)
        | ((with_reducible refine gLoad ?_); refine wLoad mxT (r, c, A0, l.length, cp0) H2 1 rfl rfl _ rfl rfl rfl ?_)
        | ((with_reducible refine gLoad ?_); refine wLoad mxT (r, c, A0, l.length, cp0) H3 1 rfl rfl _ rfl rfl rfl ?_)
        | ((with_reducible refine gLoad ?_); refine wLoad mxT (r, c, A0, l.length, cp0) H5 3 rfl rfl _ rfl rfl rfl ?_)
        | (go_at_call 19; (with_reducible refine (cS _).mono ?_); rintro e w3 ⟨rfl, hb⟩; have H3 := H2.step hb; clear H2 hb)
        | (go_at_call 21; (with_reducible refine (HP1.out _ (HV.out.below H3.below) (HR.out.below H3.below)).mono ?_); rintro e w4 ⟨A1, cp1, rfl, ho, hb⟩; have H4 := H3.pushRow hb ho; clear H3 ho hb)
        | (go_at_call 23; (with_reducible refine (cP _).mono ?_); rintro e w6 ⟨rfl, hb⟩; have H6 := H5.step hb; clear H5 hb)
        | (go_at_call 22; (with_reducible refine (HP2.out _ (HV.out.below H6.below) (HR.out.below H6.below)).mono ?_); rintro e w7 ⟨A2, cp2, rfl, ho, hb⟩; have H7 := H6.pushRow hb ho; clear H6 ho hb)
        | (go_at_call 24; (with_reducible refine (U1 _).mono ?_); rintro e w9 ⟨A3, cp3, rfl, ho, hb⟩; have H9 := H8.pushRow hb ho; clear H8 ho hb)
        | (go_at_call 25; (with_reducible refine (U2 _).mono ?_); rintro e w11 ⟨A4, cp4, rfl, ho, hb⟩; have H11 := H10.pushRow hb ho; clear H10 ho hb)
        | (go_at_call 26; (with_reducible refine (C1 _).mono ?_); rintro e w13 ⟨A5, cp5, rfl, ho, hb⟩; have H13 := H12.pushRow hb ho; clear H12 ho hb)
        | (go_at_call 27; (with_reducible refine (C2 _).mono ?_); rintro e w15 ⟨A6, cp6, rfl, ho, hb⟩; have H15 := H14.pushRow hb ho; clear H14 ho hb)
        | (go_at_call 20; (with_reducible refine (cL _).mono ?_); rintro e w17 ⟨rfl, hb⟩; have H17 := H16.step hb; clear H16 hb)
        | ((with_reducible refine gLoad ?_); refine wLoad mxT (r1, c1, A1, l1.length, cp1) H17 10 rfl rfl _ rfl rfl rfl ?_)
        | ((with_reducible refine gLoad ?_); refine wLoad rxT (r1, c1, A2, l1.length, cp2) H17 8 rfl rfl _ rfl rfl rfl ?_)
        | ((with_reducible refine gLoad ?_); refine wLoad mxT (r2, c2, A3, l2.length, cp3) H18 6 rfl rfl _ rfl rfl rfl ?_)
        | ((with_reducible refine gLoad ?_); refine wLoad rxT (r2, c2, A4, l2.length, cp4) H18 4 rfl rfl _ rfl rfl rfl ?_)
        | ((with_reducible refine gLoad ?_); refine wLoad mxT (r3, c3, A5, l3.length, cp5) H19 2 rfl rfl _ rfl rfl rfl ?_)
        | ((with_reducible refine gLoad ?_); refine wLoad rxT (r3, c3, A6, l3.length, cp6) H19 0 rfl rfl _ rfl rfl rfl ?_)
        | (go_at_call 28; (with_reducible refine (same_true r1 c1 A1 A2 _ _ cp1 cp2 l1 _ (H17.rr 11 rfl) (H17.rr 9 rfl)).mono ?_); rintro e w18 ⟨rfl, hb⟩; have H18 := H17.step hb; clear H17 hb)
        | (go_at_call 28; (with_reducible refine (same_true r2 c2 A3 A4 _ _ cp3 cp4 l2 _ (H18.rr 7 rfl) (H18.rr 5 rfl)).mono ?_); rintro e w19 ⟨rfl, hb⟩; have H19 := H18.step hb; clear H18 hb)
        | (go_at_call 28; (with_reducible refine (same_true r3 c3 A5 A6 _ _ cp5 cp6 l3 _ (H19.rr 3 rfl) (H19.rr 1 rfl)).mono ?_); rintro e w20 ⟨rfl, hb⟩; have H20 := H19.step hb; clear H19 hb))
      go_ret
      exact ⟨rfl, H20.below⟩
end Go.Proofs.Ytfnneneaalaagaa

namespace Go.Proofs.Ytfnneneaalaagaa
open Go.RowKit Go.ChangeShapes Go.WideShapes

theorem open_ints8 {H : Type} {enc : TypeId × Value → H} {P : Program} {W : World} {base : Nat} {spare : Nat → Bool} {held : Bool} {t e : TypeId} {cs : List Value} {x : DataW H × List MemPlace} {fuel : Nat}
    (hu : P.underlying t = some (.slice e)) (he : P.underlying e = some (.int .u8)) (hc : P.cellsOf e = 1)
    (h : DataW.trod enc P W base spare held fuel t cs = some x) : ∃ (A : Option Addr) (xs : List UInt8) (cap : Nat), cs = [.slice A xs.length cap] ∧ RR (U8 e) W (.slice A xs.length cap) xs ∧ xs.length ≤ cap := by
  have hcs : ∃ a len cap, cs = [.slice a len cap] := by
    rcases open_ints hu he hc h with ⟨h1, _⟩ | ⟨x, l, c, zs, h1, _⟩
    · exact ⟨_, _, _, h1⟩
    · exact ⟨_, _, _, h1⟩
  obtain ⟨a, len, cap, rfl⟩ := hcs
  obtain ⟨d, ps⟩ := x
  obtain ⟨xs, hx⟩ := open_bytes (a := a) (len := len) (cap := cap) (d := d) (ps := ps) hu he hc ⟨fuel, by simpa [Value.cells] using h⟩
  obtain ⟨A', c', e', h1, h2⟩ := id hx
  injection e' with e1 e2 e3
  subst e2
  subst e3
  exact ⟨a, xs, cap, rfl, hx, h1⟩
theorem open_i64s {H : Type} {enc : TypeId × Value → H} {P : Program} {W : World} {base : Nat} {spare : Nat → Bool} {held : Bool} {t e : TypeId} {a : Option Addr} {len cap : Nat} {d : DataW H} {ps : List MemPlace}
    (hu : P.underlying t = some (.slice e)) (he : P.underlying e = some (.int .i64)) (hc : P.cellsOf e = 1)
    (h : DataW.Trod enc P W base spare held t (.slice a len cap) d ps) : ∃ xs : List Int, RI W (.slice a len cap) xs := by
  obtain ⟨fuel, hf⟩ := h
  rcases open_ints hu he hc hf with ⟨hcs, _⟩ | ⟨x, l, c, zs, hcs, _, hl, hm, hz, _, hcell, hwz⟩
  · simp [Value.cells] at hcs
    obtain ⟨rfl, rfl, rfl⟩ := hcs
    exact ⟨[], RR.nil W⟩
  · simp [Value.cells] at hcs
    obtain ⟨rfl, rfl, rfl⟩ := hcs
    have hlz : len ≤ zs.length := by
      rw [hz]
      split
      · exact hl
      · exact Nat.le_refl _
    have hz2 : (zs.take len).length = len := by simp; omega
    refine ⟨zs.take len, some x, cap, by rw [hz2], by omega, by simp only [maxLen] at hm; omega, fun _ => ⟨x, rfl, fun j u hj => ?_⟩⟩
    have hall : ∀ ys : List Int, I64T.all ys = ys.map fun n => .int .i64 n := fun ys => by
      induction ys with
      | nil => rfl
      | cons y ys ih => rw [Ty.all_cons, ih]; rfl
    rw [hall] at hj
    have hjl : j < len := by have := (List.getElem?_eq_some_iff.1 hj).1; simp at this; omega
    rw [hcell j (by omega), ← hj]
    simp [List.getElem?_map, List.getElem?_take, hjl, List.getElem?_eq_getElem (show j < zs.length by omega), List.getD_eq_getElem?_getD]
theorem open_mx {H : Type} {enc : TypeId × Value → H} {W : World} {base : Nat} {spare : Nat → Bool} {held : Bool} {v : Value} {d : DataW H} {ps : List MemPlace} {r : Reach} {b2 : Nat} {W2 : World}
    (h : DataW.Trod enc Try.prog W base spare held 32 v d ps) (hv : Value.okWide Try.prog W2 r b2 32 v) : ∃ (x y : Int) (A : Option Addr) (l : List UInt8) (cp : Nat), v = .agg (mxT.enc (x, y, A, l.length, cp)).toArray ∧ RB W (.slice A l.length cp) l ∧ l.length ≤ cp := by
  obtain ⟨cs, rfl, _⟩ := okWide_struct Try.underlying32 hv
  obtain ⟨fuel, hf⟩ := h
  cases fuel with
  | zero => simp [DataW.trod] at hf
  | succ fuel =>
    have hc3 : Try.prog.cellsOf 32 = 3 := by kernel_rfl
    have hc1 : Try.prog.cellsOf 3 = 1 := by kernel_rfl
    have hcs : Try.prog.cellsOf 22 = 1 := by kernel_rfl
    have hcu : Try.prog.cellsOf 5 = 1 := by kernel_rfl
    obtain ⟨hl, hff⟩ := trod_fields Try.underlying32 hf
    rw [hc3] at hl
    simp only [List.mem_cons, List.not_mem_nil, or_false, forall_eq_or_imp, forall_eq] at hff
    obtain ⟨⟨y0, h0⟩, ⟨y1, h1⟩, ⟨y2, h2⟩⟩ := hff
    rw [hc1] at h0 h1
    rw [hcs] at h2
    obtain ⟨n0, e0, _⟩ := trod_leaf Try.underlying3 h0
    obtain ⟨n1, e1, _⟩ := trod_leaf Try.underlying3 h1
    obtain ⟨A, xs, cap, e2, hx, hcap⟩ := open_ints8 Try.underlying22 Try.underlying5 hcu h2
    have g0 := take_one e0
    have g1 := take_one e1
    have g2 := take_one e2
    refine ⟨n0, n1, A, xs, cap, ?_, hx, hcap⟩
    have hcells : (Value.agg cs).cells = cs := by simp [Value.cells]
    rw [hcells] at g0 g1 g2 hl
    rcases cs with ⟨cl⟩
    simp only at g0 g1 g2 hl
    rcases cl with _ | ⟨a, _ | ⟨b, _ | ⟨c, _ | ⟨d, t⟩⟩⟩⟩ <;> simp at hl g0 g1 g2
    subst g0 g1 g2
    rfl
set_option maxRecDepth 100000 in
theorem open_i2 {H : Type} {enc : TypeId × Value → H} {W : World} {base : Nat} {spare : Nat → Bool} {held : Bool} {v : Value} {d : DataW H} {ps : List MemPlace} {r : Reach} {b2 : Nat} {W2 : World}
    (h : DataW.Trod enc Try.prog W base spare held 34 v d ps) (hv : Value.okWide Try.prog W2 r b2 34 v) : ∃ x y : Int, v = .agg (i2T.enc (x, y)).toArray := by
  have hw : ∃ cs, v = .agg cs := by
    simp only [Value.okWide, Try.underlying34] at hv
    obtain ⟨cs, h1, _⟩ := hv
    exact ⟨cs, h1⟩
  obtain ⟨cs, rfl⟩ := hw
  obtain ⟨fuel, hf⟩ := h
  cases fuel with
  | zero => simp [DataW.trod] at hf
  | succ fuel =>
    have hc : Try.prog.cellsOf 34 = 2 := by kernel_rfl
    have hc1 : Try.prog.cellsOf 3 = 1 := by kernel_rfl
    obtain ⟨hl, ha⟩ := trod_array Try.underlying34 hf
    rw [hc] at hl
    obtain ⟨y0, h0⟩ := ha 0 (by omega)
    obtain ⟨y1, h1⟩ := ha 1 (by omega)
    rw [hc1] at h0 h1
    obtain ⟨n0, e0, _⟩ := trod_leaf Try.underlying3 h0
    obtain ⟨n1, e1, _⟩ := trod_leaf Try.underlying3 h1
    have g0 := take_one e0
    have g1 := take_one e1
    refine ⟨n0, n1, ?_⟩
    have hcells : (Value.agg cs).cells = cs := by simp [Value.cells]
    rw [hcells] at g0 g1 hl
    rcases cs with ⟨cl⟩
    simp only at g0 g1 hl
    rcases cl with _ | ⟨a, _ | ⟨b, _ | ⟨c, t⟩⟩⟩ <;> simp at hl g0 g1
    subst g0 g1
    rfl
end Go.Proofs.Ytfnneneaalaagaa
