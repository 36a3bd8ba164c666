/- The reference's Node; IsEmpty of both. -/
import Derived.Test.YthogefehainmdabPtr6
namespace Go.Proofs.Ythogefehainmdab
open Go.RowKit
set_option linter.unusedSimpArgs false

def lenV : Value → Nat
  | .slice _ n _ => n
  | _ => 0
theorem PL.range {w : World} {b : Nat} {t : TypeId} {l : PL} (h : VA w b t l.cells) (k : Nat) (hk : k < l.1.length) : w.rangeAt b (k * 35) l.1[k].cells :=
  h.range (k * 35) _ (by rw [PT.len]; exact flatMap_at PT.len l.1 k hk)

set_option maxHeartbeats 1600000 in
set_option maxRecDepth 100000 in
theorem rNode_any (l : PL) (w : World) : Calls Try.prog 26 #[l.val] w fun e w' => ∃ v, e = .returned v ∧ OB w' w.heap.size v (nodeL l) ∧ Below w.heap.size w w' := by
  unfold PL.val
  go_enter Try.func26, Try.ntmps26
  go_wp2_with (first
    | (refine wpBox 36 _ rfl l.cells rfl rfl ?_; intro w1 hv1 hb1))
  have hlt := hv1.lt
  have hb0 : Below w1.heap.size w1 (w1.alloc (.cells #[] 5)) := (Below.refl _ _).alloc (Nat.le_refl _) _
  have ho0 : OB (w1.alloc (.cells #[] 5)) w1.heap.size (.slice (some ⟨w1.heap.size, 0, none⟩) 0 0) [] := OB.lit w1 w1.heap.size [] #[] rfl (Nat.le_refl _) (by simp)
  have hlt1 : w.heap.size ≤ w1.heap.size := by omega
  have hbb := below_two hb1 hb1.size hb0
  have hv0 := hv1.below hb0
  go_loopw [3, 4] (fun v3 v4 wr => ∃ (k : Nat), v4 = .int .i64 (k : Int) ∧ k ≤ 4 ∧ OB wr w1.heap.size v3 ((l.1.take k).flatMap encL) ∧ VA wr w.heap.size 36 l.cells ∧ Below w.heap.size w wr ∧ Below w1.heap.size w1 wr) (fun _ i _ => 4 - (intOf i).toNat)
  case atStart => exact ⟨0, rfl, by omega, ho0, hv0, hbb, hb0⟩
  case round =>
    obtain ⟨k, rfl, hk, ho, hv, hb, hbw⟩ := hrel
    clear hv1 hb0 ho0 hbb hv0 hb1
    by_cases h4 : k < 4
    · have hki : (k : Int) < 4 := by omega
      have hkl : k < l.1.length := by rw [l.2]; omega
      have hrg := PL.range hv k hkl
      obtain ⟨p, hp⟩ : ∃ p, p = l.1[k] := ⟨_, rfl⟩
      rw [← hp] at hrg
      have hst := encs_take l.1 k hkl
      rw [← hp] at hst
      have cE : ∀ W, Calls Try.prog 32 #[.agg p.cells.toArray] W fun e w' => ∃ v, e = .returned v ∧ OB w' W.heap.size v (encL p) ∧ Below W.heap.size W w' := fun W => rEncode_any p W
      have hel := encL_length p
      have hll : ((l.1.take k).flatMap encL).length ≤ 1000 := by rw [encs_length, List.length_take]; omega
      have HEL := Lib.hid hel
      have HLL := Lib.hid hll
      have HST := Lib.hid hst
      clear hel hll hst hp
      go_wp2_with (first
        | (refine stepV (exec_load 33 _ rfl _ _ rfl p.cells _ hrg Try.underlying33 rfl p.info) rfl ?_)
        | (go_at_call 32; (with_reducible refine (cE _).mono ?_); rintro e w4 ⟨v4, rfl, ho4, hb4⟩; replace hv := hv.below hb4; replace hb := below_two hb hb.size hb4; replace ho := ho.below hb4; replace hbw := below_two hbw hbw.size hb4; clear hb4)
        | (at_builtin; refine appBs w1.heap.size (.tmp 10) (.tmp 14) _ _ _ (encL p) ho ho4.reads hbw hbw.size (by have := HLL.out; omega) (by rw [HEL.out]; omega) rfl rfl rfl rfl ?_; intro v6 w6 ho6 hb6 hg6 hat6 hs6; rw [← HST.out] at ho6))
      go_roundw
      case rel => exact ⟨k + 1, by go_num, by omega, ho6, hv.grown hg6 (fun e => by have := (ho.ge _ e.symm).1; omega), hb.grown hg6 hb.size (fun j hj => Nat.le_trans hlt1 (ho.ge j hj).1), hb6⟩
      case measure => simp [intOf] <;> omega
    · have hki : (4 : Int) ≤ (k : Int) := by omega
      rw [List.take_of_length_le (by rw [l.2]; omega)] at ho
      clear hk h4
      generalize hE : l.1.flatMap encL = E at ho
      have hEl : E.length = 176 := by rw [← hE, encs_length, l.2]
      have HE := Lib.hid hE
      clear hE
      go_wp2
      go_loopw [3] (fun v3 wr2 => ∃ (n : Nat), n ≤ 80 ∧ OB wr2 w1.heap.size v3 (E ++ List.replicate n 0) ∧ Below w.heap.size w wr2 ∧ Below w1.heap.size w1 wr2) (fun v _ => 256 - lenV v)
      case atStart => exact ⟨0, by omega, by simpa using ho, hb, hbw⟩
      case round =>
        obtain ⟨n, hn, ho2, hb2, hbw2⟩ := hrel
        clear ho hv hb hbw
        obtain ⟨A, c, rfl, hc⟩ := ho2.reads.len
        have hln : (E ++ List.replicate n (0 : UInt8)).length = 176 + n := by rw [List.length_append, hEl, List.length_replicate]
        rw [hln]
        rw [hln] at ho2
        have HLN := Lib.hid hln
        clear hln
        by_cases h80 : n < 80
        · have h80' : ((176 + n : Nat) : Int) < 256 := by omega
          go_wp2_with (first
            | (at_builtin; refine appB w1.heap.size (.tmp 19) (.tmp 20) _ _ 0 _ ho2 hbw2 hbw2.size (by rw [HLN.out]; omega) rfl rfl rfl rfl rfl ?_; intro v6 w6 ho6 hb6 hg6 hat6 hs6))
          go_roundw
          case rel => exact ⟨n + 1, by omega, by rw [List.replicate_succ', ← List.append_assoc]; exact ho6, hb2.grown hg6 hb2.size (fun j hj => Nat.le_trans hlt1 (ho2.ge j hj).1), hb6⟩
          case measure =>
            obtain ⟨A6, c6, rfl, hc6⟩ := ho6.reads.len
            simp [lenV, hEl]; omega
        · obtain rfl : n = 80 := by omega
          go_wp2
          go_ret
          have e : E ++ List.replicate 80 0 = nodeL l := by rw [nodeL, HE.out]
          rw [e] at ho2
          exact ⟨_, rfl, ho2.lower hlt1, hb2⟩

theorem eqPL : EqT Try.prog 36 (4 * 35) true 4 (fun l : PL => l.1.flatMap PT.cells) (fun l => .agg (l.1.flatMap PT.cells).toArray) (fun x y => (x.1.zip y.1).all fun p => p.1 == p.2) :=
  eqPT.row (by kernel_rfl) (sizeOf_ok (by kernel_rfl))
theorem pl_eql (l m : PL) (w : World) : (binOp .eql 36 (.agg l.cells.toArray) (.agg m.cells.toArray)).run Try.prog w = .ok (.bool (l == m)) w := by
  rw [run_eql_struct]
  have h := eqPL.eqs 9996 w l m
  rw [zip_all_eq l.1 m.1 (by rw [l.2, m.2])] at h
  unfold PL.cells
  rw [h]
  rfl
/-- Four holes. -/
def PL.none : PL := ⟨List.replicate 4 PT.hole, rfl⟩
theorem pl_zero : Program.built Try.prog 36 [] = some PL.none.cells.toArray := by kernel_rfl
theorem pl_guard : Try.prog.eqGuardType Try.prog.depth 36 = false := by kernel_rfl

end Go.Proofs.Ythogefehainmdab
