/- The package ptr: nodes. -/
import Derived.Test.YthogefehainmdabPtr5
import Derived.Test.YthogefehainmdabAggB
namespace Go.Proofs.Ythogefehainmdab
open Go.RowKit
set_option linter.unusedSimpArgs false

/-- Four pointers. -/
abbrev PL := RowOf PT 4
def PL.cells (l : PL) : List Value := l.1.flatMap PT.cells
def PL.val (l : PL) : Value := .agg l.cells.toArray
theorem PL.len (l : PL) : l.cells.length = 140 := by rw [PL.cells, flatMap_len PT.len, l.2]
theorem PL.info (l : PL) : (Try.prog.info? 36).map (·.size) = some l.cells.length := by rw [PL.len]; kernel_rfl
def nodeL (l : PL) : List UInt8 := l.1.flatMap encL ++ List.replicate 80 0
theorem encs_length (xs : List PT) : (xs.flatMap encL).length = xs.length * 44 := by
  induction xs with
  | nil => rfl
  | cons x xs ih => simp [ih, encL_length, Nat.succ_mul, Nat.add_comm]
theorem encs_take (xs : List PT) (k : Nat) (h : k < xs.length) : (xs.take (k + 1)).flatMap encL = (xs.take k).flatMap encL ++ encL xs[k] := by
  rw [List.take_add_one, List.getElem?_eq_getElem h, Option.toList_some, List.flatMap_append, List.flatMap_cons, List.flatMap_nil, List.append_nil]

/-- Behind k pointers. -/
def ndL (xs : List PT) (k : Nat) : List UInt8 := (xs.take k).flatMap encL ++ List.replicate (256 - 44 * k) 0
theorem ndL_length (xs : List PT) (k : Nat) (h : k ≤ xs.length) (h4 : k ≤ 4) : (ndL xs k).length = 256 := by
  rw [ndL, List.length_append, encs_length, List.length_take, List.length_replicate]; omega
theorem ndL_step (xs : List PT) (k : Nat) (h : k < xs.length) : (ndL xs k).take (44 * k) ++ encL xs[k] ++ (ndL xs k).drop (44 * k + (encL xs[k]).length) = ndL xs (k + 1) := by
  have e : ((xs.take k).flatMap encL).length = 44 * k := by rw [encs_length, List.length_take]; omega
  rw [ndL, ndL, encs_take xs k h, encL_length, List.take_append_of_le_length (by omega), List.take_of_length_le (by omega), ← List.drop_drop, List.drop_left' e, List.drop_replicate]
  congr 2

set_option maxHeartbeats 1600000 in
set_option maxRecDepth 100000 in
theorem Node_any (l : PL) (w : World) : Calls Try.prog 17 #[l.val] w fun e w' => ∃ v, e = .returned v ∧ OB w' w.heap.size v (nodeL l) ∧ Below w.heap.size w w' := by
  unfold PL.val
  go_enter Try.func17, Try.ntmps17
  go_wp2_with (first
    | (refine wpBox 36 _ rfl l.cells rfl rfl ?_; intro w1 hv1 hb1)
    | (refine wpMake0 256 (by decide) _ _ rfl rfl rfl rfl ?_; intro w2 hv2 hb2; have hlt := hv1.lt; replace hv1 := hv1.below hb2; replace hb1 := below_two hb1 hb1.size hb2; have hlt2 : w.heap.size ≤ w1.heap.size := by omega)
    | (refine stepV (exec_load 36 _ rfl _ _ rfl l.cells _ hv1.all Try.underlying36 rfl l.info) rfl ?_))
  clear hlt hb2
  go_loopw [3, 9] (fun v3 v9 wr => ∃ (k : Nat), v9 = .int .i64 (k : Int) ∧ k ≤ 4 ∧ v3 = .slice (some ⟨w1.heap.size, 0, none⟩) (44 * k) 256 ∧ VA wr w1.heap.size 5 ((ndL l.1 k).map cb) ∧ Below w.heap.size w wr) (fun _ i _ => 4 - (intOf i).toNat)
  case atStart => exact ⟨0, rfl, by omega, rfl, hv2, hb1⟩
  case round =>
    obtain ⟨k, rfl, hk, rfl, hv, hb⟩ := hrel
    clear hv1 hv2 hb1
    by_cases h4 : k < 4
    · have hki : (k : Int) < 4 := by omega
      have hkl : k < l.1.length := by rw [l.2]; omega
      obtain ⟨p, hp⟩ : ∃ p, p = l.1[k] := ⟨_, rfl⟩
      have hst := ndL_step l.1 k hkl
      rw [← hp] at hst
      have HST := Lib.hid hst
      have HP := Lib.hid hp
      clear hst hp
      have cE : ∀ W, Calls Try.prog 15 #[.agg p.cells.toArray] W fun e w' => e = .returned (.agg ((encL p).map cb).toArray) ∧ Below W.heap.size W w' := fun W => Encode_any p W
      have hel := encL_length p
      have hnl := ndL_length l.1 k (by rw [l.2]; omega) (by omega)
      have HEL := Lib.hid hel
      have HNL := Lib.hid hnl
      clear hel hnl
      go_wp2_with (first
        | (refine stepV (v := p.val) (by rw [HP.out]; exact exec_index eqPT 36 _ _ rfl Try.underlying36 l.1 rfl l.2 k .i64 rfl hkl) rfl ?_)
        | (refine wpVar 33 rfl PT.hole.val PT.hole.cells (by kernel_rfl) rfl 5 _ rfl p.cells rfl rfl (by rw [PT.len, PT.len]) p.info p.one rfl rfl ?_; intro w3 hv3 hb3; replace hv := hv.below hb3; replace hb := below_two hb hb.size hb3; clear hb3)
        | (refine stepV (exec_load 33 _ rfl _ _ rfl p.cells _ hv3.all Try.underlying33 rfl p.info) rfl ?_)
        | (go_at_call 15; (with_reducible refine (cE _).mono ?_); rintro e w4 ⟨rfl, hb4⟩; replace hv := hv.below hb4; replace hb := below_two hb hb.size hb4; clear hb4 hv3)
        | (refine wpVar 40 rfl (bytesV (List.replicate 44 0)) ((List.replicate 44 (0 : UInt8)).map cb) (by kernel_rfl) rfl 6 _ rfl ((encL p).map cb) rfl rfl (by simp [encL_length]) (by rw [List.length_map, encL_length]; kernel_rfl) (one_u8 _) rfl rfl ?_; intro w5 hv5 hb5; replace hv := hv.below hb5; replace hb := below_two hb hb.size hb5; clear hb5; have hr5 : RB w5 (.slice (some ⟨w4.heap.size, 0, none⟩) 44 44) (encL p) := by
            have h := RR.range (T := B8) (w := w5) (b := w4.heap.size) (o := 0) (xs := encL p) (by rw [U8_all]; exact hv5.all) (by rw [HEL.out]; decide)
            rw [HEL.out] at h
            exact h)
        | (at_builtin; refine appRoom (.tmp 14) (.tmp 15) w1.heap.size (44 * k) 256 (ndL l.1 k) (encL p) _ hv hr5 (by rw [HEL.out]; decide) (by rw [HNL.out]; decide) (by rw [HEL.out]; omega) rfl rfl rfl rfl ?_; intro w6 hv6 hg6; replace hb := hb.grown hg6 hb.size (fun j hj => by cases hj; exact hlt2); rw [HST.out] at hv6))
      go_roundw
      case rel => exact ⟨k + 1, by go_num, by omega, by rw [HEL.out]; rfl, hv6, hb⟩
      case measure => simp [intOf] <;> omega
    · obtain rfl : k = 4 := by omega
      go_wp2
      go_ret
      have e : ndL l.1 4 = nodeL l := by rw [ndL, nodeL, List.take_of_length_le (by rw [l.2]; omega)]
      rw [e] at hv
      have hnl : (nodeL l).length = 256 := by rw [← e]; exact ndL_length l.1 4 (by rw [l.2]; omega) (by omega)
      have ho := OB.ofVA hv hlt2 (by rw [hnl]; omega)
      rw [hnl] at ho
      exact ⟨_, rfl, ho, hb⟩
end Go.Proofs.Ythogefehainmdab
