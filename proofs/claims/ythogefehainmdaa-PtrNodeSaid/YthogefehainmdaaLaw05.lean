/- The laws of layer 5 on what is written. -/
import Derived.Test.YthogefehainmdaaAlive05
import Derived.Test.YthogefehainmdaaRef01b
namespace Go.Proofs.Ythogefehainmdaa
open Go.RowKit
set_option linter.unusedSimpArgs false

set_option maxHeartbeats 3200000 in
set_option maxRecDepth 100000 in
theorem PtrNode_any (l : PL) (w : World) : Calls Try.prog 12 #[l.val] w fun e w' => e = .returned (.bool true) ∧ Below w.heap.size w w' := by
  have cN : ∀ W, Calls Try.prog 52 #[.agg l.cells.toArray] W fun e w' => ∃ v, e = .returned v ∧ OB w' W.heap.size v (nodeL l) ∧ Below W.heap.size W w' := fun W => Node_any l W
  have rN : ∀ W, Calls Try.prog 53 #[.agg l.cells.toArray] W fun e w' => ∃ v, e = .returned v ∧ OB w' W.heap.size v (nodeL l) ∧ Below W.heap.size W w' := fun W => rNode_any l W
  have cI : ∀ W, Calls Try.prog 54 #[.agg l.cells.toArray] W fun e w' => e = .returned (.bool (l == PL.none)) ∧ Below W.heap.size W w' := fun W => IsEmpty_any l W
  have rI : ∀ W, Calls Try.prog 55 #[.agg l.cells.toArray] W fun e w' => e = .returned (.bool (l == PL.none)) ∧ Below W.heap.size W w' := fun W => rIsEmpty_any l W
  generalize (l == PL.none) = em at cI rI
  unfold PL.val
  go_enter Try.func12, Try.ntmps12
  go_wp2_with (first
    | (refine wpBox 58 _ rfl l.cells rfl rfl ?_; intro w1 hv1 hb1))
  have hv : VA w1.drew w.heap.size 58 l.cells := hv1
  have hbb : Below w.heap.size w w1.drew := hb1.drew
  clear hv1 hb1
  refine startE (none) (by kernel_rfl) ?_
  refine stepE 0 rfl (by kernel_rfl) rfl (fun K hK => ?_)
  (go_simp; refine (alive05_any _).mono ?_; rintro e w5 ⟨rfl, hb⟩; refine K_out hK hb ?_; clear K hK; replace hv := hv.below hb; replace hbb := below_two hbb hbb.size hb; clear hb)
  (try simp only [Act.put, List.setIfInBounds_toArray, List.set_cons_zero, List.set_cons_succ])
  refine takeE 1 rfl (by kernel_rfl) (by kernel_rfl) (by kernel_rfl) (fun _ _ _ h => h) rfl (v := ?_) ?_ ?_
  rotate_left
  · intro w' hw'; clear hw'; go_simp; (try with_reducible rfl)
  (try simp only [Act.put, List.setIfInBounds_toArray, List.set_cons_zero, List.set_cons_succ])
  refine takeE 2 rfl (by kernel_rfl) (by kernel_rfl) (by kernel_rfl) (fun _ _ _ h => h) rfl (v := ?_) ?_ ?_
  rotate_left
  · intro w' hw'; refine Eq.trans (exec_load 58 _ rfl w.heap.size 0 rfl l.cells _ (VA.all (hv.below (grown_none hw'))) Try.underlying58 rfl l.info) ?_; with_reducible rfl
  (try simp only [Act.put, List.setIfInBounds_toArray, List.set_cons_zero, List.set_cons_succ])
  refine takeE 5 rfl (by kernel_rfl) (by kernel_rfl) (by kernel_rfl) (fun _ _ _ h => h) rfl (v := ?_) ?_ ?_
  rotate_left
  · intro w' hw'; refine Eq.trans (exec_load 58 _ rfl w.heap.size 0 rfl l.cells _ (VA.all (hv.below (grown_none hw'))) Try.underlying58 rfl l.info) ?_; with_reducible rfl
  (try simp only [Act.put, List.setIfInBounds_toArray, List.set_cons_zero, List.set_cons_succ])
  refine stepE 3 rfl (by kernel_rfl) rfl (fun K hK => ?_)
  (go_simp; (with_reducible refine (cN _).mono ?_); rintro e w6 ⟨v6, rfl, ho6, hb⟩; refine K_out hK hb ?_; clear K hK; replace hv := hv.below hb; replace hbb := below_two hbb hbb.size hb; clear hb; have qn := ho6.reads; clear ho6)
  (try simp only [Act.put, List.setIfInBounds_toArray, List.set_cons_zero, List.set_cons_succ])
  refine takeE 4 rfl (by kernel_rfl) (by kernel_rfl) (by kernel_rfl) (fun _ _ _ h => h) rfl (v := ?_) ?_ ?_
  rotate_left
  · intro w' hw'; have h := strB (qn.below (grown_none hw')); clear hw'; go_simp; (try with_reducible rfl)
  (try simp only [Act.put, List.setIfInBounds_toArray, List.set_cons_zero, List.set_cons_succ])
  refine stepE 6 rfl (by kernel_rfl) rfl (fun K hK => ?_)
  (go_simp; (with_reducible refine (rN _).mono ?_); rintro e w7 ⟨v7, rfl, ho7, hb⟩; refine K_out hK hb ?_; clear K hK; replace hv := hv.below hb; replace hbb := below_two hbb hbb.size hb; clear hb; have qm := ho7.reads; clear ho7)
  (try simp only [Act.put, List.setIfInBounds_toArray, List.set_cons_zero, List.set_cons_succ])
  refine takeE 7 rfl (by kernel_rfl) (by kernel_rfl) (by kernel_rfl) (fun _ _ _ h => h) rfl (v := ?_) ?_ ?_
  rotate_left
  · intro w' hw'; have h := strB (qm.below (grown_none hw')); clear hw'; go_simp; (try with_reducible rfl)
  (try simp only [Act.put, List.setIfInBounds_toArray, List.set_cons_zero, List.set_cons_succ])
  refine takeE 8 rfl (by kernel_rfl) (by kernel_rfl) (by kernel_rfl) (fun _ _ _ h => h) rfl (v := ?_) ?_ ?_
  rotate_left
  · intro w' hw'; clear hw'; go_simp; (try with_reducible rfl)
  (try simp only [Act.put, List.setIfInBounds_toArray, List.set_cons_zero, List.set_cons_succ])
  refine takeE 9 rfl (by kernel_rfl) (by kernel_rfl) (by kernel_rfl) (fun _ _ _ h => h) rfl (v := ?_) ?_ ?_
  rotate_left
  · intro w' hw'; clear hw'; go_simp; (try with_reducible rfl)
  (try simp only [Act.put, List.setIfInBounds_toArray, List.set_cons_zero, List.set_cons_succ])
  refine takeE 10 rfl (by kernel_rfl) (by kernel_rfl) (by kernel_rfl) (fun _ _ _ h => h) rfl (v := ?_) ?_ ?_
  rotate_left
  · intro w' hw'; clear hw'; go_simp; (try with_reducible rfl)
  (try simp only [Act.put, List.setIfInBounds_toArray, List.set_cons_zero, List.set_cons_succ])
  refine takeE 11 rfl (by kernel_rfl) (by kernel_rfl) (by kernel_rfl) (fun _ _ _ h => h) rfl (v := ?_) ?_ ?_
  rotate_left
  · intro w' hw'; refine Eq.trans (exec_load 58 _ rfl w.heap.size 0 rfl l.cells _ (VA.all (hv.below (grown_none hw'))) Try.underlying58 rfl l.info) ?_; with_reducible rfl
  (try simp only [Act.put, List.setIfInBounds_toArray, List.set_cons_zero, List.set_cons_succ])
  refine takeE 13 rfl (by kernel_rfl) (by kernel_rfl) (by kernel_rfl) (fun _ _ _ h => h) rfl (v := ?_) ?_ ?_
  rotate_left
  · intro w' hw'; refine Eq.trans (exec_load 58 _ rfl w.heap.size 0 rfl l.cells _ (VA.all (hv.below (grown_none hw'))) Try.underlying58 rfl l.info) ?_; with_reducible rfl
  (try simp only [Act.put, List.setIfInBounds_toArray, List.set_cons_zero, List.set_cons_succ])
  refine stepE 12 rfl (by kernel_rfl) rfl (fun K hK => ?_)
  (go_simp; (with_reducible refine (cI _).mono ?_); rintro e w8 ⟨rfl, hb⟩; refine K_out hK hb ?_; clear K hK; replace hv := hv.below hb; replace hbb := below_two hbb hbb.size hb; clear hb)
  (try simp only [Act.put, List.setIfInBounds_toArray, List.set_cons_zero, List.set_cons_succ])
  refine stepE 14 rfl (by kernel_rfl) rfl (fun K hK => ?_)
  (go_simp; (with_reducible refine (rI _).mono ?_); rintro e w9 ⟨rfl, hb⟩; refine K_out hK hb ?_; clear K hK; replace hv := hv.below hb; replace hbb := below_two hbb hbb.size hb; clear hb)
  (try simp only [Act.put, List.setIfInBounds_toArray, List.set_cons_zero, List.set_cons_succ])
  refine takeE 15 rfl (by kernel_rfl) (by kernel_rfl) (by kernel_rfl) (fun _ _ _ h => h) rfl (v := ?_) ?_ ?_
  rotate_left
  · intro w' hw'; clear hw'; go_simp; (try with_reducible rfl)
  (try simp only [Act.put, List.setIfInBounds_toArray, List.set_cons_zero, List.set_cons_succ])
  refine takeE 16 rfl (by kernel_rfl) (by kernel_rfl) (by kernel_rfl) (fun _ _ _ h => h) rfl (v := ?_) ?_ ?_
  rotate_left
  · intro w' hw'; clear hw'; go_simp; (try with_reducible rfl)
  (try simp only [Act.put, List.setIfInBounds_toArray, List.set_cons_zero, List.set_cons_succ])
  refine takeE 17 rfl (by kernel_rfl) (by kernel_rfl) (by kernel_rfl) (fun _ _ _ h => h) rfl (v := ?_) ?_ ?_
  rotate_left
  · intro w' hw'; clear hw'; go_simp; (try with_reducible rfl)
  (try simp only [Act.put, List.setIfInBounds_toArray, List.set_cons_zero, List.set_cons_succ])
  refine doneE (by kernel_rfl) ?_
  go_wp2
  go_ret
  exact ⟨rfl, hbb⟩

set_option maxHeartbeats 3200000 in
set_option maxRecDepth 100000 in
theorem PtrEncode_any (p : PT) (w : World) : Calls Try.prog 11 #[p.val] w fun e w' => e = .returned (.bool true) ∧ Below w.heap.size w w' := by
  have cE : ∀ W, Calls Try.prog 43 #[.agg p.cells.toArray] W fun e w' => e = .returned (.agg ((encL p).map cb).toArray) ∧ Below W.heap.size W w' := fun W => Encode_any p W
  have rE : ∀ W, Calls Try.prog 45 #[.agg p.cells.toArray] W fun e w' => ∃ v, e = .returned v ∧ OB w' W.heap.size v (encL p) ∧ Below W.heap.size W w' := fun W => rEncode_any p W
  have c1 : ∀ W, Calls Try.prog 46 #[.agg p.cells.toArray] W fun e w' => e = .returned (.bool p.may) ∧ Below W.heap.size W w' := fun W => May_any p W
  have r1 : ∀ W, Calls Try.prog 47 #[.agg p.cells.toArray] W fun e w' => e = .returned (.bool p.may) ∧ Below W.heap.size W w' := fun W => rMay_any p W
  have c2 : ∀ W, Calls Try.prog 48 #[.agg p.cells.toArray] W fun e w' => e = .returned (.bool (p == PT.hole)) ∧ Below W.heap.size W w' := fun W => IsHole_any p W
  have r2 : ∀ W, Calls Try.prog 49 #[.agg p.cells.toArray] W fun e w' => e = .returned (.bool (p == PT.hole)) ∧ Below W.heap.size W w' := fun W => rIsHole_any p W
  have c3 : ∀ W, Calls Try.prog 50 #[.agg p.cells.toArray] W fun e w' => e = .returned (.bool p.absent) ∧ Below W.heap.size W w' := fun W => IsAbsent_any p W
  have r3 : ∀ W, Calls Try.prog 51 #[.agg p.cells.toArray] W fun e w' => e = .returned (.bool p.absent) ∧ Below W.heap.size W w' := fun W => rIsAbsent_any p W
  generalize p.may = b1 at c1 r1
  generalize (p == PT.hole) = b2 at c2 r2
  generalize p.absent = b3 at c3 r3
  have hel := encL_length p
  have HEL := Lib.hid hel
  clear hel
  unfold PT.val
  go_enter Try.func11, Try.ntmps11
  go_wp2_with (first
    | (refine wpBox 53 _ rfl p.cells rfl rfl ?_; intro w1 hv1 hb1)
    | (refine stepV (exec_load 53 _ rfl _ _ rfl p.cells _ hv1.all Try.underlying53 rfl (PT.info _)) rfl ?_)
    | (go_at_call 43; (with_reducible refine (cE _).mono ?_); rintro e w2 ⟨rfl, hb2⟩; replace hv1 := hv1.below hb2; replace hb1 := below_two hb1 hb1.size hb2; clear hb2)
    | (refine wpVar 54 rfl (bytesV (List.replicate 44 0)) ((List.replicate 44 (0 : UInt8)).map cb) (by kernel_rfl) rfl 3 _ rfl ((encL p).map cb) rfl rfl (by simp [encL_length]) (by rw [List.length_map, encL_length]; kernel_rfl) (one_u8 _) rfl rfl ?_; intro w3 hv3 hb3; replace hv1 := hv1.below hb3; replace hb1 := below_two hb1 hb1.size hb3; clear hb3))
  have hr3 : RB w3.drew (.slice (some ⟨w2.heap.size, 0, none⟩) 44 44) (encL p) := by
    have h := RR.range (T := B8) (w := w3) (b := w2.heap.size) (o := 0) (xs := encL p) (by rw [U8_all]; exact hv3.all) (by rw [HEL.out]; decide)
    rw [HEL.out] at h
    exact h
  have hv : VA w3.drew w.heap.size 53 p.cells := hv1
  have hbb : Below w.heap.size w w3.drew := hb1.drew
  clear hv1 hb1 hv3
  refine startE (none) (by kernel_rfl) ?_
  refine stepE 0 rfl (by kernel_rfl) rfl (fun K hK => ?_)
  (go_simp; refine (alive05_any _).mono ?_; rintro e w5 ⟨rfl, hb⟩; refine K_out hK hb ?_; clear K hK; replace hv := hv.below hb; replace hr3 := hr3.below hb; replace hbb := below_two hbb hbb.size hb; clear hb)
  (try simp only [Act.put, List.setIfInBounds_toArray, List.set_cons_zero, List.set_cons_succ])
  refine takeE 1 rfl (by kernel_rfl) (by kernel_rfl) (by kernel_rfl) (fun _ _ _ h => h) rfl (v := ?_) ?_ ?_
  rotate_left
  · intro w' hw'; clear hw'; go_simp; (try with_reducible rfl)
  (try simp only [Act.put, List.setIfInBounds_toArray, List.set_cons_zero, List.set_cons_succ])
  refine takeE 2 rfl (by kernel_rfl) (by kernel_rfl) (by kernel_rfl) (fun _ _ _ h => h) rfl (v := ?_) ?_ ?_
  rotate_left
  · intro w' hw'; clear hw'; go_simp; (try with_reducible rfl)
  (try simp only [Act.put, List.setIfInBounds_toArray, List.set_cons_zero, List.set_cons_succ])
  refine takeE 3 rfl (by kernel_rfl) (by kernel_rfl) (by kernel_rfl) (fun _ _ _ h => h) rfl (v := ?_) ?_ ?_
  rotate_left
  · intro w' hw'; have h := strB (hr3.below (grown_none hw')); clear hw'; go_simp; (try with_reducible rfl)
  (try simp only [Act.put, List.setIfInBounds_toArray, List.set_cons_zero, List.set_cons_succ])
  refine takeE 4 rfl (by kernel_rfl) (by kernel_rfl) (by kernel_rfl) (fun _ _ _ h => h) rfl (v := ?_) ?_ ?_
  rotate_left
  · intro w' hw'; refine Eq.trans (exec_load 53 _ rfl w.heap.size 0 rfl p.cells _ (VA.all (hv.below (grown_none hw'))) Try.underlying53 rfl (PT.info _)) ?_; with_reducible rfl
  (try simp only [Act.put, List.setIfInBounds_toArray, List.set_cons_zero, List.set_cons_succ])
  refine stepE 5 rfl (by kernel_rfl) rfl (fun K hK => ?_)
  (go_simp; (with_reducible refine (rE _).mono ?_); rintro e w6 ⟨v6, rfl, ho6, hb⟩; refine K_out hK hb ?_; clear K hK; replace hv := hv.below hb; replace hbb := below_two hbb hbb.size hb; clear hb hr3; have qn := ho6.reads; clear ho6)
  (try simp only [Act.put, List.setIfInBounds_toArray, List.set_cons_zero, List.set_cons_succ])
  refine takeE 6 rfl (by kernel_rfl) (by kernel_rfl) (by kernel_rfl) (fun _ _ _ h => h) rfl (v := ?_) ?_ ?_
  rotate_left
  · intro w' hw'; have h := strB (qn.below (grown_none hw')); clear hw'; go_simp; (try with_reducible rfl)
  (try simp only [Act.put, List.setIfInBounds_toArray, List.set_cons_zero, List.set_cons_succ])
  refine takeE 7 rfl (by kernel_rfl) (by kernel_rfl) (by kernel_rfl) (fun _ _ _ h => h) rfl (v := ?_) ?_ ?_
  rotate_left
  · intro w' hw'; clear hw'; go_simp; (try with_reducible rfl)
  (try simp only [Act.put, List.setIfInBounds_toArray, List.set_cons_zero, List.set_cons_succ])
  refine takeE 8 rfl (by kernel_rfl) (by kernel_rfl) (by kernel_rfl) (fun _ _ _ h => h) rfl (v := ?_) ?_ ?_
  rotate_left
  · intro w' hw'; clear hw'; go_simp; (try with_reducible rfl)
  (try simp only [Act.put, List.setIfInBounds_toArray, List.set_cons_zero, List.set_cons_succ])
  refine takeE 9 rfl (by kernel_rfl) (by kernel_rfl) (by kernel_rfl) (fun _ _ _ h => h) rfl (v := ?_) ?_ ?_
  rotate_left
  · intro w' hw'; clear hw'; go_simp; (try with_reducible rfl)
  (try simp only [Act.put, List.setIfInBounds_toArray, List.set_cons_zero, List.set_cons_succ])
  refine takeE 10 rfl (by kernel_rfl) (by kernel_rfl) (by kernel_rfl) (fun _ _ _ h => h) rfl (v := ?_) ?_ ?_
  rotate_left
  · intro w' hw'; refine Eq.trans (exec_load 53 _ rfl w.heap.size 0 rfl p.cells _ (VA.all (hv.below (grown_none hw'))) Try.underlying53 rfl (PT.info _)) ?_; with_reducible rfl
  (try simp only [Act.put, List.setIfInBounds_toArray, List.set_cons_zero, List.set_cons_succ])
  refine takeE 12 rfl (by kernel_rfl) (by kernel_rfl) (by kernel_rfl) (fun _ _ _ h => h) rfl (v := ?_) ?_ ?_
  rotate_left
  · intro w' hw'; refine Eq.trans (exec_load 53 _ rfl w.heap.size 0 rfl p.cells _ (VA.all (hv.below (grown_none hw'))) Try.underlying53 rfl (PT.info _)) ?_; with_reducible rfl
  (try simp only [Act.put, List.setIfInBounds_toArray, List.set_cons_zero, List.set_cons_succ])
  refine stepE 11 rfl (by kernel_rfl) rfl (fun K hK => ?_)
  (go_simp; (with_reducible refine (c1 _).mono ?_); rintro e w8 ⟨rfl, hb⟩; refine K_out hK hb ?_; clear K hK; replace hv := hv.below hb; replace hbb := below_two hbb hbb.size hb; clear hb)
  (try simp only [Act.put, List.setIfInBounds_toArray, List.set_cons_zero, List.set_cons_succ])
  refine stepE 13 rfl (by kernel_rfl) rfl (fun K hK => ?_)
  (go_simp; (with_reducible refine (r1 _).mono ?_); rintro e w8 ⟨rfl, hb⟩; refine K_out hK hb ?_; clear K hK; replace hv := hv.below hb; replace hbb := below_two hbb hbb.size hb; clear hb)
  (try simp only [Act.put, List.setIfInBounds_toArray, List.set_cons_zero, List.set_cons_succ])
  refine takeE 14 rfl (by kernel_rfl) (by kernel_rfl) (by kernel_rfl) (fun _ _ _ h => h) rfl (v := ?_) ?_ ?_
  rotate_left
  · intro w' hw'; clear hw'; go_simp; (try with_reducible rfl)
  (try simp only [Act.put, List.setIfInBounds_toArray, List.set_cons_zero, List.set_cons_succ])
  refine takeE 15 rfl (by kernel_rfl) (by kernel_rfl) (by kernel_rfl) (fun _ _ _ h => h) rfl (v := ?_) ?_ ?_
  rotate_left
  · intro w' hw'; clear hw'; go_simp; (try with_reducible rfl)
  (try simp only [Act.put, List.setIfInBounds_toArray, List.set_cons_zero, List.set_cons_succ])
  refine takeE 16 rfl (by kernel_rfl) (by kernel_rfl) (by kernel_rfl) (fun _ _ _ h => h) rfl (v := ?_) ?_ ?_
  rotate_left
  · intro w' hw'; clear hw'; go_simp; (try with_reducible rfl)
  (try simp only [Act.put, List.setIfInBounds_toArray, List.set_cons_zero, List.set_cons_succ])
  refine takeE 17 rfl (by kernel_rfl) (by kernel_rfl) (by kernel_rfl) (fun _ _ _ h => h) rfl (v := ?_) ?_ ?_
  rotate_left
  · intro w' hw'; refine Eq.trans (exec_load 53 _ rfl w.heap.size 0 rfl p.cells _ (VA.all (hv.below (grown_none hw'))) Try.underlying53 rfl (PT.info _)) ?_; with_reducible rfl
  (try simp only [Act.put, List.setIfInBounds_toArray, List.set_cons_zero, List.set_cons_succ])
  refine takeE 19 rfl (by kernel_rfl) (by kernel_rfl) (by kernel_rfl) (fun _ _ _ h => h) rfl (v := ?_) ?_ ?_
  rotate_left
  · intro w' hw'; refine Eq.trans (exec_load 53 _ rfl w.heap.size 0 rfl p.cells _ (VA.all (hv.below (grown_none hw'))) Try.underlying53 rfl (PT.info _)) ?_; with_reducible rfl
  (try simp only [Act.put, List.setIfInBounds_toArray, List.set_cons_zero, List.set_cons_succ])
  refine stepE 18 rfl (by kernel_rfl) rfl (fun K hK => ?_)
  (go_simp; (with_reducible refine (c2 _).mono ?_); rintro e w8 ⟨rfl, hb⟩; refine K_out hK hb ?_; clear K hK; replace hv := hv.below hb; replace hbb := below_two hbb hbb.size hb; clear hb)
  (try simp only [Act.put, List.setIfInBounds_toArray, List.set_cons_zero, List.set_cons_succ])
  refine stepE 20 rfl (by kernel_rfl) rfl (fun K hK => ?_)
  (go_simp; (with_reducible refine (r2 _).mono ?_); rintro e w8 ⟨rfl, hb⟩; refine K_out hK hb ?_; clear K hK; replace hv := hv.below hb; replace hbb := below_two hbb hbb.size hb; clear hb)
  (try simp only [Act.put, List.setIfInBounds_toArray, List.set_cons_zero, List.set_cons_succ])
  refine takeE 21 rfl (by kernel_rfl) (by kernel_rfl) (by kernel_rfl) (fun _ _ _ h => h) rfl (v := ?_) ?_ ?_
  rotate_left
  · intro w' hw'; clear hw'; go_simp; (try with_reducible rfl)
  (try simp only [Act.put, List.setIfInBounds_toArray, List.set_cons_zero, List.set_cons_succ])
  refine takeE 22 rfl (by kernel_rfl) (by kernel_rfl) (by kernel_rfl) (fun _ _ _ h => h) rfl (v := ?_) ?_ ?_
  rotate_left
  · intro w' hw'; clear hw'; go_simp; (try with_reducible rfl)
  (try simp only [Act.put, List.setIfInBounds_toArray, List.set_cons_zero, List.set_cons_succ])
  refine takeE 23 rfl (by kernel_rfl) (by kernel_rfl) (by kernel_rfl) (fun _ _ _ h => h) rfl (v := ?_) ?_ ?_
  rotate_left
  · intro w' hw'; clear hw'; go_simp; (try with_reducible rfl)
  (try simp only [Act.put, List.setIfInBounds_toArray, List.set_cons_zero, List.set_cons_succ])
  refine takeE 24 rfl (by kernel_rfl) (by kernel_rfl) (by kernel_rfl) (fun _ _ _ h => h) rfl (v := ?_) ?_ ?_
  rotate_left
  · intro w' hw'; refine Eq.trans (exec_load 53 _ rfl w.heap.size 0 rfl p.cells _ (VA.all (hv.below (grown_none hw'))) Try.underlying53 rfl (PT.info _)) ?_; with_reducible rfl
  (try simp only [Act.put, List.setIfInBounds_toArray, List.set_cons_zero, List.set_cons_succ])
  refine takeE 26 rfl (by kernel_rfl) (by kernel_rfl) (by kernel_rfl) (fun _ _ _ h => h) rfl (v := ?_) ?_ ?_
  rotate_left
  · intro w' hw'; refine Eq.trans (exec_load 53 _ rfl w.heap.size 0 rfl p.cells _ (VA.all (hv.below (grown_none hw'))) Try.underlying53 rfl (PT.info _)) ?_; with_reducible rfl
  (try simp only [Act.put, List.setIfInBounds_toArray, List.set_cons_zero, List.set_cons_succ])
  refine stepE 25 rfl (by kernel_rfl) rfl (fun K hK => ?_)
  (go_simp; (with_reducible refine (c3 _).mono ?_); rintro e w8 ⟨rfl, hb⟩; refine K_out hK hb ?_; clear K hK; replace hv := hv.below hb; replace hbb := below_two hbb hbb.size hb; clear hb)
  (try simp only [Act.put, List.setIfInBounds_toArray, List.set_cons_zero, List.set_cons_succ])
  refine stepE 27 rfl (by kernel_rfl) rfl (fun K hK => ?_)
  (go_simp; (with_reducible refine (r3 _).mono ?_); rintro e w8 ⟨rfl, hb⟩; refine K_out hK hb ?_; clear K hK; replace hv := hv.below hb; replace hbb := below_two hbb hbb.size hb; clear hb)
  (try simp only [Act.put, List.setIfInBounds_toArray, List.set_cons_zero, List.set_cons_succ])
  refine takeE 28 rfl (by kernel_rfl) (by kernel_rfl) (by kernel_rfl) (fun _ _ _ h => h) rfl (v := ?_) ?_ ?_
  rotate_left
  · intro w' hw'; clear hw'; go_simp; (try with_reducible rfl)
  (try simp only [Act.put, List.setIfInBounds_toArray, List.set_cons_zero, List.set_cons_succ])
  refine takeE 29 rfl (by kernel_rfl) (by kernel_rfl) (by kernel_rfl) (fun _ _ _ h => h) rfl (v := ?_) ?_ ?_
  rotate_left
  · intro w' hw'; clear hw'; go_simp; (try with_reducible rfl)
  (try simp only [Act.put, List.setIfInBounds_toArray, List.set_cons_zero, List.set_cons_succ])
  refine takeE 30 rfl (by kernel_rfl) (by kernel_rfl) (by kernel_rfl) (fun _ _ _ h => h) rfl (v := ?_) ?_ ?_
  rotate_left
  · intro w' hw'; clear hw'; go_simp; (try with_reducible rfl)
  (try simp only [Act.put, List.setIfInBounds_toArray, List.set_cons_zero, List.set_cons_succ])
  refine doneE (by kernel_rfl) ?_
  go_wp2
  go_ret
  exact ⟨rfl, hbb⟩
end Go.Proofs.Ythogefehainmdaa
