/- The laws of layer 1: the walks. -/
import Derived.Test.YthogefehainmdaaRef01c
namespace Go.Proofs.Ythogefehainmdaa
open Go.RowKit

theorem alive01_any (w : World) : Calls Try.prog 18 #[] w fun e w' => e = .returned (.bool true) ∧ Below w.heap.size w w' := by
  have h300 : putL 300 = [172, 2] := by rw [putL, if_neg (by decide), putL, if_pos (by decide)]; rfl
  have h1 : tkE [128, 0] = 3 := by decide +kernel
  have h2 : tkN [128, 0] = 0 := by decide +kernel
  have h3 : tkR [128, 0] = [] := by decide +kernel
  have hP := fun W => Put_any (.slice none 0 0) [] 300 W (RR.nil _) (by simp) (by unfold W64; omega)
  have hT := fun W (v : Value) h => Take_any v [128, 0] W h (by simp)
  rw [h300] at hP
  rw [h1, h2, h3] at hT
  have HP := Lib.hid hP
  have HT := Lib.hid hT
  clear hP hT h1 h2 h3 h300
  go_enter Try.func18, Try.ntmps18
  go_wp2_with (first
    | (go_at_call 19; refine (HP.out _).mono ?_; rintro e w1 ⟨v1, rfl, ho1, hb1⟩; rw [List.nil_append] at ho1)
    | (go_at_call 35; refine (HT.out _ _ (OB.lit _ 0 [128, 0] _ rfl (Nat.zero_le _) (by simp)).reads).mono ?_; rintro e w2 ⟨v2, rfl, _, hb2⟩; have hst := strB (RR.below ho1.reads (((Below.refl _ _).alloc (Nat.le_refl _) _).trans (hb2.mono (by simp)))); have hb3 := (hb1.alloc hb1.size _).trans (hb2.mono (by simp; exact Nat.le_succ_of_le hb1.size))))
  go_ret
  exact ⟨rfl, hb3⟩

set_option maxHeartbeats 1600000 in
set_option maxRecDepth 100000 in
theorem NumPut_any (vb vs : Value) (b s : List UInt8) (n : Nat) (w : World) (hb : RB w vb b) (hs : RB w vs s) (hn : W64 n) :
    Calls Try.prog 4 #[vb, .int .u64 (n : Int), vs] w fun e w' => e = .returned (.bool true) ∧ Below w.heap.size w w' := by
  obtain ⟨A, c, rfl, hc⟩ := hb.len
  obtain ⟨A2, c2, rfl, hc2⟩ := hs.len
  by_cases h1 : 300 < b.length
  · have h1' : (300 : Int) < (b.length : Int) := by omega
    go_enter Try.func4, Try.ntmps4
    go_wp2_with (first | (go_at_call 18; refine (alive01_any _).mono ?_; rintro e w1 ⟨rfl, hb1⟩))
    go_ret
    exact ⟨rfl, hb1⟩
  by_cases h2 : 300 < s.length
  · have h1' : (b.length : Int) ≤ 300 := by omega
    have h2' : (300 : Int) < (s.length : Int) := by omega
    go_enter Try.func4, Try.ntmps4
    go_wp2_with (first | (go_at_call 18; refine (alive01_any _).mono ?_; rintro e w1 ⟨rfl, hb1⟩))
    go_ret
    exact ⟨rfl, hb1⟩
  have h1' : (b.length : Int) ≤ 300 := by omega
  have h2' : (s.length : Int) ≤ 300 := by omega
  obtain ⟨i0, hi, hz0, hz1, hz2⟩ := info_parts Try.info_u8
  have hmk : (Instr.makeSlice 28 (.int .i64 0) (.int .i64 ((b.length : Int) + 12))).run Try.prog w = .ok (.slice (some ⟨w.heap.size, 0, none⟩) 0 (b.length + 12)) (w.alloc (.cells (madeCells #[.int .u8 0] (b.length + 12)) 5)) := by
    have h := run_make (P := Try.prog) w 28 5 i0 (.int .u8 0) Try.underlying28 hi hz0 .i64 .i64 0 ((b.length : Int) + 12) (by omega) (by omega) (by rw [hz2]; omega) (by omega)
    have e2 : ((b.length : Int) + 12).toNat = b.length + 12 := by omega
    rw [e2, hz1, Nat.mul_one] at h
    exact h
  have hb0 : Below w.heap.size w (w.alloc (.cells (madeCells #[.int .u8 0] (b.length + 12)) 5)) := (Below.refl _ _).alloc (Nat.le_refl _) _
  have ho0 : OB (w.alloc (.cells (madeCells #[.int .u8 0] (b.length + 12)) 5)) w.heap.size (.slice (some ⟨w.heap.size, 0, none⟩) 0 (b.length + 12)) [] :=
    World.ownsRow_made w _ (b.length + 12) (Nat.le_refl _) (by simp [maxLen]; omega) (by simp [size_madeCells, U8])
  have hr0 := hb.below hb0
  obtain ⟨n32, hn32⟩ : ∃ m : Nat, m = n % 4294967296 := ⟨_, rfl⟩
  have hlt32 : n32 < 4294967296 := by omega
  have hm32 : (n : Int) % 4294967296 = (n32 : Int) := by omega
  have hw32 : IntKind.u32.wrap (n : Int) = (n32 : Int) := by rw [IntKind.wrap_u32]; exact hm32
  have HN32 := Lib.hid hn32
  clear hn32 hi hz0 hz1 hz2 i0
  go_enter Try.func4, Try.ntmps4
  go_wp2_with (first
    | (at_builtin; refine appBs w.heap.size (.tmp 24) (.tmp 25) _ _ [] b ho0 hr0 hb0 (by simp) (by simp) (by omega) rfl rfl rfl rfl ?_; clear ho0 hr0 hmk; intro v7 w1 ho1 hb1 hg1 hat1 hs1; rw [List.nil_append] at ho1)
    | (go_at_call 19; refine (Put_any _ b n _ ho1.reads (by omega) hn).mono ?_; rintro e w2 ⟨v8, rfl, ho2, hb2⟩)
    | (go_at_call 20; refine (Put32_any _ b n32 _ (ho1.reads.below hb2) (by omega) hlt32).mono ?_; rintro e w3 ⟨v9, rfl, ho3, hb3⟩)
    | (go_at_call 21; refine (PutString_any _ _ b s _ ((ho1.reads.below hb2).below hb3) (((hs.below hb1).below hb2).below hb3) (by omega) (by omega)).mono ?_; rintro e w4 ⟨v10, rfl, ho4, hb4⟩))
  have q0 := ((hb.below hb1).below hb2).below hb3 |>.below hb4
  have qs := ((hs.below hb1).below hb2).below hb3 |>.below hb4
  have q7 := ((ho1.reads.below hb2).below hb3).below hb4
  have q8 := (ho2.reads.below hb3).below hb4
  have q9 := ho3.reads.below hb4
  have q10 := ho4.reads
  have hbb := below_two (below_two (below_two hb1 hb1.size hb2) (Nat.le_trans hb1.size hb2.size) hb3) (Nat.le_trans (Nat.le_trans hb1.size hb2.size) hb3.size) hb4
  clear ho1 ho2 ho3 ho4 hb1 hb2 hb3 hb4 hg1 hat1 hs1 hb0
  refine startE (none) (by kernel_rfl) ?_
  refine stepE 0 rfl (by kernel_rfl) rfl (fun K hK => ?_)
  (go_simp; refine (alive01_any _).mono ?_; rintro e w5 ⟨rfl, hb⟩; refine K_out hK hb ?_; clear K hK; replace hb := (Below.refl _ _).drew.trans hb; replace q0 := q0.below hb; replace qs := qs.below hb; replace q7 := q7.below hb; replace q8 := q8.below hb; replace q9 := q9.below hb; replace q10 := q10.below hb; replace hbb := below_two hbb hbb.size hb; clear hb)
  (try simp only [Act.put, List.setIfInBounds_toArray, List.set_cons_zero, List.set_cons_succ])
  refine takeE 1 rfl (by kernel_rfl) (by kernel_rfl) (by kernel_rfl) (fun _ _ _ h => h) rfl (v := ?_) ?_ ?_
  rotate_left
  · intro w' hw'; clear hw'; go_simp; (try with_reducible rfl)
  (try simp only [Act.put, List.setIfInBounds_toArray, List.set_cons_zero, List.set_cons_succ])
  refine takeE 2 rfl (by kernel_rfl) (by kernel_rfl) (by kernel_rfl) (fun _ _ _ h => h) rfl (v := ?_) ?_ ?_
  rotate_left
  · intro w' hw'; clear hw'; go_simp; (try with_reducible rfl)
  (try simp only [Act.put, List.setIfInBounds_toArray, List.set_cons_zero, List.set_cons_succ])
  refine takeE 3 rfl (by kernel_rfl) (by kernel_rfl) (by kernel_rfl) (fun _ _ _ h => h) rfl (v := ?_) ?_ ?_
  rotate_left
  · intro w' hw'; have h := strB (q8.below (grown_none hw')); clear hw'; go_simp; (try with_reducible rfl)
  (try simp only [Act.put, List.setIfInBounds_toArray, List.set_cons_zero, List.set_cons_succ])
  refine takeE 4 rfl (by kernel_rfl) (by kernel_rfl) (by kernel_rfl) (fun _ _ _ h => h) rfl (v := ?_) ?_ ?_
  rotate_left
  · intro w' hw'; clear hw'; go_simp; (try with_reducible rfl)
  (try simp only [Act.put, List.setIfInBounds_toArray, List.set_cons_zero, List.set_cons_succ])
  refine takeE 5 rfl (by kernel_rfl) (by kernel_rfl) (by kernel_rfl) (fun _ _ _ h => h) rfl (v := ?_) ?_ ?_
  rotate_left
  · intro w' hw'; clear hw'; go_simp; (try with_reducible rfl)
  (try simp only [Act.put, List.setIfInBounds_toArray, List.set_cons_zero, List.set_cons_succ])
  refine stepE 6 rfl (by kernel_rfl) rfl (fun K hK => ?_)
  (go_simp; refine (rPut_any _ b n _ q0 (by omega) hn).mono ?_; rintro e w6 ⟨u1, rfl, ho, hb⟩; refine K_out hK hb ?_; clear K hK; replace q0 := q0.below hb; replace qs := qs.below hb; replace q7 := q7.below hb; replace q9 := q9.below hb; replace q10 := q10.below hb; replace hbb := below_two hbb hbb.size hb; clear hb; have qn := ho.reads; clear ho)
  (try simp only [Act.put, List.setIfInBounds_toArray, List.set_cons_zero, List.set_cons_succ])
  refine takeE 7 rfl (by kernel_rfl) (by kernel_rfl) (by kernel_rfl) (fun _ _ _ h => h) rfl (v := ?_) ?_ ?_
  rotate_left
  · intro w' hw'; have h := strB (qn.below (grown_none hw')); clear hw'; go_simp; (try with_reducible rfl)
  (try simp only [Act.put, List.setIfInBounds_toArray, List.set_cons_zero, List.set_cons_succ])
  refine takeE 8 rfl (by kernel_rfl) (by kernel_rfl) (by kernel_rfl) (fun _ _ _ h => h) rfl (v := ?_) ?_ ?_
  rotate_left
  · intro w' hw'; clear hw'; go_simp; (try with_reducible rfl)
  (try simp only [Act.put, List.setIfInBounds_toArray, List.set_cons_zero, List.set_cons_succ])
  refine takeE 9 rfl (by kernel_rfl) (by kernel_rfl) (by kernel_rfl) (fun _ _ _ h => h) rfl (v := ?_) ?_ ?_
  rotate_left
  · intro w' hw'; clear hw'; go_simp; (try with_reducible rfl)
  (try simp only [Act.put, List.setIfInBounds_toArray, List.set_cons_zero, List.set_cons_succ])
  refine takeE 10 rfl (by kernel_rfl) (by kernel_rfl) (by kernel_rfl) (fun _ _ _ h => h) rfl (v := ?_) ?_ ?_
  rotate_left
  · intro w' hw'; clear hw'; go_simp; (try with_reducible rfl)
  (try simp only [Act.put, List.setIfInBounds_toArray, List.set_cons_zero, List.set_cons_succ])
  refine takeE 11 rfl (by kernel_rfl) (by kernel_rfl) (by kernel_rfl) (fun _ _ _ h => h) rfl (v := ?_) ?_ ?_
  rotate_left
  · intro w' hw'; clear hw'; go_simp; (try with_reducible rfl)
  (try simp only [Act.put, List.setIfInBounds_toArray, List.set_cons_zero, List.set_cons_succ])
  refine takeE 12 rfl (by kernel_rfl) (by kernel_rfl) (by kernel_rfl) (fun _ _ _ h => h) rfl (v := ?_) ?_ ?_
  rotate_left
  · intro w' hw'; have h := strB (q9.below (grown_none hw')); clear hw'; go_simp; (try with_reducible rfl)
  (try simp only [Act.put, List.setIfInBounds_toArray, List.set_cons_zero, List.set_cons_succ])
  refine takeE 13 rfl (by kernel_rfl) (by kernel_rfl) (by kernel_rfl) (fun _ _ _ h => h) rfl (v := ?_) ?_ ?_
  rotate_left
  · intro w' hw'; clear hw'; go_simp; (try with_reducible rfl)
  (try simp only [Act.put, List.setIfInBounds_toArray, List.set_cons_zero, List.set_cons_succ])
  refine takeE 14 rfl (by kernel_rfl) (by kernel_rfl) (by kernel_rfl) (fun _ _ _ h => h) rfl (v := ?_) ?_ ?_
  rotate_left
  · intro w' hw'; clear hw'; go_simp; (try with_reducible rfl)
  (try simp only [Act.put, List.setIfInBounds_toArray, List.set_cons_zero, List.set_cons_succ])
  refine takeE 15 rfl (by kernel_rfl) (by kernel_rfl) (by kernel_rfl) (fun _ _ _ h => h) rfl (v := ?_) ?_ ?_
  rotate_left
  · intro w' hw'; clear hw'; go_simp; (try with_reducible rfl)
  (try simp only [Act.put, List.setIfInBounds_toArray, List.set_cons_zero, List.set_cons_succ])
  refine stepE 16 rfl (by kernel_rfl) rfl (fun K hK => ?_)
  (go_simp; refine (rPut32_any _ b n32 _ q0 (by omega) hlt32).mono ?_; rintro e w7 ⟨u2, rfl, ho, hb⟩; refine K_out hK hb ?_; clear K hK; replace q0 := q0.below hb; replace qs := qs.below hb; replace q7 := q7.below hb; replace q10 := q10.below hb; replace hbb := below_two hbb hbb.size hb; clear hb qn; have qn := ho.reads; clear ho)
  (try simp only [Act.put, List.setIfInBounds_toArray, List.set_cons_zero, List.set_cons_succ])
  refine takeE 17 rfl (by kernel_rfl) (by kernel_rfl) (by kernel_rfl) (fun _ _ _ h => h) rfl (v := ?_) ?_ ?_
  rotate_left
  · intro w' hw'; have h := strB (qn.below (grown_none hw')); clear hw'; go_simp; (try with_reducible rfl)
  (try simp only [Act.put, List.setIfInBounds_toArray, List.set_cons_zero, List.set_cons_succ])
  refine takeE 18 rfl (by kernel_rfl) (by kernel_rfl) (by kernel_rfl) (fun _ _ _ h => h) rfl (v := ?_) ?_ ?_
  rotate_left
  · intro w' hw'; clear hw'; go_simp; (try with_reducible rfl)
  (try simp only [Act.put, List.setIfInBounds_toArray, List.set_cons_zero, List.set_cons_succ])
  refine takeE 19 rfl (by kernel_rfl) (by kernel_rfl) (by kernel_rfl) (fun _ _ _ h => h) rfl (v := ?_) ?_ ?_
  rotate_left
  · intro w' hw'; clear hw'; go_simp; (try with_reducible rfl)
  (try simp only [Act.put, List.setIfInBounds_toArray, List.set_cons_zero, List.set_cons_succ])
  refine takeE 20 rfl (by kernel_rfl) (by kernel_rfl) (by kernel_rfl) (fun _ _ _ h => h) rfl (v := ?_) ?_ ?_
  rotate_left
  · intro w' hw'; clear hw'; go_simp; (try with_reducible rfl)
  (try simp only [Act.put, List.setIfInBounds_toArray, List.set_cons_zero, List.set_cons_succ])
  refine takeE 21 rfl (by kernel_rfl) (by kernel_rfl) (by kernel_rfl) (fun _ _ _ h => h) rfl (v := ?_) ?_ ?_
  rotate_left
  · intro w' hw'; clear hw'; go_simp; (try with_reducible rfl)
  (try simp only [Act.put, List.setIfInBounds_toArray, List.set_cons_zero, List.set_cons_succ])
  refine takeE 22 rfl (by kernel_rfl) (by kernel_rfl) (by kernel_rfl) (fun _ _ _ h => h) rfl (v := ?_) ?_ ?_
  rotate_left
  · intro w' hw'; have h := strB (q10.below (grown_none hw')); clear hw'; go_simp; (try with_reducible rfl)
  (try simp only [Act.put, List.setIfInBounds_toArray, List.set_cons_zero, List.set_cons_succ])
  refine takeE 23 rfl (by kernel_rfl) (by kernel_rfl) (by kernel_rfl) (fun _ _ _ h => h) rfl (v := ?_) ?_ ?_
  rotate_left
  · intro w' hw'; clear hw'; go_simp; (try with_reducible rfl)
  (try simp only [Act.put, List.setIfInBounds_toArray, List.set_cons_zero, List.set_cons_succ])
  refine takeE 24 rfl (by kernel_rfl) (by kernel_rfl) (by kernel_rfl) (fun _ _ _ h => h) rfl (v := ?_) ?_ ?_
  rotate_left
  · intro w' hw'; clear hw'; go_simp; (try with_reducible rfl)
  (try simp only [Act.put, List.setIfInBounds_toArray, List.set_cons_zero, List.set_cons_succ])
  refine stepE 25 rfl (by kernel_rfl) rfl (fun K hK => ?_)
  (go_simp; refine (rPutString_any _ _ b s _ q0 qs (by omega) (by omega)).mono ?_; rintro e w8 ⟨u3, rfl, ho, hb⟩; refine K_out hK hb ?_; clear K hK; replace q0 := q0.below hb; replace qs := qs.below hb; replace q7 := q7.below hb; replace hbb := below_two hbb hbb.size hb; clear hb qn; have qn := ho.reads; clear ho)
  (try simp only [Act.put, List.setIfInBounds_toArray, List.set_cons_zero, List.set_cons_succ])
  refine takeE 26 rfl (by kernel_rfl) (by kernel_rfl) (by kernel_rfl) (fun _ _ _ h => h) rfl (v := ?_) ?_ ?_
  rotate_left
  · intro w' hw'; have h := strB (qn.below (grown_none hw')); clear hw'; go_simp; (try with_reducible rfl)
  (try simp only [Act.put, List.setIfInBounds_toArray, List.set_cons_zero, List.set_cons_succ])
  refine takeE 27 rfl (by kernel_rfl) (by kernel_rfl) (by kernel_rfl) (fun _ _ _ h => h) rfl (v := ?_) ?_ ?_
  rotate_left
  · intro w' hw'; clear hw'; go_simp; (try with_reducible rfl)
  (try simp only [Act.put, List.setIfInBounds_toArray, List.set_cons_zero, List.set_cons_succ])
  refine takeE 28 rfl (by kernel_rfl) (by kernel_rfl) (by kernel_rfl) (fun _ _ _ h => h) rfl (v := ?_) ?_ ?_
  rotate_left
  · intro w' hw'; clear hw'; go_simp; (try with_reducible rfl)
  (try simp only [Act.put, List.setIfInBounds_toArray, List.set_cons_zero, List.set_cons_succ])
  refine takeE 29 rfl (by kernel_rfl) (by kernel_rfl) (by kernel_rfl) (fun _ _ _ h => h) rfl (v := ?_) ?_ ?_
  rotate_left
  · intro w' hw'; clear hw'; go_simp; (try with_reducible rfl)
  (try simp only [Act.put, List.setIfInBounds_toArray, List.set_cons_zero, List.set_cons_succ])
  refine takeE 30 rfl (by kernel_rfl) (by kernel_rfl) (by kernel_rfl) (fun _ _ _ h => h) rfl (v := ?_) ?_ ?_
  rotate_left
  · intro w' hw'; clear hw'; go_simp; (try with_reducible rfl)
  (try simp only [Act.put, List.setIfInBounds_toArray, List.set_cons_zero, List.set_cons_succ])
  refine takeE 31 rfl (by kernel_rfl) (by kernel_rfl) (by kernel_rfl) (fun _ _ _ h => h) rfl (v := ?_) ?_ ?_
  rotate_left
  · intro w' hw'; have h := strB (q7.below (grown_none hw')); clear hw'; go_simp; (try with_reducible rfl)
  (try simp only [Act.put, List.setIfInBounds_toArray, List.set_cons_zero, List.set_cons_succ])
  refine takeE 32 rfl (by kernel_rfl) (by kernel_rfl) (by kernel_rfl) (fun _ _ _ h => h) rfl (v := ?_) ?_ ?_
  rotate_left
  · intro w' hw'; clear hw'; go_simp; (try with_reducible rfl)
  (try simp only [Act.put, List.setIfInBounds_toArray, List.set_cons_zero, List.set_cons_succ])
  refine takeE 33 rfl (by kernel_rfl) (by kernel_rfl) (by kernel_rfl) (fun _ _ _ h => h) rfl (v := ?_) ?_ ?_
  rotate_left
  · intro w' hw'; have h := strB (q0.below (grown_none hw')); clear hw'; go_simp; (try with_reducible rfl)
  (try simp only [Act.put, List.setIfInBounds_toArray, List.set_cons_zero, List.set_cons_succ])
  refine takeE 34 rfl (by kernel_rfl) (by kernel_rfl) (by kernel_rfl) (fun _ _ _ h => h) rfl (v := ?_) ?_ ?_
  rotate_left
  · intro w' hw'; clear hw'; go_simp; (try with_reducible rfl)
  (try simp only [Act.put, List.setIfInBounds_toArray, List.set_cons_zero, List.set_cons_succ])
  refine takeE 35 rfl (by kernel_rfl) (by kernel_rfl) (by kernel_rfl) (fun _ _ _ h => h) rfl (v := ?_) ?_ ?_
  rotate_left
  · intro w' hw'; clear hw'; go_simp; (try with_reducible rfl)
  (try simp only [Act.put, List.setIfInBounds_toArray, List.set_cons_zero, List.set_cons_succ])
  refine takeE 36 rfl (by kernel_rfl) (by kernel_rfl) (by kernel_rfl) (fun _ _ _ h => h) rfl (v := ?_) ?_ ?_
  rotate_left
  · intro w' hw'; clear hw'; go_simp; (try with_reducible rfl)
  (try simp only [Act.put, List.setIfInBounds_toArray, List.set_cons_zero, List.set_cons_succ])
  refine doneE (by kernel_rfl) ?_
  go_wp2
  go_ret
  exact ⟨rfl, hbb⟩

end Go.Proofs.Ythogefehainmdaa
