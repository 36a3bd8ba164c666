/- The laws of layer 1: the walks, the last ones. -/
import Derived.Test.YthogefehainmdaaLaw01b
namespace Go.Proofs.Ythogefehainmdaa
open Go.RowKit

theorem tsR_le (xs : List UInt8) (m : Int) : (tsR xs m).length ≤ xs.length ∧ (tsS xs m).length ≤ xs.length := by
  have := tkR_le xs
  unfold tsR tsS
  split
  · simp; omega
  · simp

set_option maxHeartbeats 1600000 in
set_option maxRecDepth 100000 in
theorem NumOnly_any (vb : Value) (b : List UInt8) (w : World) (hb : RB w vb b) :
    Calls Try.prog 10 #[vb] w fun e w' => e = .returned (.bool true) ∧ Below w.heap.size w w' := by
  obtain ⟨A, c, rfl, hc⟩ := hb.len
  by_cases h1 : 300 < b.length
  · have h1' : (300 : Int) < (b.length : Int) := by omega
    go_enter Try.func10, Try.ntmps10
    go_wp2_with (first | (go_at_call 18; refine (alive01_any _).mono ?_; rintro e w1 ⟨rfl, hb1⟩))
    go_ret
    exact ⟨rfl, hb1⟩
  have h1' : (b.length : Int) ≤ 300 := by omega
  have cT := fun W v h => Take_any v b W h (by omega)
  by_cases hE : tkE b = 0
  · have hE0 : ((tkE b : Nat) : Int) = 0 := by omega
    obtain ⟨hok, hw64, _⟩ := tk_ok b hE
    simp only [hE0] at cT
    have cTS := fun W v h => TakeString_any v b 300 W h (by omega) (by decide)
    have hbl2 := tkR_le b
    have hpl := putL_len64 _ hw64
    have hadd2 := cat_small (putL (tkN b)) (tkR b) (by omega)
    have hcat2 := str_add (putL (tkN b)) (tkR b)
    rw [← hok] at hcat2
    have CT := Lib.hid cT
    clear cT hE0 hE hok
    generalize tkN b = n at *
    generalize tkR b = r at *
    by_cases hF : tsE b 300 = 0
    · have hF0 : ((tsE b 300 : Nat) : Int) = 0 := by omega
      have hok2 := ts_ok b 300 hF
      simp only [hF0] at cTS
      obtain ⟨hl1, hl2⟩ := tsR_le b 300
      have hsl : (putL (tsS b 300).length).length ≤ 10 := putL_len64 _ (W64_len (by omega))
      have hadd1 := cat_small (putL (tsS b 300).length ++ tsS b 300) (tsR b 300) (by simp; omega)
      have hcat1 := str_add (putL (tsS b 300).length ++ tsS b 300) (tsR b 300)
      rw [hok2] at hcat1
      have CTS := Lib.hid cTS
      clear cTS hF0 hF hok2
      generalize tsS b 300 = s at *
      generalize tsR b 300 = l at *
      go_enter Try.func10, Try.ntmps10
      go_wp2_with (first
        | (go_at_call 35; (with_reducible refine (CT.out _ _ hb).mono ?_); rintro e w1 ⟨v4, rfl, ho4, hb1⟩)
        | (go_at_call 41; (with_reducible refine (CTS.out _ _ (hb.below hb1)).mono ?_); rintro e w2 ⟨v6, v7, rfl, ho6, ho7, hb2⟩))
      have q0 := ((hb.below hb1).below hb2).below (Below.refl _ _).drew
      have q4 := (ho4.reads.below hb2).below (Below.refl _ _).drew
      have q7 := ho7.reads.below (Below.refl _ _).drew
      have hbb := (below_two hb1 hb1.size hb2).drew
      refine startE (none) (by kernel_rfl) ?_
      refine takeE 0 rfl (by kernel_rfl) (by kernel_rfl) (by kernel_rfl) (fun _ _ _ h => h) rfl (v := ?_) ?_ ?_
      rotate_left
      · intro w' hw'; clear hw'; go_simp; (try with_reducible rfl)
      (try simp only [Act.put, List.setIfInBounds_toArray, List.set_cons_zero, List.set_cons_succ])
      refine takeE 1 rfl (by kernel_rfl) (by kernel_rfl) (by kernel_rfl) (fun _ _ _ h => h) rfl (v := ?_) ?_ ?_
      rotate_left
      · intro w' hw'; clear hw'; go_simp; (try with_reducible rfl)
      (try simp only [Act.put, List.setIfInBounds_toArray, List.set_cons_zero, List.set_cons_succ])
      refine takeE 2 rfl (by kernel_rfl) (by kernel_rfl) (by kernel_rfl) (fun _ _ _ h => h) rfl (v := ?_) ?_ ?_
      rotate_left
      · intro w' hw'; clear hw'; go_simp; (try with_reducible rfl)
      (try simp only [Act.put, List.setIfInBounds_toArray, List.set_cons_zero, List.set_cons_succ])
      refine takeE 3 rfl (by kernel_rfl) (by kernel_rfl) (by kernel_rfl) (fun _ _ _ h => h) rfl (v := ?_) ?_ ?_
      rotate_left
      · intro w' hw'; clear hw'; go_simp; (try with_reducible rfl)
      (try simp only [Act.put, List.setIfInBounds_toArray, List.set_cons_zero, List.set_cons_succ])
      refine takeE 6 rfl (by kernel_rfl) (by kernel_rfl) (by kernel_rfl) (fun _ _ _ h => h) rfl (v := ?_) ?_ ?_
      rotate_left
      · intro w' hw'; clear hw'; go_simp; (try with_reducible rfl)
      (try simp only [Act.put, List.setIfInBounds_toArray, List.set_cons_zero, List.set_cons_succ])
      refine takeE 7 rfl (by kernel_rfl) (by kernel_rfl) (by kernel_rfl) (fun _ _ _ h => h) rfl (v := ?_) ?_ ?_
      rotate_left
      · intro w' hw'; have h := strB (q7.below (grown_none hw')); clear hw'; go_simp; (try with_reducible rfl)
      (try simp only [Act.put, List.setIfInBounds_toArray, List.set_cons_zero, List.set_cons_succ])
      refine takeE 9 rfl (by kernel_rfl) (by kernel_rfl) (by kernel_rfl) (fun _ _ _ h => h) rfl (v := ?_) ?_ ?_
      rotate_left
      · intro w' hw'; clear hw'; go_simp; (try with_reducible rfl)
      (try simp only [Act.put, List.setIfInBounds_toArray, List.set_cons_zero, List.set_cons_succ])
      refine takeE 10 rfl (by kernel_rfl) (by kernel_rfl) (by kernel_rfl) (fun _ _ _ h => h) rfl (v := ?_) ?_ ?_
      rotate_left
      · intro w' hw'; have h := strB (q0.below (grown_none hw')); clear hw'; go_simp; (try with_reducible rfl)
      (try simp only [Act.put, List.setIfInBounds_toArray, List.set_cons_zero, List.set_cons_succ])
      refine stepE 4 rfl (by kernel_rfl) rfl (fun K hK => ?_)
      (go_simp; (with_reducible refine (PutString_any _ _ [] s _ (RR.nil _) (ho6.reads.below (Below.refl _ _).drew) (by simp) (by omega)).mono ?_); rintro e w3 ⟨u1, rfl, ho, hb⟩; refine K_out hK hb ?_; clear K hK; rw [List.nil_append] at ho; replace q0 := q0.below hb; replace q4 := q4.below hb; replace hbb := below_two hbb hbb.size hb; have qn := ho.reads)
      (try simp only [Act.put, List.setIfInBounds_toArray, List.set_cons_zero, List.set_cons_succ])
      refine takeE 5 rfl (by kernel_rfl) (by kernel_rfl) (by kernel_rfl) (fun _ _ _ h => h) rfl (v := ?_) ?_ ?_
      rotate_left
      · intro w' hw'; have h := strB (qn.below (grown_none hw')); clear hw'; go_simp; (try with_reducible rfl)
      (try simp only [Act.put, List.setIfInBounds_toArray, List.set_cons_zero, List.set_cons_succ])
      refine takeE 8 rfl (by kernel_rfl) (by kernel_rfl) (by kernel_rfl) (fun _ _ _ h => h) rfl (v := ?_) ?_ ?_
      rotate_left
      · intro w' hw'; clear hw'; go_simp; (try with_reducible rfl)
      (try simp only [Act.put, List.setIfInBounds_toArray, List.set_cons_zero, List.set_cons_succ])
      refine takeE 11 rfl (by kernel_rfl) (by kernel_rfl) (by kernel_rfl) (fun _ _ _ h => h) rfl (v := ?_) ?_ ?_
      rotate_left
      · intro w' hw'; clear hw'; go_simp; (try with_reducible rfl)
      (try simp only [Act.put, List.setIfInBounds_toArray, List.set_cons_zero, List.set_cons_succ])
      refine takeE 12 rfl (by kernel_rfl) (by kernel_rfl) (by kernel_rfl) (fun _ _ _ h => h) rfl (v := ?_) ?_ ?_
      rotate_left
      · intro w' hw'; clear hw'; go_simp; (try with_reducible rfl)
      (try simp only [Act.put, List.setIfInBounds_toArray, List.set_cons_zero, List.set_cons_succ])
      refine doneE (by kernel_rfl) ?_
      clear ho qn q7
      go_wp2_with fail
      refine startE (none) (by kernel_rfl) ?_
      refine stepE 0 rfl (by kernel_rfl) rfl (fun K hK => ?_)
      (go_simp; refine (alive01_any _).mono ?_; rintro e w4 ⟨rfl, hb⟩; refine K_out hK hb ?_; clear K hK; replace hb := (Below.refl _ _).drew.trans hb; replace q0 := q0.below hb; replace q4 := q4.below hb; replace hbb := below_two hbb hbb.size hb)
      (try simp only [Act.put, List.setIfInBounds_toArray, List.set_cons_zero, List.set_cons_succ])
      refine takeE 1 rfl (by kernel_rfl) (by kernel_rfl) (by kernel_rfl) (fun _ _ _ h => h) rfl (v := ?_) ?_ ?_
      rotate_left
      · intro w' hw'; clear hw'; go_simp; (try with_reducible rfl)
      (try simp only [Act.put, List.setIfInBounds_toArray, List.set_cons_zero, List.set_cons_succ])
      refine takeE 2 rfl (by kernel_rfl) (by kernel_rfl) (by kernel_rfl) (fun _ _ _ h => h) rfl (v := ?_) ?_ ?_
      rotate_left
      · intro w' hw'; clear hw'; go_simp; (try with_reducible rfl)
      (try simp only [Act.put, List.setIfInBounds_toArray, List.set_cons_zero, List.set_cons_succ])
      refine takeE 5 rfl (by kernel_rfl) (by kernel_rfl) (by kernel_rfl) (fun _ _ _ h => h) rfl (v := ?_) ?_ ?_
      rotate_left
      · intro w' hw'; clear hw'; go_simp; (try with_reducible rfl)
      (try simp only [Act.put, List.setIfInBounds_toArray, List.set_cons_zero, List.set_cons_succ])
      refine takeE 6 rfl (by kernel_rfl) (by kernel_rfl) (by kernel_rfl) (fun _ _ _ h => h) rfl (v := ?_) ?_ ?_
      rotate_left
      · intro w' hw'; have h := strB (q4.below (grown_none hw')); clear hw'; go_simp; (try with_reducible rfl)
      (try simp only [Act.put, List.setIfInBounds_toArray, List.set_cons_zero, List.set_cons_succ])
      refine takeE 8 rfl (by kernel_rfl) (by kernel_rfl) (by kernel_rfl) (fun _ _ _ h => h) rfl (v := ?_) ?_ ?_
      rotate_left
      · intro w' hw'; clear hw'; go_simp; (try with_reducible rfl)
      (try simp only [Act.put, List.setIfInBounds_toArray, List.set_cons_zero, List.set_cons_succ])
      refine takeE 9 rfl (by kernel_rfl) (by kernel_rfl) (by kernel_rfl) (fun _ _ _ h => h) rfl (v := ?_) ?_ ?_
      rotate_left
      · intro w' hw'; have h := strB (q0.below (grown_none hw')); clear hw'; go_simp; (try with_reducible rfl)
      (try simp only [Act.put, List.setIfInBounds_toArray, List.set_cons_zero, List.set_cons_succ])
      refine stepE 3 rfl (by kernel_rfl) rfl (fun K hK => ?_)
      (go_simp; (with_reducible refine (Put_any _ [] n _ (RR.nil _) (by simp) hw64).mono ?_); rintro e w5 ⟨u2, rfl, ho, hb⟩; refine K_out hK hb ?_; clear K hK; rw [List.nil_append] at ho; replace q0 := q0.below hb; replace q4 := q4.below hb; replace hbb := below_two hbb hbb.size hb; have qn := ho.reads)
      (try simp only [Act.put, List.setIfInBounds_toArray, List.set_cons_zero, List.set_cons_succ])
      refine takeE 4 rfl (by kernel_rfl) (by kernel_rfl) (by kernel_rfl) (fun _ _ _ h => h) rfl (v := ?_) ?_ ?_
      rotate_left
      · intro w' hw'; have h := strB (qn.below (grown_none hw')); clear hw'; go_simp; (try with_reducible rfl)
      (try simp only [Act.put, List.setIfInBounds_toArray, List.set_cons_zero, List.set_cons_succ])
      refine takeE 7 rfl (by kernel_rfl) (by kernel_rfl) (by kernel_rfl) (fun _ _ _ h => h) rfl (v := ?_) ?_ ?_
      rotate_left
      · intro w' hw'; clear hw'; go_simp; (try with_reducible rfl)
      (try simp only [Act.put, List.setIfInBounds_toArray, List.set_cons_zero, List.set_cons_succ])
      refine takeE 10 rfl (by kernel_rfl) (by kernel_rfl) (by kernel_rfl) (fun _ _ _ h => h) rfl (v := ?_) ?_ ?_
      rotate_left
      · intro w' hw'; clear hw'; go_simp; (try with_reducible rfl)
      (try simp only [Act.put, List.setIfInBounds_toArray, List.set_cons_zero, List.set_cons_succ])
      refine takeE 11 rfl (by kernel_rfl) (by kernel_rfl) (by kernel_rfl) (fun _ _ _ h => h) rfl (v := ?_) ?_ ?_
      rotate_left
      · intro w' hw'; clear hw'; go_simp; (try with_reducible rfl)
      (try simp only [Act.put, List.setIfInBounds_toArray, List.set_cons_zero, List.set_cons_succ])
      refine takeE 12 rfl (by kernel_rfl) (by kernel_rfl) (by kernel_rfl) (fun _ _ _ h => h) rfl (v := ?_) ?_ ?_
      rotate_left
      · intro w' hw'; clear hw'; go_simp; (try with_reducible rfl)
      (try simp only [Act.put, List.setIfInBounds_toArray, List.set_cons_zero, List.set_cons_succ])
      refine doneE (by kernel_rfl) ?_
      go_wp2
      go_ret
      exact ⟨rfl, hbb⟩
    · have hF0 : (((tsE b 300 : Nat) : Int) == 0) = false := by rw [beq_eq_false_iff_ne]; omega
      have CTS := Lib.hid cTS
      clear cTS hF
      generalize tsE b 300 = ff at *
      go_enter Try.func10, Try.ntmps10
      go_wp2_with (first
        | (go_at_call 35; (with_reducible refine (CT.out _ _ hb).mono ?_); rintro e w1 ⟨v4, rfl, ho4, hb1⟩)
        | (go_at_call 41; (with_reducible refine (CTS.out _ _ (hb.below hb1)).mono ?_); rintro e w2 ⟨v6, v7, rfl, ho6, ho7, hb2⟩))
      have q0 := ((hb.below hb1).below hb2).below (Below.refl _ _).drew
      have q4 := (ho4.reads.below hb2).below (Below.refl _ _).drew
      have hbb := (below_two hb1 hb1.size hb2).drew
      refine startE (none) (by kernel_rfl) ?_
      refine takeE 0 rfl (by kernel_rfl) (by kernel_rfl) (by kernel_rfl) (fun _ _ _ h => h) rfl (v := ?_) ?_ ?_
      rotate_left
      · intro w' hw'; clear hw'; go_simp; (try with_reducible rfl)
      (try simp only [Act.put, List.setIfInBounds_toArray, List.set_cons_zero, List.set_cons_succ])
      refine takeE 1 rfl (by kernel_rfl) (by kernel_rfl) (by kernel_rfl) (fun _ _ _ h => h) rfl (v := ?_) ?_ ?_
      rotate_left
      · intro w' hw'; clear hw'; go_simp; (try with_reducible rfl)
      (try simp only [Act.put, List.setIfInBounds_toArray, List.set_cons_zero, List.set_cons_succ])
      refine takeE 2 rfl (by kernel_rfl) (by kernel_rfl) (by kernel_rfl) (fun _ _ _ h => h) rfl (v := ?_) ?_ ?_
      rotate_left
      · intro w' hw'; clear hw'; go_simp; (try with_reducible rfl)
      (try simp only [Act.put, List.setIfInBounds_toArray, List.set_cons_zero, List.set_cons_succ])
      refine skipE 3 rfl (by kernel_rfl) (by kernel_rfl) (by kernel_rfl) (fun _ _ _ h => h) rfl ?_
      (try simp only [Act.put, List.setIfInBounds_toArray, List.set_cons_zero, List.set_cons_succ])
      refine skipE 4 rfl (by kernel_rfl) (by kernel_rfl) (by kernel_rfl) (fun _ _ _ h => h) rfl ?_
      (try simp only [Act.put, List.setIfInBounds_toArray, List.set_cons_zero, List.set_cons_succ])
      refine skipE 5 rfl (by kernel_rfl) (by kernel_rfl) (by kernel_rfl) (fun _ _ _ h => h) rfl ?_
      (try simp only [Act.put, List.setIfInBounds_toArray, List.set_cons_zero, List.set_cons_succ])
      refine skipE 6 rfl (by kernel_rfl) (by kernel_rfl) (by kernel_rfl) (fun _ _ _ h => h) rfl ?_
      (try simp only [Act.put, List.setIfInBounds_toArray, List.set_cons_zero, List.set_cons_succ])
      refine skipE 7 rfl (by kernel_rfl) (by kernel_rfl) (by kernel_rfl) (fun _ _ _ h => h) rfl ?_
      (try simp only [Act.put, List.setIfInBounds_toArray, List.set_cons_zero, List.set_cons_succ])
      refine skipE 8 rfl (by kernel_rfl) (by kernel_rfl) (by kernel_rfl) (fun _ _ _ h => h) rfl ?_
      (try simp only [Act.put, List.setIfInBounds_toArray, List.set_cons_zero, List.set_cons_succ])
      refine skipE 9 rfl (by kernel_rfl) (by kernel_rfl) (by kernel_rfl) (fun _ _ _ h => h) rfl ?_
      (try simp only [Act.put, List.setIfInBounds_toArray, List.set_cons_zero, List.set_cons_succ])
      refine skipE 10 rfl (by kernel_rfl) (by kernel_rfl) (by kernel_rfl) (fun _ _ _ h => h) rfl ?_
      (try simp only [Act.put, List.setIfInBounds_toArray, List.set_cons_zero, List.set_cons_succ])
      refine skipE 11 rfl (by kernel_rfl) (by kernel_rfl) (by kernel_rfl) (fun _ _ _ h => h) rfl ?_
      (try simp only [Act.put, List.setIfInBounds_toArray, List.set_cons_zero, List.set_cons_succ])
      refine takeE 12 rfl (by kernel_rfl) (by kernel_rfl) (by kernel_rfl) (fun _ _ _ h => h) rfl (v := ?_) ?_ ?_
      rotate_left
      · intro w' hw'; clear hw'; go_simp; (try with_reducible rfl)
      (try simp only [Act.put, List.setIfInBounds_toArray, List.set_cons_zero, List.set_cons_succ])
      refine doneE (by kernel_rfl) ?_
      go_wp2_with fail
      refine startE (none) (by kernel_rfl) ?_
      refine stepE 0 rfl (by kernel_rfl) rfl (fun K hK => ?_)
      (go_simp; refine (alive01_any _).mono ?_; rintro e w4 ⟨rfl, hb⟩; refine K_out hK hb ?_; clear K hK; replace hb := (Below.refl _ _).drew.trans hb; replace q0 := q0.below hb; replace q4 := q4.below hb; replace hbb := below_two hbb hbb.size hb)
      (try simp only [Act.put, List.setIfInBounds_toArray, List.set_cons_zero, List.set_cons_succ])
      refine takeE 1 rfl (by kernel_rfl) (by kernel_rfl) (by kernel_rfl) (fun _ _ _ h => h) rfl (v := ?_) ?_ ?_
      rotate_left
      · intro w' hw'; clear hw'; go_simp; (try with_reducible rfl)
      (try simp only [Act.put, List.setIfInBounds_toArray, List.set_cons_zero, List.set_cons_succ])
      refine takeE 2 rfl (by kernel_rfl) (by kernel_rfl) (by kernel_rfl) (fun _ _ _ h => h) rfl (v := ?_) ?_ ?_
      rotate_left
      · intro w' hw'; clear hw'; go_simp; (try with_reducible rfl)
      (try simp only [Act.put, List.setIfInBounds_toArray, List.set_cons_zero, List.set_cons_succ])
      refine takeE 5 rfl (by kernel_rfl) (by kernel_rfl) (by kernel_rfl) (fun _ _ _ h => h) rfl (v := ?_) ?_ ?_
      rotate_left
      · intro w' hw'; clear hw'; go_simp; (try with_reducible rfl)
      (try simp only [Act.put, List.setIfInBounds_toArray, List.set_cons_zero, List.set_cons_succ])
      refine takeE 6 rfl (by kernel_rfl) (by kernel_rfl) (by kernel_rfl) (fun _ _ _ h => h) rfl (v := ?_) ?_ ?_
      rotate_left
      · intro w' hw'; have h := strB (q4.below (grown_none hw')); clear hw'; go_simp; (try with_reducible rfl)
      (try simp only [Act.put, List.setIfInBounds_toArray, List.set_cons_zero, List.set_cons_succ])
      refine takeE 8 rfl (by kernel_rfl) (by kernel_rfl) (by kernel_rfl) (fun _ _ _ h => h) rfl (v := ?_) ?_ ?_
      rotate_left
      · intro w' hw'; clear hw'; go_simp; (try with_reducible rfl)
      (try simp only [Act.put, List.setIfInBounds_toArray, List.set_cons_zero, List.set_cons_succ])
      refine takeE 9 rfl (by kernel_rfl) (by kernel_rfl) (by kernel_rfl) (fun _ _ _ h => h) rfl (v := ?_) ?_ ?_
      rotate_left
      · intro w' hw'; have h := strB (q0.below (grown_none hw')); clear hw'; go_simp; (try with_reducible rfl)
      (try simp only [Act.put, List.setIfInBounds_toArray, List.set_cons_zero, List.set_cons_succ])
      refine stepE 3 rfl (by kernel_rfl) rfl (fun K hK => ?_)
      (go_simp; (with_reducible refine (Put_any _ [] n _ (RR.nil _) (by simp) hw64).mono ?_); rintro e w5 ⟨u2, rfl, ho, hb⟩; refine K_out hK hb ?_; clear K hK; rw [List.nil_append] at ho; replace q0 := q0.below hb; replace q4 := q4.below hb; replace hbb := below_two hbb hbb.size hb; have qn := ho.reads)
      (try simp only [Act.put, List.setIfInBounds_toArray, List.set_cons_zero, List.set_cons_succ])
      refine takeE 4 rfl (by kernel_rfl) (by kernel_rfl) (by kernel_rfl) (fun _ _ _ h => h) rfl (v := ?_) ?_ ?_
      rotate_left
      · intro w' hw'; have h := strB (qn.below (grown_none hw')); clear hw'; go_simp; (try with_reducible rfl)
      (try simp only [Act.put, List.setIfInBounds_toArray, List.set_cons_zero, List.set_cons_succ])
      refine takeE 7 rfl (by kernel_rfl) (by kernel_rfl) (by kernel_rfl) (fun _ _ _ h => h) rfl (v := ?_) ?_ ?_
      rotate_left
      · intro w' hw'; clear hw'; go_simp; (try with_reducible rfl)
      (try simp only [Act.put, List.setIfInBounds_toArray, List.set_cons_zero, List.set_cons_succ])
      refine takeE 10 rfl (by kernel_rfl) (by kernel_rfl) (by kernel_rfl) (fun _ _ _ h => h) rfl (v := ?_) ?_ ?_
      rotate_left
      · intro w' hw'; clear hw'; go_simp; (try with_reducible rfl)
      (try simp only [Act.put, List.setIfInBounds_toArray, List.set_cons_zero, List.set_cons_succ])
      refine takeE 11 rfl (by kernel_rfl) (by kernel_rfl) (by kernel_rfl) (fun _ _ _ h => h) rfl (v := ?_) ?_ ?_
      rotate_left
      · intro w' hw'; clear hw'; go_simp; (try with_reducible rfl)
      (try simp only [Act.put, List.setIfInBounds_toArray, List.set_cons_zero, List.set_cons_succ])
      refine takeE 12 rfl (by kernel_rfl) (by kernel_rfl) (by kernel_rfl) (fun _ _ _ h => h) rfl (v := ?_) ?_ ?_
      rotate_left
      · intro w' hw'; clear hw'; go_simp; (try with_reducible rfl)
      (try simp only [Act.put, List.setIfInBounds_toArray, List.set_cons_zero, List.set_cons_succ])
      refine doneE (by kernel_rfl) ?_
      go_wp2
      go_ret
      exact ⟨rfl, hbb⟩
  · have hE' : (((tkE b : Nat) : Int) != 0) = true := by rw [bne_iff_ne]; omega
    obtain ⟨hN, hR⟩ := tk_bad b hE
    rw [hN, hR] at cT
    have CT := Lib.hid cT
    clear cT hE hN hR
    generalize tkE b = e0 at *
    go_enter Try.func10, Try.ntmps10
    go_wp2_with (first
      | (go_at_call 35; (with_reducible refine (CT.out _ _ hb).mono ?_); rintro e w1 ⟨v4, rfl, ho4, hb1⟩; obtain ⟨A4, c4, rfl, hc4⟩ := ho4.reads.len)
      | (go_at_call 18; refine (alive01_any _).mono ?_; rintro e w2 ⟨rfl, hb2⟩))
    go_ret
    exact ⟨rfl, below_two hb1 hb1.size hb2⟩

end Go.Proofs.Ythogefehainmdaa
