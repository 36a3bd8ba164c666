/- The laws of layer 1: the walks, more. -/
import Derived.Test.YthogefehainmdaaLaw01
import Derived.Test.YthogefehainmdaaKit2
namespace Go.Proofs.Ythogefehainmdaa
open Go.RowKit

set_option maxHeartbeats 1600000 in
set_option maxRecDepth 100000 in
theorem NumString_any (vb : Value) (b : List UInt8) (n : Int) (w : World) (hb : RB w vb b) (hn : n ≤ 9223372036854775807) :
    Calls Try.prog 9 #[vb, .int .i64 n] w fun e w' => e = .returned (.bool true) ∧ Below w.heap.size w w' := by
  obtain ⟨A, c, rfl, hc⟩ := hb.len
  by_cases h1 : 300 < b.length
  · have h1' : (300 : Int) < (b.length : Int) := by omega
    go_enter Try.func9, Try.ntmps9
    go_wp2_with (first | (go_at_call 18; refine (alive01_any _).mono ?_; rintro e w1 ⟨rfl, hb1⟩))
    go_ret
    exact ⟨rfl, hb1⟩
  have h1' : (b.length : Int) ≤ 300 := by omega
  have hb0 : Below w.heap.size w (w.alloc (.cells #[] 5)) := (Below.refl _ _).alloc (Nat.le_refl _) _
  have ho0 : OB (w.alloc (.cells #[] 5)) w.heap.size (.slice (some ⟨w.heap.size, 0, none⟩) 0 0) [] := OB.lit w w.heap.size [] #[] rfl (Nat.le_refl _) (by simp)
  have hr0 := hb.below hb0
  go_enter Try.func9, Try.ntmps9
  go_wp2_with (first
    | (at_builtin; refine appBs w.heap.size (.tmp 16) (.tmp 17) _ _ [] b ho0 hr0 hb0 (by simp) (by simp) (by omega) rfl rfl rfl rfl ?_; clear ho0 hr0; intro v5 w1 ho1 hb1 hg1 hat1 hs1; rw [List.nil_append] at ho1)
    | (go_at_call 41; refine (TakeString_any _ b n _ ho1.reads (by omega) hn).mono ?_; rintro e w2 ⟨v6, v7, rfl, ho6, ho7, hb2⟩)
    | (go_at_call 42; refine (rTakeString_any _ b n _ ((hb.below hb1).below hb2) (by omega) hn).mono ?_; rintro e w3 ⟨v9, v10, rfl, ho9, ho10, hb3⟩)
    | (go_at_call 18; refine (alive01_any _).mono ?_; rintro e w4 ⟨rfl, hb4⟩; have q0 := strB (((hb.below hb1).below hb2).below hb3 |>.below hb4); have q5 := strB ((ho1.reads.below hb2).below hb3 |>.below hb4); have q6 := strB ((ho6.reads.below hb3).below hb4); have q7 := strB ((ho7.reads.below hb3).below hb4); have q9 := strB (ho9.below hb4); have q10 := strB (ho10.below hb4)))
  go_ret
  exact ⟨rfl, below_two (below_two (below_two hb1 hb1.size hb2) (Nat.le_trans hb1.size hb2.size) hb3) (Nat.le_trans (Nat.le_trans hb1.size hb2.size) hb3.size) hb4⟩

set_option maxHeartbeats 1600000 in
set_option maxRecDepth 100000 in
theorem NumBack_any (vs vr : Value) (n : Nat) (s r : List UInt8) (w : World) (hs : RB w vs s) (hr : RB w vr r) (hn : W64 n) :
    Calls Try.prog 14 #[.int .u64 (n : Int), vs, vr] w fun e w' => e = .returned (.bool true) ∧ Below w.heap.size w w' := by
  obtain ⟨A, c, rfl, hc⟩ := hs.len
  obtain ⟨A2, c2, rfl, hc2⟩ := hr.len
  by_cases h1 : 300 < s.length
  · have h1' : (300 : Int) < (s.length : Int) := by omega
    go_enter Try.func14, Try.ntmps14
    go_wp2_with (first | (go_at_call 18; refine (alive01_any _).mono ?_; rintro e w1 ⟨rfl, hb1⟩))
    go_ret
    exact ⟨rfl, hb1⟩
  by_cases h2 : 300 < r.length
  · have h1' : (s.length : Int) ≤ 300 := by omega
    have h2' : (300 : Int) < (r.length : Int) := by omega
    go_enter Try.func14, Try.ntmps14
    go_wp2_with (first | (go_at_call 18; refine (alive01_any _).mono ?_; rintro e w1 ⟨rfl, hb1⟩))
    go_ret
    exact ⟨rfl, hb1⟩
  have h1' : (s.length : Int) ≤ 300 := by omega
  have h2' : (r.length : Int) ≤ 300 := by omega
  obtain ⟨n32, hn32⟩ : ∃ m : Nat, m = n % 4294967296 := ⟨_, rfl⟩
  have hlt32 : n32 < 4294967296 := by omega
  have hm32 : (n : Int) % 4294967296 = (n32 : Int) := by omega
  have hw32 : IntKind.u32.wrap (n : Int) = (n32 : Int) := by rw [IntKind.wrap_u32]; exact hm32
  have HN32 := Lib.hid hn32
  have hl10 := putL_len64 n hn
  have hlS : (putL s.length).length ≤ 10 := putL_len64 _ (W64_len (by omega))
  have hl4 : (put32L n32).length = 4 := rfl
  have HL4 := Lib.hid hl4
  obtain ⟨L3, hL3⟩ : ∃ L, L = put32L n32 ++ (putL s.length ++ (s ++ r)) := ⟨_, rfl⟩
  obtain ⟨L, hL⟩ : ∃ L, L = putL n ++ L3 := ⟨_, rfl⟩
  have hbl : putL n ++ put32L n32 ++ putL s.length ++ s ++ r = L := by rw [hL, hL3]; simp
  have hE : tkE L = 0 := by rw [hL]; exact tk_put_E _ _ hn
  have hN : tkN L = n := by rw [hL]; exact tk_put_N _ _ hn
  have hR : tkR L = L3 := by rw [hL]; exact tk_put_R _ _ hn
  have hLl : L.length ≤ 1000000000 := by rw [← hbl]; simp; omega
  have h4 : 4 ≤ L3.length := by rw [hL3]; simp; omega
  have hL3l : L3.length ≤ 1000000000 := by have := congrArg List.length hL; simp at this; omega
  have hg : get32 L3 = n32 := by rw [hL3]; exact get32_put _ _ hlt32
  have hd : L3.drop 4 = putL s.length ++ (s ++ r) := by rw [hL3]; rfl
  obtain ⟨hE2, hS2, hR2⟩ := ts_put s r 300 (by omega) (W64_len (xs := s) (by omega))
  have hdl : (putL s.length ++ (s ++ r)).length ≤ 1000000000 := by simp; omega
  have cT := fun W v h => Take_any v L W h hLl
  have cT32 := fun W v h => Take32_any v L3 W h hL3l
  have cTS := fun W v h => TakeString_any v (putL s.length ++ (s ++ r)) 300 W h hdl (by decide)
  rw [hE, hN, hR] at cT
  rw [if_pos h4, if_pos h4, if_pos h4, hg, hd] at cT32
  rw [hE2, hS2, hR2] at cTS
  have CT := Lib.hid cT
  have CT32 := Lib.hid cT32
  have CTS := Lib.hid cTS
  have HBL := Lib.hid hbl
  clear cT cT32 cTS hbl hE hN hR hg hd hE2 hS2 hR2 hL3 hL hn32 hl4
  go_enter Try.func14, Try.ntmps14
  go_wp2_with (first
    | (go_at_call 19; (with_reducible refine (Put_any _ [] n _ (RR.nil _) (by simp) hn).mono ?_); rintro e w1 ⟨v26, rfl, ho1, hb1⟩; rw [List.nil_append] at ho1)
    | (go_at_call 20; (with_reducible refine (Put32_any _ (putL n) n32 _ ho1.reads (by omega) hlt32).mono ?_); rintro e w2 ⟨v29, rfl, ho2, hb2⟩)
    | (go_at_call 21; (with_reducible refine (PutString_any _ _ (putL n ++ put32L n32) s _ ho2.reads ((hs.below hb1).below hb2) (by have := HL4.out; simp; omega) (by omega)).mono ?_); rintro e w3 ⟨v31, rfl, ho3, hb3⟩; have hbb := below_two (below_two hb1 hb1.size hb2) (Nat.le_trans hb1.size hb2.size) hb3; have ho31 := ho3.reads.below ((Below.refl _ _).alloc (Nat.le_refl _) (.cells #[] 5)); have ho30 : OB (w3.alloc (.cells #[] 5)) w3.heap.size (.slice (some ⟨w3.heap.size, 0, none⟩) 0 0) [] := OB.lit w3 w3.heap.size [] #[] rfl (Nat.le_refl _) (by simp))
    | (at_builtin; refine appBs w3.heap.size (.tmp 32) (.tmp 33) _ _ [] (putL n ++ put32L n32 ++ putL s.length ++ s) ho30 ho31 ((Below.refl _ w3).alloc (Nat.le_refl _) _) (by simp) (by simp) (by have := HL4.out; simp; omega) rfl rfl rfl rfl ?_; clear ho30 ho31; intro v8 w4 ho4 hb4 hg4 hat4 hs4; rw [List.nil_append] at ho4)
    | (at_builtin; refine appBs w3.heap.size (.tmp 35) (.tmp 36) _ _ (putL n ++ put32L n32 ++ putL s.length ++ s) r ho4 (((hr.below hbb).below hb4)) hb4 hb4.size (by have := HL4.out; simp; omega) (by omega) rfl rfl rfl rfl ?_; intro v9 w5 ho5 hb5 hg5 hat5 hs5; rw [HBL.out] at ho5; replace hbb := below_two hbb hbb.size hb5)
    | (go_at_call 35; (with_reducible refine (CT.out _ _ ho5.reads).mono ?_); rintro e w6 ⟨u1, rfl, ho6, hb6⟩; replace hbb := below_two hbb hbb.size hb6)
    | (go_at_call 37; (with_reducible refine (CT32.out _ _ ho6.reads).mono ?_); rintro e w7 ⟨u2, rfl, ho7, hb7⟩; replace hbb := below_two hbb hbb.size hb7)
    | (go_at_call 41; (with_reducible refine (CTS.out _ _ ho7.reads).mono ?_); rintro e w8 ⟨u3, u4, rfl, ho8, ho9, hb8⟩; replace hbb := below_two hbb hbb.size hb8)
    | (go_at_call 18; refine (alive01_any _).mono ?_; rintro e w9 ⟨rfl, hb9⟩; have q8 := strB (ho8.reads.below hb9); have q9 := strB (ho9.reads.below hb9); replace hbb := below_two hbb hbb.size hb9; have qs := strB (hs.below hbb); have qr := strB (hr.below hbb)))
  go_ret
  exact ⟨rfl, hbb⟩

end Go.Proofs.Ythogefehainmdaa
