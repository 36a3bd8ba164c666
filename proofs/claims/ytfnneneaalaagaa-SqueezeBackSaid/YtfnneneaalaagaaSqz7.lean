/- Layer 28: the reference's Expand. -/
import Derived.Test.YtfnneneaalaagaaSqz6
import Derived.Test.YtfnneneaalaagaaRef01b
namespace Go.Proofs.Ytfnneneaalaagaa
open Go.RowKit
set_option linter.unusedSimpArgs false
set_option linter.unusedVariables false

def relY (s : List UInt8) (n : Nat) (w : World) (v0 v6 : Value) (wr : World) : Prop := ∃ (out r : List UInt8), Hid (exG n r out = exG n (tkR s) []) ∧ out.length ≤ n ∧ r.length ≤ 1000000 ∧ RB w v0 r ∧ SH Nil w wr [.row B8 v6 out]
set_option maxHeartbeats 3200000 in
set_option maxRecDepth 100000 in
theorem rExpand_any (v : Value) (s : List UInt8) (w : World) (hv : RB w v s) (hl : s.length ≤ 1000000) :
    Calls Try.prog 18 #[v] w fun e w' => ∃ v', e = .returned (.tuple #[v', .int .i64 ((exP s).1 : Int)]) ∧ OB w' w.heap.size v' (exP s).2 ∧ Below w.heap.size w w' := by
  obtain ⟨A, c, rfl, hc⟩ := id hv.len
  have cT := rTake_any (.slice A s.length c) s w hv (by omega)
  have hrl := tkR_len s
  obtain ⟨n, hn⟩ : ∃ n, n = tkN s := ⟨_, rfl⟩
  rw [← hn] at cT
  by_cases hE : tkE s = 0
  · have hE' : ((tkE s : Nat) : Int) = 0 := by omega
    rw [hE'] at cT
    by_cases h5 : 5000 < n
    · have hP : exP s = (4, []) := by rw [exP, if_neg (by omega), if_pos (by omega)]
      have h5' : (5000 : Int) < (n : Int) := by omega
      rw [hP]
      clear hP hE hE' hn
      go_enter Try.func18, Try.ntmps18
      go_wp2_with (first
        | (go_at_call 47; (with_reducible refine cT.mono ?_); rintro e w1 ⟨v1, rfl, -, hb1⟩))
      go_ret2
      exact ⟨_, rfl, OR.nil _ _, hb1⟩
    · have hP : exP s = exG n (tkR s) [] := by rw [exP, if_neg (by omega), if_neg (by omega), hn]
      have h5' : (n : Int) ≤ 5000 := by omega
      rw [hP]
      obtain ⟨p, hp⟩ : ∃ p, p = exG n (tkR s) [] := ⟨_, rfl⟩
      rw [← hp]
      have HP := Lib.hid hp
      clear hP hE hE' hn h5 hp
      go_enter Try.func18, Try.ntmps18
      go_wp2_with (first
        | (go_at_call 47; (with_reducible refine cT.mono ?_); rintro e w1 ⟨v1, rfl, hr1, hb0⟩; have H := (SH.start Nil w1).pushRow (alloc_belowAt _ (.cells #[] 5)) (OB.lit w1 w1.heap.size [] #[] rfl (Nat.le_refl _) (by simp)); clear cT))
      go_loopw [0, 6] (fun v0 v6 wr => relY s n w1 v0 v6 wr) (fun v _ _ => lenV' v)
      case atStart => exact ⟨[], tkR s, by rfl, by simp, by omega, hr1, H⟩
      case round =>
        obtain ⟨out, r, HD, hol, hrl2, hk, HS⟩ := hrel
        clear H hr1
        obtain ⟨A5, c5, rfl, hc5⟩ := hk.len
        obtain ⟨A7, c7, rfl, hc7⟩ := (HS.rr 0 rfl).len
        by_cases hp : 0 < r.length
        · have hp' : (0 : Int) < (r.length : Int) := by omega
          obtain ⟨ad, rfl, hc0, hc1⟩ := RB.byte0 (hk.below HS.below) hp
          obtain ⟨x, hx⟩ : ∃ x, x = r.getD 0 0 := ⟨_, rfl⟩
          rw [← hx] at hc0
          have hxl := x.toNat_lt
          by_cases h128 : x.toNat < 128
          · have h128' : (x.toNat : Int) < 128 := by omega
            by_cases hlt : r.length < x.toNat + 2
            · have hE : sgE out r = 2 := by rw [sgE, ← hx, if_pos h128, if_pos hlt]
              have hd := HD.out
              rw [exG_bad n r out hp (by omega), ← HP.out, hE] at hd
              have HX := Lib.hid hd
              have hlt' : (r.length : Int) < (x.toNat : Int) + 2 := by omega
              clear hc1 hx hE hd hlt
              go_wp2
              go_ret2
              exact ⟨_, by rw [← HX.out]; rfl, by rw [← HX.out]; exact OR.nil _ _, below_two hb0 hb0.size HS.below⟩
            · have hE : sgE out r = 0 := by rw [sgE, ← hx, if_pos h128, if_neg hlt]
              have hlt' : (x.toNat : Int) + 2 ≤ (r.length : Int) := by omega
              obtain ⟨A1, hcut1, _, _, hr2⟩ := cutB (some ad) c5 r 1 (x.toNat + 2) (by omega) (by omega) hc5
              obtain ⟨A2, _, hcut2, _, hr3⟩ := cutB (some ad) c5 r (x.toNat + 2) r.length (by omega) (Nat.le_refl _) hc5
              have hk1 : ∀ W, (Instr.slice 22 (.slice (some ad) r.length c5) (some (.int .i64 1)) (some (.int .i64 ((x.toNat : Int) + 2))) none).run Try.prog W = .ok (.slice A1 (x.toNat + 1) (c5 - 1)) W := hcut1 .i64 .i64
              have hk2 : ∀ W, (Instr.slice 22 (.slice (some ad) r.length c5) (some (.int .i64 ((x.toNat : Int) + 2))) none none).run Try.prog W = .ok (.slice A2 (r.length - (x.toNat + 2)) (c5 - (x.toNat + 2))) W := fun W => hcut2 .i64 W rfl
              have hq1 : RB w1 (.slice A1 (x.toNat + 1) (c5 - 1)) ((r.drop 1).take (x.toNat + 1)) := by
                have := hr2 w1 hk
                rw [List.drop_take] at this
                exact this
              have hq2 : RB w1 (.slice A2 (r.length - (x.toNat + 2)) (c5 - (x.toNat + 2))) (r.drop (x.toNat + 2)) := by
                have := hr3 w1 hk
                rw [List.take_of_length_le (Nat.le_refl _)] at this
                exact this
              have hO : sgO out r = out ++ (r.drop 1).take (x.toNat + 1) := by rw [sgO, ← hx, if_pos h128]
              have hR : sgR r = r.drop (x.toNat + 2) := by rw [sgR, ← hx, if_pos h128]
              have hTl : ((r.drop 1).take (x.toNat + 1)).length = x.toNat + 1 := by rw [List.length_take, List.length_drop]; omega
              have HTL := Lib.hid hTl
              clear hc1 hx hr2 hr3 hcut1 hcut2 hlt
              generalize (r.drop 1).take (x.toNat + 1) = T at hq1 hO HTL hTl
              have hO' : (sgO out r).length = (out.length + (x.toNat + 1)) := by rw [hO]; rw [List.length_append, hTl]
              by_cases hlong : n < (sgO out r).length
              · have hx := exG_long n r out hp hE hlong
                have hd := HD.out
                rw [hx, ← HP.out] at hd
                have HX := Lib.hid hd
                have hlong' : (n : Int) < (((out.length + (x.toNat + 1)) : Nat) : Int) := by omega
                clear hx hd hE hlong
                clear hTl; go_wp2_with (first | (at_builtin; refine wAppend sB HS 0 rfl _ T (hq1.below HS.below) (by rw [HTL.out]; show (_ + _) * 1 ≤ _; omega) _ _ rfl rfl rfl rfl ?_; clear HS; intro v8 w8 HS; obtain ⟨A8, c8, rfl, hc8⟩ := (HS.rr 0 rfl).len; have hl8 : (out ++ T).length = out.length + T.length := List.length_append; rw [HTL.out] at hl8; rw [hl8] at HS))
                go_ret2
                exact ⟨_, by rw [← HX.out]; rfl, by rw [← HX.out]; exact OR.nil _ _, below_two hb0 hb0.size HS.below⟩
              · have hx := exG_next n r out hp hE hlong
                have hd := HD.out
                rw [hx, hO, hR] at hd
                have HX := Lib.hid hd
                have hlong' : (((out.length + (x.toNat + 1)) : Nat) : Int) ≤ (n : Int) := by omega
                have hrr := sgR_lt r hp
                rw [hR] at hrr
                have hol2 : (out ++ T).length ≤ n := by rw [← hO]; omega
                have HOL := Lib.hid hol2
                clear hx hd hE hlong hO hR hO' hol2
                clear hTl; go_wp2_with (first | (at_builtin; refine wAppend sB HS 0 rfl _ T (hq1.below HS.below) (by rw [HTL.out]; show (_ + _) * 1 ≤ _; omega) _ _ rfl rfl rfl rfl ?_; clear HS; intro v8 w8 HS; obtain ⟨A8, c8, rfl, hc8⟩ := (HS.rr 0 rfl).len; have hl8 : (out ++ T).length = out.length + T.length := List.length_append; rw [HTL.out] at hl8; rw [hl8] at HS))
                go_roundw
                case rel => first | exact ⟨_, _, HX, HOL.out, by omega, hq2, HS⟩ | exact ⟨_, _, ⟨_, _, HX, HOL.out, by omega, hq2, HS⟩, rfl, rfl⟩
                case measure => simp [lenV'] at hrr ⊢; omega
          · have h128' : ¬ (x.toNat : Int) < 128 := by omega
            by_cases h2 : r.length < 2
            · have hE : sgE out r = 2 := by rw [sgE, ← hx, if_neg h128, if_pos h2]
              have hd := HD.out
              rw [exG_bad n r out hp (by omega), ← HP.out, hE] at hd
              have HX := Lib.hid hd
              have h2' : (r.length : Int) < 2 := by omega
              clear hc1 hx hE hd h2
              go_wp2
              go_ret2
              exact ⟨_, by rw [← HX.out]; rfl, by rw [← HX.out]; exact OR.nil _ _, below_two hb0 hb0.size HS.below⟩
            · have h2' : (2 : Int) ≤ (r.length : Int) := by omega
              have hky := hc1 (by omega)
              obtain ⟨y, hy⟩ : ∃ y, y = r.getD 1 0 := ⟨_, rfl⟩
              rw [← hy] at hky
              have hyl := y.toNat_lt
              by_cases h3 : y.toNat = 0 ∨ out.length < y.toNat
              · have hE : sgE out r = 3 := by rw [sgE, ← hx, ← hy, if_neg h128, if_neg h2, if_pos h3]
                have hd := HD.out
                rw [exG_bad n r out hp (by omega), ← HP.out, hE] at hd
                have HX := Lib.hid hd
                clear hc1 hx hE hd h2 hy
                by_cases hy0 : y.toNat = 0
                · have hy1 : ((y.toNat : Int) == 0) = true := by rw [hy0]; rfl
                  clear h3 hy0
                  go_wp2
                  go_ret2
                  exact ⟨_, by rw [← HX.out]; rfl, by rw [← HX.out]; exact OR.nil _ _, below_two hb0 hb0.size HS.below⟩
                · have hy1 : ((y.toNat : Int) == 0) = false := by simpa using hy0
                  have hy2 : decide ((out.length : Int) < (y.toNat : Int)) = true := by simp; omega
                  have hy3 : (out.length : Int) < (y.toNat : Int) := by omega
                  clear h3 hy0
                  go_wp2
                  go_ret2
                  exact ⟨_, by rw [← HX.out]; rfl, by rw [← HX.out]; exact OR.nil _ _, below_two hb0 hb0.size HS.below⟩
              · have hE : sgE out r = 0 := by rw [sgE, ← hx, ← hy, if_neg h128, if_neg h2, if_neg h3]
                have hO : sgO out r = backL y.toNat (x.toNat - 124) out := by rw [sgO, ← hx, ← hy, if_neg h128]
                have hR : sgR r = r.drop 2 := by rw [sgR, ← hx, if_neg h128]
                have hy1 : ((y.toNat : Int) == 0) = false := by simp; omega
                have hy2 : decide ((out.length : Int) < (y.toNat : Int)) = false := by simp; omega
                obtain ⟨A2, _, hcut2, _, hr3⟩ := cutB (some ad) c5 r 2 r.length (by omega) (Nat.le_refl _) hc5
                have hk2 : ∀ W, (Instr.slice 22 (.slice (some ad) r.length c5) (some (.int .i64 2)) none none).run Try.prog W = .ok (.slice A2 (r.length - 2) (c5 - 2)) W := fun W => hcut2 .i64 W rfl
                have hq2 : RB w1 (.slice A2 (r.length - 2) (c5 - 2)) (r.drop 2) := by
                  have := hr3 w1 hk
                  rw [List.take_of_length_le (Nat.le_refl _)] at this
                  exact this
                obtain ⟨N, hN⟩ : ∃ N, N = x.toNat - 124 := ⟨_, rfl⟩
                rw [← hN] at hO
                have hNi : (x.toNat : Int) - 124 = (N : Int) := by omega
                have hN2 : N ≤ 131 := by omega
                have hyo : y.toNat ≤ out.length := by omega
                have hyp : 0 < y.toNat := by omega
                have HO := Lib.hid hO
                have HR := Lib.hid hR
                have HE := Lib.hid hE
                clear hc1 hx hy hcut2 hr3 h3 h2 hO hR hE hN h128
                go_wp2
                go_loopw [9, 6] (fun v9 v6 wr2 => ∃ (k : Nat) (cur : List UInt8), v9 = .int .i64 (k : Int) ∧ k ≤ N ∧ Hid (backL y.toNat (N - k) cur = backL y.toNat N out) ∧ cur.length = out.length + k ∧ SH Nil w1 wr2 [.row B8 v6 cur]) (fun v _ _ => N - (intOf v).toNat)
                case atStart => exact ⟨0, out, rfl, by omega, by rfl, by omega, HS⟩
                case round =>
                  obtain ⟨k, cur, rfl, hkN, HK, hcl, HS2⟩ := hrel
                  clear HS
                  have hr4 := HS2.rr 0 rfl
                  obtain ⟨A8, c8, rfl, hc8⟩ := hr4.len
                  by_cases hkn : k < N
                  · have hki : (k : Int) < (N : Int) := by omega
                    obtain ⟨ad2, rfl, hcell⟩ := RB.byte hr4 (by omega)
                    obtain ⟨j, hj⟩ : ∃ j, j = cur.length - y.toNat := ⟨_, rfl⟩
                    have hcj := hcell j (by omega)
                    have hd2 := HK.out
                    rw [show N - k = (N - (k + 1)) + 1 by omega, backL, ← hj] at hd2
                    have hji2 : (cur.length : Int) - (y.toNat : Int) = (j : Int) := by omega
                    have hjl : (j : Int) < (cur.length : Int) := by omega
                    have hjb : (j : Int) ≤ 1001000 := by omega
                    have hcb : (cur.length : Int) ≤ 1001000 := by omega
                    generalize cur.getD j 0 = z at hcj hd2
                    have HD2 := Lib.hid hd2
                    have HCL := Lib.hid hcl
                    clear hd2 hcell hr4 hj hcl
                    go_wp2_with (first
                      | (at_builtin; refine wAppLit sB [z] #[.int .u8 (z.toNat : Int)] rfl (by simp) 1 rfl HS2 0 rfl (by have := HCL.out; show (cur.length + 1) * 1 ≤ _; omega) _ _ rfl rfl rfl rfl ?_; clear HS2; intro v5 w5 HS2))
                    go_roundw
                    case rel => exact ⟨k + 1, _, by go_num, by omega, HD2, by have := HCL.out; rw [List.length_append, List.length_singleton]; omega, HS2⟩
                    case measure => simp [intOf] <;> omega
                  · obtain rfl : k = N := by omega
                    have hd2 := HK.out
                    rw [Nat.sub_self, backL] at hd2
                    have hO := HO.out
                    rw [← hd2] at hO
                    have hE := HE.out
                    have hR := HR.out
                    have HS := HS2
                    rw [hcl] at HS ⊢
                    have HCL := Lib.hid hcl
                    clear hd2 HK hr4 HS2 HO HE HR hcl
                    have hO' : (sgO out r).length = (out.length + k) := by rw [hO]; rw [HCL.out]
                    by_cases hlong : n < (sgO out r).length
                    · have hx := exG_long n r out hp hE hlong
                      have hd := HD.out
                      rw [hx, ← HP.out] at hd
                      have HX := Lib.hid hd
                      have hlong' : (n : Int) < (((out.length + k) : Nat) : Int) := by omega
                      clear hx hd hE hlong
                      go_wp2
                      go_ret2
                      exact ⟨_, by rw [← HX.out]; rfl, by rw [← HX.out]; exact OR.nil _ _, below_two hb0 hb0.size HS.below⟩
                    · have hx := exG_next n r out hp hE hlong
                      have hd := HD.out
                      rw [hx, hO, hR] at hd
                      have HX := Lib.hid hd
                      have hlong' : (((out.length + k) : Nat) : Int) ≤ (n : Int) := by omega
                      have hrr := sgR_lt r hp
                      rw [hR] at hrr
                      have hol2 : cur.length ≤ n := by rw [← hO]; omega
                      have HOL := Lib.hid hol2
                      clear hx hd hE hlong hO hR hO' hol2
                      go_wp2
                      go_roundw
                      case rel => first | exact ⟨_, _, HX, HOL.out, by omega, hq2, HS⟩ | exact ⟨_, _, ⟨_, _, HX, HOL.out, by omega, hq2, HS⟩, rfl, rfl⟩
                      case measure => simp [lenV'] at hrr ⊢; omega
        · obtain rfl : r = [] := List.eq_nil_of_length_eq_zero (by omega)
          have hd := HD.out
          rw [exG_end, ← HP.out] at hd
          by_cases hlt : out.length < n
          · rw [if_pos hlt] at hd
            have HX := Lib.hid hd
            have hlt' : (out.length : Int) < (n : Int) := by omega
            clear hd hk
            go_wp2
            go_ret2
            exact ⟨_, by rw [← HX.out]; rfl, by rw [← HX.out]; exact OR.nil _ _, below_two hb0 hb0.size HS.below⟩
          · rw [if_neg hlt] at hd
            have HX := Lib.hid hd
            have hlt' : (n : Int) ≤ (out.length : Int) := by omega
            clear hd hk
            go_wp2
            go_ret2
            exact ⟨_, by rw [← HX.out]; rfl, by rw [← HX.out]; exact (HS.orow 0 rfl).lower hb0.size, below_two hb0 hb0.size HS.below⟩
  · have hP : exP s = (tkE s, []) := by rw [exP, if_pos hE]
    have hne : ((tkE s : Int) != 0) = true := by simpa using hE
    have hne2 : ((tkE s : Int) == 0) = false := by simpa using hE
    rw [hP]
    generalize (tkE s : Int) = E at *
    clear hP hE
    go_enter Try.func18, Try.ntmps18
    go_wp2_with (first
      | (go_at_call 47; (with_reducible refine cT.mono ?_); rintro e w1 ⟨v1, rfl, -, hb1⟩))
    go_ret2
    exact ⟨_, rfl, OR.nil _ _, hb1⟩
end Go.Proofs.Ytfnneneaalaagaa
