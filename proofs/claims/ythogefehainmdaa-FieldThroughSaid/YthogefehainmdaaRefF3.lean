/- The reference of layer 25: polynomials, sums of products, places. -/
import Derived.Test.YthogefehainmdaaRefF2
import Derived.Test.YthogefehainmdaaField3
namespace Go.Proofs.Ythogefehainmdaa
open Go.RowKit

set_option maxHeartbeats 1600000 in
set_option maxRecDepth 100000 in
theorem REval_any (v : Value) (ps : List UInt8) (x : UInt8) (w : World) (hv : RB w v ps) (hl : ps.length ≤ 1000000000) :
    Calls Try.prog 34 #[v, .int .u8 (x.toNat : Int)] w fun e w' => e = .returned (.int .u8 ((evalH x ps).toNat : Int)) ∧ Below w.heap.size w w' := by
  obtain ⟨A, c, rfl, hc⟩ := hv.len
  go_enter Try.func34, Try.ntmps34
  go_wp2
  go_loopw [5, 6, 7] (fun v5 v6 v7 wr => ∃ (k : Nat) (o p : UInt8), v7 = .int .i64 (k : Int) ∧ k ≤ ps.length ∧ v5 = .int .u8 (o.toNat : Int) ∧ v6 = .int .u8 (p.toNat : Int) ∧ o ^^^ fmul (evalH x (ps.drop k)) p = evalH x ps ∧ Below w.heap.size w wr) (fun _ _ i _ => ps.length - (intOf i).toNat)
  case atStart => exact ⟨0, 0, 1, rfl, by omega, rfl, rfl, by rw [UInt8.zero_xor, fmul_one]; rfl, Below.refl _ _⟩
  case round =>
    obtain ⟨k, o, p, rfl, hk, rfl, rfl, ho, hb⟩ := hrel
    have HO := Lib.hid ho
    clear ho
    by_cases h0 : k < ps.length
    · have hki : (k : Int) < (ps.length : Int) := by omega
      obtain ⟨ad, rfl, hcc⟩ := (hv.below hb).at_ k h0
      have hcx := hcc 0 (cb ps[k]) (by simp [U8])
      simp only [show B8.sz = 1 from rfl, Nat.mul_one, Nat.add_zero] at hcx
      have hd : evalH x (ps.drop k) = fmul (evalH x (ps.drop (k + 1))) x ^^^ ps[k] := by rw [List.drop_eq_getElem_cons h0, evalH]
      generalize ps[k] = pk at hcx hd
      have hx := xor8 o (fmul pk p)
      obtain ⟨r, hr⟩ : ∃ r, r = o ^^^ fmul pk p := ⟨_, rfl⟩
      rw [← hr] at hx
      have HR := Lib.hid hr
      have HD := Lib.hid hd
      clear hr hd hcc
      go_wp2_with (first
        | (go_at_call 29; (with_reducible refine (RMul_f pk p _).mono ?_); rintro e w1 ⟨rfl, hb1⟩)
        | (go_at_call 29; (with_reducible refine (RMul_f p x _).mono ?_); rintro e w2 ⟨rfl, hb2⟩))
      go_roundw
      case rel =>
        refine ⟨k + 1, r, fmul p x, by go_num, by omega, by go_num, by go_num, ?_, below_two (below_two hb hb.size hb1) (Nat.le_trans hb.size hb1.size) hb2⟩
        rw [← HO.out, HD.out, HR.out, xor_fmul, UInt8.xor_assoc, UInt8.xor_comm (fmul pk p), fmul_assoc, fmul_comm x p]
      case measure => simp [intOf] <;> omega
    · obtain rfl : k = ps.length := by omega
      go_wp2
      go_ret
      have h := HO.out
      rw [List.drop_of_length_le (Nat.le_refl _), evalH, zero_fmul, UInt8.xor_zero] at h
      rw [← h]
      exact ⟨rfl, hb⟩

set_option maxHeartbeats 1600000 in
set_option maxRecDepth 100000 in
theorem RDot_any (va vb : Value) (xs ys : List UInt8) (w : World) (ha : RB w va xs) (hb : RB w vb ys) (hl : xs.length ≤ 1000000000) :
    Calls Try.prog 32 #[va, vb] w fun e w' => e = .returned (.tuple #[.int .u8 ((dotV xs ys).toNat : Int), .int .i64 (dotE xs ys)]) ∧ Below w.heap.size w w' := by
  obtain ⟨A, c, rfl, hc⟩ := id ha.len
  obtain ⟨A2, c2, rfl, hc2⟩ := id hb.len
  unfold dotV dotE
  by_cases hll : xs.length = ys.length
  · rw [if_pos hll, if_pos hll]
    have hli : ((xs.length : Int) != (ys.length : Int)) = false := by simp [hll]
    have HLL := Lib.hid hll
    clear hll
    go_enter Try.func32, Try.ntmps32
    go_wp2
    go_loopw [6, 7] (fun v6 v7 wr => ∃ (k : Nat) (o : UInt8), v7 = .int .i64 (k : Int) ∧ k ≤ xs.length ∧ v6 = .int .u8 (o.toNat : Int) ∧ o ^^^ dotL (xs.drop k) (ys.drop k) = dotL xs ys ∧ Below w.heap.size w wr) (fun _ i _ => xs.length - (intOf i).toNat)
    case atStart => exact ⟨0, 0, rfl, by omega, rfl, by rw [UInt8.zero_xor]; rfl, Below.refl _ _⟩
    case round =>
      obtain ⟨k, o, rfl, hk, rfl, ho, hbe⟩ := hrel
      have HO := Lib.hid ho
      clear ho
      by_cases h0 : k < xs.length
      · have hk2 : k < ys.length := by have := HLL.out; omega
        have hki : (k : Int) < (xs.length : Int) := by omega
        have hki2 : (k : Int) < (ys.length : Int) := by omega
        have hd := dotL_drop xs ys k h0 hk2
        have ha2 := ha.below hbe
        have hb2 := hb.below hbe
        obtain ⟨ad, rfl, hcc⟩ := ha2.at_ k h0
        have hcx := hcc 0 (cb xs[k]) (by simp [U8])
        obtain ⟨ad2, rfl, hcc2⟩ := hb2.at_ k hk2
        have hcy := hcc2 0 (cb ys[k]) (by simp [U8])
        simp only [show B8.sz = 1 from rfl, Nat.mul_one, Nat.add_zero] at hcx hcy
        generalize xs[k] = xk at hcx hd
        generalize ys[k] = yk at hcy hd
        have hx := xor8 o (fmul xk yk)
        obtain ⟨r, hr⟩ : ∃ r, r = o ^^^ fmul xk yk := ⟨_, rfl⟩
        rw [← hr] at hx
        have HR := Lib.hid hr
        have HD := Lib.hid hd
        clear hr hd hcc hcc2
        go_wp2_with fail
        have hcx1 : wr.drew.cell? (ad.add k) = some (cb xk) := hcx
        have hcy1 : wr.drew.cell? (ad2.add k) = some (cb yk) := hcy
        have hbd : Below w.heap.size w wr.drew := hbe.drew
        clear hcx hcy ha2 hb2 hbe
        refine startE (none) (by kernel_rfl) ?_
        refine takeE 0 rfl (by kernel_rfl) (by kernel_rfl) (by kernel_rfl) (fun _ _ _ h => h) rfl (v := ?_) ?_ ?_
        rotate_left
        · intro w' hw'; clear hw'; go_simp; (try with_reducible rfl)
        (try simp only [Act.put, List.setIfInBounds_toArray, List.set_cons_zero, List.set_cons_succ])
        refine takeE 1 rfl (by kernel_rfl) (by kernel_rfl) (by kernel_rfl) (fun _ _ _ h => h) rfl (v := ?_) ?_ ?_
        rotate_left
        · intro w' hw'; clear hw'; go_simp; (try with_reducible rfl)
        (try simp only [Act.put, List.setIfInBounds_toArray, List.set_cons_zero, List.set_cons_succ])
        refine takeE 2 rfl (by kernel_rfl) (by kernel_rfl) (by kernel_rfl) (fun _ _ _ h => h) rfl (v := ?_) ?_ ?_
        rotate_left
        · intro w' hw'; clear hw'; go_simp; (try with_reducible rfl)
        (try simp only [Act.put, List.setIfInBounds_toArray, List.set_cons_zero, List.set_cons_succ])
        refine takeE 3 rfl (by kernel_rfl) (by kernel_rfl) (by kernel_rfl) (fun _ _ _ h => h) rfl (v := ?_) ?_ ?_
        rotate_left
        · intro w' hw'; clear hw'; go_simp; (try with_reducible rfl)
        (try simp only [Act.put, List.setIfInBounds_toArray, List.set_cons_zero, List.set_cons_succ])
        refine takeE 4 rfl (by kernel_rfl) (by kernel_rfl) (by kernel_rfl) (fun _ _ _ h => h) rfl (v := ?_) ?_ ?_
        rotate_left
        · intro w' hw'; have h := cell_below (grown_none hw') hcx1; clear hw'; go_simp; (try with_reducible rfl)
        (try simp only [Act.put, List.setIfInBounds_toArray, List.set_cons_zero, List.set_cons_succ])
        refine takeE 5 rfl (by kernel_rfl) (by kernel_rfl) (by kernel_rfl) (fun _ _ _ h => h) rfl (v := ?_) ?_ ?_
        rotate_left
        · intro w' hw'; clear hw'; go_simp; (try with_reducible rfl)
        (try simp only [Act.put, List.setIfInBounds_toArray, List.set_cons_zero, List.set_cons_succ])
        refine takeE 6 rfl (by kernel_rfl) (by kernel_rfl) (by kernel_rfl) (fun _ _ _ h => h) rfl (v := ?_) ?_ ?_
        rotate_left
        · intro w' hw'; clear hw'; go_simp; (try with_reducible rfl)
        (try simp only [Act.put, List.setIfInBounds_toArray, List.set_cons_zero, List.set_cons_succ])
        refine takeE 7 rfl (by kernel_rfl) (by kernel_rfl) (by kernel_rfl) (fun _ _ _ h => h) rfl (v := ?_) ?_ ?_
        rotate_left
        · intro w' hw'; clear hw'; go_simp; (try with_reducible rfl)
        (try simp only [Act.put, List.setIfInBounds_toArray, List.set_cons_zero, List.set_cons_succ])
        refine takeE 8 rfl (by kernel_rfl) (by kernel_rfl) (by kernel_rfl) (fun _ _ _ h => h) rfl (v := ?_) ?_ ?_
        rotate_left
        · intro w' hw'; have h := cell_below (grown_none hw') hcy1; clear hw'; go_simp; (try with_reducible rfl)
        (try simp only [Act.put, List.setIfInBounds_toArray, List.set_cons_zero, List.set_cons_succ])
        refine stepE 9 rfl (by kernel_rfl) rfl (fun K hK => ?_)
        (go_simp; (with_reducible refine (RMul_f xk yk _).mono ?_); rintro e w1 ⟨rfl, hb1⟩; refine K_out hK hb1 ?_; clear K hK)
        (try simp only [Act.put, List.setIfInBounds_toArray, List.set_cons_zero, List.set_cons_succ])
        refine takeE 10 rfl (by kernel_rfl) (by kernel_rfl) (by kernel_rfl) (fun _ _ _ h => h) rfl (v := ?_) ?_ ?_
        rotate_left
        · intro w' hw'; clear hw'; go_simp; (try with_reducible rfl)
        (try simp only [Act.put, List.setIfInBounds_toArray, List.set_cons_zero, List.set_cons_succ])
        refine takeE 11 rfl (by kernel_rfl) (by kernel_rfl) (by kernel_rfl) (fun _ _ _ h => h) rfl (v := ?_) ?_ ?_
        rotate_left
        · intro w' hw'; clear hw'; go_simp; (try with_reducible rfl)
        (try simp only [Act.put, List.setIfInBounds_toArray, List.set_cons_zero, List.set_cons_succ])
        refine doneE (by kernel_rfl) ?_
        go_wp2
        go_roundw
        case rel => exact ⟨k + 1, r, by go_num, by omega, by go_num, by rw [← HO.out, HD.out, HR.out, UInt8.xor_assoc], below_two hbd hbd.size hb1⟩
        case measure => simp [intOf] <;> omega
      · obtain rfl : k = xs.length := by omega
        go_wp2
        go_ret2
        have := HO.out
        rw [List.drop_of_length_le (Nat.le_refl _), dotL, UInt8.xor_zero] at this
        · rw [← this]; exact ⟨rfl, hbe⟩
        · intros; simp_all
  · rw [if_neg hll, if_neg hll]
    have hli : ((xs.length : Int) != (ys.length : Int)) = true := by
      have : (xs.length : Int) ≠ (ys.length : Int) := by omega
      simpa using this
    clear hll
    go_enter Try.func32, Try.ntmps32
    go_wp2
    go_ret2
    exact ⟨rfl, Below.refl _ _⟩

/-- Behind j places of the inner loop. -/
theorem pb_finv_step (one at_ xi xk O U : UInt8) : fmul (fmul one (fdivV (at_ ^^^ xk) (xi ^^^ xk))) (fmul O (finv U)) = fmul one (fmul (fmul (at_ ^^^ xk) O) (finv (fmul (xi ^^^ xk) U))) := by
  have h : fdivV (at_ ^^^ xk) (xi ^^^ xk) = fmul (at_ ^^^ xk) (finv (xi ^^^ xk)) := by
    unfold fdivV
    split
    · rename_i h; rw [h, finv_zero, fmul_zero]
    · rfl
  rw [h, finv_mul, fmul_assoc, fmul_assoc, fmul_assoc]
  congr 2
  rw [← fmul_assoc, ← fmul_assoc, fmul_comm (finv (xi ^^^ xk)) O]

set_option maxHeartbeats 3200000 in
set_option maxRecDepth 100000 in
theorem RThrough_any (va vb : Value) (xs ys : List UInt8) (v : UInt8) (w : World) (ha : RB w va xs) (hb : RB w vb ys) (hl : xs.length ≤ 1000000000) (hl2 : ys.length ≤ 1000000000) :
    Calls Try.prog 57 #[va, vb, .int .u8 (v.toNat : Int)] w fun e w' => e = .returned (.tuple #[.int .u8 ((thV xs ys v).toNat : Int), .int .i64 (thE xs ys)]) ∧ Below w.heap.size w w' := by
  obtain ⟨A, c, rfl, hc⟩ := id ha.len
  obtain ⟨A2, c2, rfl, hc2⟩ := id hb.len
  by_cases h1 : xs.length = ys.length
  · by_cases h2 : xs.length = 0
    · have hn : thNone xs ys = true := by simp [thNone, h2]
      unfold thV thE
      rw [if_pos hn, if_pos hn]
      have h1b : ((xs.length : Int) != (ys.length : Int)) = false := by simp [h1]
      have h2b : ((xs.length : Int) == 0) = true := by simp [h2]
      clear h1 h2 hn
      go_enter Try.func57, Try.ntmps57
      go_wp2
      go_ret2
      exact ⟨rfl, Below.refl _ _⟩
    · by_cases h3 : 255 < xs.length
      · have hn : thNone xs ys = true := by simp [thNone, h3]
        unfold thV thE
        rw [if_pos hn, if_pos hn]
        have h1b : ((xs.length : Int) != (ys.length : Int)) = false := by simp [h1]
        have h2b : ((xs.length : Int) == 0) = false := by simpa using h2
        have h3' : (255 : Int) < (xs.length : Int) := by omega
        clear h1 h2 hn h3
        go_enter Try.func57, Try.ntmps57
        go_wp2
        go_ret2
        exact ⟨rfl, Below.refl _ _⟩
      · have hn : thNone xs ys = thBad xs 0 ys := by
          have e1 : (xs.length != ys.length) = false := by simp [h1]
          have e2 : (xs.length == 0) = false := by simpa using h2
          have e3 : decide (255 < xs.length) = false := decide_eq_false h3
          rw [thNone, e1, e2, e3]; rfl
        have h1b : ((xs.length : Int) != (ys.length : Int)) = false := by simp [h1]
        have h2b : ((xs.length : Int) == 0) = false := by simpa using h2
        have h3' : decide ((255 : Int) < (xs.length : Int)) = false := decide_eq_false (by omega)
        have h3c : (xs.length : Int) ≤ 255 := by omega
        have H1 := Lib.hid h1
        have HN := Lib.hid hn
        clear h1 h2 hn h3
        go_enter Try.func57, Try.ntmps57
        go_wp2
        go_loopw [8, 9] (fun v8 v9 wr => ∃ (k : Nat) (o : UInt8), v9 = .int .i64 (k : Int) ∧ k ≤ ys.length ∧ v8 = .int .u8 (o.toNat : Int) ∧ o ^^^ thSum xs v k (ys.drop k) = thSum xs v 0 ys ∧ thBad xs k (ys.drop k) = thBad xs 0 ys ∧ Below w.heap.size w wr) (fun _ i _ => ys.length - (intOf i).toNat)
        case atStart => exact ⟨0, 0, rfl, by omega, rfl, by rw [UInt8.zero_xor]; rfl, rfl, Below.refl _ _⟩
        case round =>
          obtain ⟨k, o, rfl, hk, rfl, ho, hbad, hbe⟩ := hrel
          have HO := Lib.hid ho
          have HBAD := Lib.hid hbad
          clear ho hbad
          by_cases h0 : k < ys.length
          · have hki2 : (k : Int) < (ys.length : Int) := by omega
            have hkx : k < xs.length := by have := H1.out; omega
            have hki : (k : Int) < (xs.length : Int) := by omega
            have hd := thSum_drop xs v ys k h0
            have hd2 := thBad_drop xs ys k h0
            have hb2 := hb.below hbe
            obtain ⟨ad2, rfl, hcc⟩ := hb2.at_ k h0
            have hcy := hcc 0 (cb ys[k]) (by simp [U8])
            simp only [show B8.sz = 1 from rfl, Nat.mul_one, Nat.add_zero] at hcy
            generalize ys[k] = yk at hcy hd
            obtain ⟨xi, hxi⟩ : ∃ z, z = xs.getD k 0 := ⟨_, rfl⟩
            rw [← hxi] at hd hd2
            have hgi : xs[k] = xi := by rw [hxi]; simp [hkx]
            have HXI := Lib.hid hgi
            have HD := Lib.hid hd
            have HD2 := Lib.hid hd2
            clear hd hd2 hcc hxi hgi
            go_wp2
            go_loopw [10, 11] (fun v10 v11 wr2 => ∃ (j : Nat) (one : UInt8), v11 = .int .i64 (j : Int) ∧ j ≤ xs.length ∧ v10 = .int .u8 (one.toNat : Int) ∧ fmul one (fmul (pb v k j (xs.drop j)) (finv (pb xi k j (xs.drop j)))) = fmul yk (fmul (pb v k 0 xs) (finv (pb xi k 0 xs))) ∧ (pb xi k j (xs.drop j) = 0 ↔ pb xi k 0 xs = 0) ∧ Below w.heap.size w wr2) (fun _ i _ => xs.length - (intOf i).toNat)
            case atStart => exact ⟨0, yk, rfl, by omega, rfl, rfl, Iff.rfl, hbe⟩
            case round =>
              obtain ⟨j, one, rfl, hj, rfl, hone, hz, hbe2⟩ := hrel
              have HONE := Lib.hid hone
              have HZ := Lib.hid hz
              clear hone hz hcy hb2 hbe
              by_cases h4 : j < xs.length
              · have hji : (j : Int) < (xs.length : Int) := by omega
                have hp := pb_drop v k j xs h4
                have hp2 := pb_drop xi k j xs h4
                have ha2 := ha.below hbe2
                obtain ⟨ad, rfl, hcc⟩ := ha2.at_ j h4
                have hcx := hcc 0 (cb xs[j]) (by simp [U8])
                obtain ⟨ad3, had3, hcc2⟩ := ha2.at_ k hkx
                obtain rfl : ad = ad3 := by simpa using had3
                have hci := hcc2 0 (cb xs[k]) (by simp [U8])
                simp only [show B8.sz = 1 from rfl, Nat.mul_one, Nat.add_zero] at hcx hci
                rw [HXI.out] at hci
                by_cases hjk : j = k
                · have hjb : ((k : Int) == (j : Int)) = true := by simp [hjk]
                  rw [if_pos hjk, one_fmul] at hp hp2
                  have HP := Lib.hid hp
                  have HP2 := Lib.hid hp2
                  clear hp hp2 hcc hcc2 had3 hjk hcx hci
                  go_wp2
                  go_roundw
                  case rel => exact ⟨j + 1, one, by go_num, by omega, by go_num, by rw [← HONE.out, HP.out, HP2.out], by rw [← HP2.out]; exact HZ.out, hbe2⟩
                  case measure => simp [intOf] <;> omega
                · have hjb : ((k : Int) == (j : Int)) = false := by
                    have : (k : Int) ≠ (j : Int) := by omega
                    simpa using this
                  rw [if_neg hjk] at hp hp2
                  generalize xs[j] = xj at hcx hp hp2
                  have hx := xor8 v xj
                  have hx2 := xor8 xi xj
                  obtain ⟨r, hr⟩ : ∃ r, r = v ^^^ xj := ⟨_, rfl⟩
                  obtain ⟨r2, hr2⟩ : ∃ r, r = xi ^^^ xj := ⟨_, rfl⟩
                  rw [← hr] at hx
                  rw [← hr2] at hx2
                  have hR := fun one O U => pb_finv_step one v xi xj O U
                  rw [← hr, ← hr2] at hR
                  rw [← hr] at hp
                  rw [← hr2] at hp2
                  have cd := fun W => RDiv_any r r2 W
                  obtain ⟨q, hq⟩ : ∃ q, q = fdivV r r2 := ⟨_, rfl⟩
                  rw [← hq] at cd hR
                  unfold fdivE at cd
                  have HP := Lib.hid hp
                  have HP2 := Lib.hid hp2
                  have HR := Lib.hid hR
                  have hcx1 : wr.drew.cell? (ad.add j) = some (cb xj) := hcx
                  have hci1 : wr.drew.cell? (ad.add k) = some (cb xi) := hci
                  have hbd : Below w.heap.size w wr.drew := hbe2.drew
                  clear hp hp2 hR hcc hcc2 had3 hjk hcx hci hr hr2 hq hbe2 ha2
                  by_cases hu : r2 = 0
                  · rw [if_pos hu] at cd
                    have HU := Lib.hid hu
                    clear hu
                    go_wp2_with fail
                    refine startE (none) (by kernel_rfl) ?_
                    refine takeE 0 rfl (by kernel_rfl) (by kernel_rfl) (by kernel_rfl) (fun _ _ _ h => h) rfl (v := ?_) ?_ ?_
                    rotate_left
                    · intro w' hw'; clear hw'; go_simp; (try with_reducible rfl)
                    (try simp only [Act.put, List.setIfInBounds_toArray, List.set_cons_zero, List.set_cons_succ])
                    refine takeE 1 rfl (by kernel_rfl) (by kernel_rfl) (by kernel_rfl) (fun _ _ _ h => h) rfl (v := ?_) ?_ ?_
                    rotate_left
                    · intro w' hw'; clear hw'; go_simp; (try with_reducible rfl)
                    (try simp only [Act.put, List.setIfInBounds_toArray, List.set_cons_zero, List.set_cons_succ])
                    refine takeE 2 rfl (by kernel_rfl) (by kernel_rfl) (by kernel_rfl) (fun _ _ _ h => h) rfl (v := ?_) ?_ ?_
                    rotate_left
                    · intro w' hw'; clear hw'; go_simp; (try with_reducible rfl)
                    (try simp only [Act.put, List.setIfInBounds_toArray, List.set_cons_zero, List.set_cons_succ])
                    refine takeE 3 rfl (by kernel_rfl) (by kernel_rfl) (by kernel_rfl) (fun _ _ _ h => h) rfl (v := ?_) ?_ ?_
                    rotate_left
                    · intro w' hw'; clear hw'; go_simp; (try with_reducible rfl)
                    (try simp only [Act.put, List.setIfInBounds_toArray, List.set_cons_zero, List.set_cons_succ])
                    refine takeE 4 rfl (by kernel_rfl) (by kernel_rfl) (by kernel_rfl) (fun _ _ _ h => h) rfl (v := ?_) ?_ ?_
                    rotate_left
                    · intro w' hw'; have h := cell_below (grown_none hw') hcx1; clear hw'; go_simp; (try with_reducible rfl)
                    (try simp only [Act.put, List.setIfInBounds_toArray, List.set_cons_zero, List.set_cons_succ])
                    refine takeE 5 rfl (by kernel_rfl) (by kernel_rfl) (by kernel_rfl) (fun _ _ _ h => h) rfl (v := ?_) ?_ ?_
                    rotate_left
                    · intro w' hw'; clear hw'; go_simp; (try with_reducible rfl)
                    (try simp only [Act.put, List.setIfInBounds_toArray, List.set_cons_zero, List.set_cons_succ])
                    refine takeE 6 rfl (by kernel_rfl) (by kernel_rfl) (by kernel_rfl) (fun _ _ _ h => h) rfl (v := ?_) ?_ ?_
                    rotate_left
                    · intro w' hw'; clear hw'; go_simp; (try with_reducible rfl)
                    (try simp only [Act.put, List.setIfInBounds_toArray, List.set_cons_zero, List.set_cons_succ])
                    refine takeE 7 rfl (by kernel_rfl) (by kernel_rfl) (by kernel_rfl) (fun _ _ _ h => h) rfl (v := ?_) ?_ ?_
                    rotate_left
                    · intro w' hw'; clear hw'; go_simp; (try with_reducible rfl)
                    (try simp only [Act.put, List.setIfInBounds_toArray, List.set_cons_zero, List.set_cons_succ])
                    refine takeE 8 rfl (by kernel_rfl) (by kernel_rfl) (by kernel_rfl) (fun _ _ _ h => h) rfl (v := ?_) ?_ ?_
                    rotate_left
                    · intro w' hw'; clear hw'; go_simp; (try with_reducible rfl)
                    (try simp only [Act.put, List.setIfInBounds_toArray, List.set_cons_zero, List.set_cons_succ])
                    refine takeE 9 rfl (by kernel_rfl) (by kernel_rfl) (by kernel_rfl) (fun _ _ _ h => h) rfl (v := ?_) ?_ ?_
                    rotate_left
                    · intro w' hw'; have h := cell_below (grown_none hw') hci1; clear hw'; go_simp; (try with_reducible rfl)
                    (try simp only [Act.put, List.setIfInBounds_toArray, List.set_cons_zero, List.set_cons_succ])
                    refine takeE 10 rfl (by kernel_rfl) (by kernel_rfl) (by kernel_rfl) (fun _ _ _ h => h) rfl (v := ?_) ?_ ?_
                    rotate_left
                    · intro w' hw'; clear hw'; go_simp; (try with_reducible rfl)
                    (try simp only [Act.put, List.setIfInBounds_toArray, List.set_cons_zero, List.set_cons_succ])
                    refine takeE 11 rfl (by kernel_rfl) (by kernel_rfl) (by kernel_rfl) (fun _ _ _ h => h) rfl (v := ?_) ?_ ?_
                    rotate_left
                    · intro w' hw'; clear hw'; go_simp; (try with_reducible rfl)
                    (try simp only [Act.put, List.setIfInBounds_toArray, List.set_cons_zero, List.set_cons_succ])
                    refine takeE 12 rfl (by kernel_rfl) (by kernel_rfl) (by kernel_rfl) (fun _ _ _ h => h) rfl (v := ?_) ?_ ?_
                    rotate_left
                    · intro w' hw'; clear hw'; go_simp; (try with_reducible rfl)
                    (try simp only [Act.put, List.setIfInBounds_toArray, List.set_cons_zero, List.set_cons_succ])
                    refine takeE 13 rfl (by kernel_rfl) (by kernel_rfl) (by kernel_rfl) (fun _ _ _ h => h) rfl (v := ?_) ?_ ?_
                    rotate_left
                    · intro w' hw'; have h := cell_below (grown_none hw') hcx1; clear hw'; go_simp; (try with_reducible rfl)
                    (try simp only [Act.put, List.setIfInBounds_toArray, List.set_cons_zero, List.set_cons_succ])
                    refine takeE 14 rfl (by kernel_rfl) (by kernel_rfl) (by kernel_rfl) (fun _ _ _ h => h) rfl (v := ?_) ?_ ?_
                    rotate_left
                    · intro w' hw'; clear hw'; go_simp; (try with_reducible rfl)
                    (try simp only [Act.put, List.setIfInBounds_toArray, List.set_cons_zero, List.set_cons_succ])
                    refine stepE 15 rfl (by kernel_rfl) rfl (fun K hK => ?_)
                    (go_simp; (with_reducible refine (cd _).mono ?_); rintro e w1 ⟨rfl, hb1⟩; refine K_out hK hb1 ?_; clear K hK)
                    (try simp only [Act.put, List.setIfInBounds_toArray, List.set_cons_zero, List.set_cons_succ])
                    refine takeE 16 rfl (by kernel_rfl) (by kernel_rfl) (by kernel_rfl) (fun _ _ _ h => h) rfl (v := ?_) ?_ ?_
                    rotate_left
                    · intro w' hw'; clear hw'; go_simp; (try with_reducible rfl)
                    (try simp only [Act.put, List.setIfInBounds_toArray, List.set_cons_zero, List.set_cons_succ])
                    refine takeE 17 rfl (by kernel_rfl) (by kernel_rfl) (by kernel_rfl) (fun _ _ _ h => h) rfl (v := ?_) ?_ ?_
                    rotate_left
                    · intro w' hw'; clear hw'; go_simp; (try with_reducible rfl)
                    (try simp only [Act.put, List.setIfInBounds_toArray, List.set_cons_zero, List.set_cons_succ])
                    refine takeE 18 rfl (by kernel_rfl) (by kernel_rfl) (by kernel_rfl) (fun _ _ _ h => h) rfl (v := ?_) ?_ ?_
                    rotate_left
                    · intro w' hw'; clear hw'; go_simp; (try with_reducible rfl)
                    (try simp only [Act.put, List.setIfInBounds_toArray, List.set_cons_zero, List.set_cons_succ])
                    refine takeE 19 rfl (by kernel_rfl) (by kernel_rfl) (by kernel_rfl) (fun _ _ _ h => h) rfl (v := ?_) ?_ ?_
                    rotate_left
                    · intro w' hw'; clear hw'; go_simp; (try with_reducible rfl)
                    (try simp only [Act.put, List.setIfInBounds_toArray, List.set_cons_zero, List.set_cons_succ])
                    refine takeE 20 rfl (by kernel_rfl) (by kernel_rfl) (by kernel_rfl) (fun _ _ _ h => h) rfl (v := ?_) ?_ ?_
                    rotate_left
                    · intro w' hw'; clear hw'; go_simp; (try with_reducible rfl)
                    (try simp only [Act.put, List.setIfInBounds_toArray, List.set_cons_zero, List.set_cons_succ])
                    refine doneE (by kernel_rfl) ?_
                    go_wp2
                    go_ret2
                    have hU0 : pb xi k 0 xs = 0 := HZ.out.mp (by rw [HP2.out, HU.out, zero_fmul])
                    have hn : thNone xs ys = true := by rw [HN.out, ← HBAD.out, HD2.out, hU0]; rfl
                    unfold thV thE
                    rw [if_pos hn, if_pos hn]
                    exact ⟨rfl, below_two hbd hbd.size hb1⟩
                  · rw [if_neg hu] at cd
                    have HU := Lib.hid hu
                    clear hu
                    go_wp2_with fail
                    refine startE (none) (by kernel_rfl) ?_
                    refine takeE 0 rfl (by kernel_rfl) (by kernel_rfl) (by kernel_rfl) (fun _ _ _ h => h) rfl (v := ?_) ?_ ?_
                    rotate_left
                    · intro w' hw'; clear hw'; go_simp; (try with_reducible rfl)
                    (try simp only [Act.put, List.setIfInBounds_toArray, List.set_cons_zero, List.set_cons_succ])
                    refine takeE 1 rfl (by kernel_rfl) (by kernel_rfl) (by kernel_rfl) (fun _ _ _ h => h) rfl (v := ?_) ?_ ?_
                    rotate_left
                    · intro w' hw'; clear hw'; go_simp; (try with_reducible rfl)
                    (try simp only [Act.put, List.setIfInBounds_toArray, List.set_cons_zero, List.set_cons_succ])
                    refine takeE 2 rfl (by kernel_rfl) (by kernel_rfl) (by kernel_rfl) (fun _ _ _ h => h) rfl (v := ?_) ?_ ?_
                    rotate_left
                    · intro w' hw'; clear hw'; go_simp; (try with_reducible rfl)
                    (try simp only [Act.put, List.setIfInBounds_toArray, List.set_cons_zero, List.set_cons_succ])
                    refine takeE 3 rfl (by kernel_rfl) (by kernel_rfl) (by kernel_rfl) (fun _ _ _ h => h) rfl (v := ?_) ?_ ?_
                    rotate_left
                    · intro w' hw'; clear hw'; go_simp; (try with_reducible rfl)
                    (try simp only [Act.put, List.setIfInBounds_toArray, List.set_cons_zero, List.set_cons_succ])
                    refine takeE 4 rfl (by kernel_rfl) (by kernel_rfl) (by kernel_rfl) (fun _ _ _ h => h) rfl (v := ?_) ?_ ?_
                    rotate_left
                    · intro w' hw'; have h := cell_below (grown_none hw') hcx1; clear hw'; go_simp; (try with_reducible rfl)
                    (try simp only [Act.put, List.setIfInBounds_toArray, List.set_cons_zero, List.set_cons_succ])
                    refine takeE 5 rfl (by kernel_rfl) (by kernel_rfl) (by kernel_rfl) (fun _ _ _ h => h) rfl (v := ?_) ?_ ?_
                    rotate_left
                    · intro w' hw'; clear hw'; go_simp; (try with_reducible rfl)
                    (try simp only [Act.put, List.setIfInBounds_toArray, List.set_cons_zero, List.set_cons_succ])
                    refine takeE 6 rfl (by kernel_rfl) (by kernel_rfl) (by kernel_rfl) (fun _ _ _ h => h) rfl (v := ?_) ?_ ?_
                    rotate_left
                    · intro w' hw'; clear hw'; go_simp; (try with_reducible rfl)
                    (try simp only [Act.put, List.setIfInBounds_toArray, List.set_cons_zero, List.set_cons_succ])
                    refine takeE 7 rfl (by kernel_rfl) (by kernel_rfl) (by kernel_rfl) (fun _ _ _ h => h) rfl (v := ?_) ?_ ?_
                    rotate_left
                    · intro w' hw'; clear hw'; go_simp; (try with_reducible rfl)
                    (try simp only [Act.put, List.setIfInBounds_toArray, List.set_cons_zero, List.set_cons_succ])
                    refine takeE 8 rfl (by kernel_rfl) (by kernel_rfl) (by kernel_rfl) (fun _ _ _ h => h) rfl (v := ?_) ?_ ?_
                    rotate_left
                    · intro w' hw'; clear hw'; go_simp; (try with_reducible rfl)
                    (try simp only [Act.put, List.setIfInBounds_toArray, List.set_cons_zero, List.set_cons_succ])
                    refine takeE 9 rfl (by kernel_rfl) (by kernel_rfl) (by kernel_rfl) (fun _ _ _ h => h) rfl (v := ?_) ?_ ?_
                    rotate_left
                    · intro w' hw'; have h := cell_below (grown_none hw') hci1; clear hw'; go_simp; (try with_reducible rfl)
                    (try simp only [Act.put, List.setIfInBounds_toArray, List.set_cons_zero, List.set_cons_succ])
                    refine takeE 10 rfl (by kernel_rfl) (by kernel_rfl) (by kernel_rfl) (fun _ _ _ h => h) rfl (v := ?_) ?_ ?_
                    rotate_left
                    · intro w' hw'; clear hw'; go_simp; (try with_reducible rfl)
                    (try simp only [Act.put, List.setIfInBounds_toArray, List.set_cons_zero, List.set_cons_succ])
                    refine takeE 11 rfl (by kernel_rfl) (by kernel_rfl) (by kernel_rfl) (fun _ _ _ h => h) rfl (v := ?_) ?_ ?_
                    rotate_left
                    · intro w' hw'; clear hw'; go_simp; (try with_reducible rfl)
                    (try simp only [Act.put, List.setIfInBounds_toArray, List.set_cons_zero, List.set_cons_succ])
                    refine takeE 12 rfl (by kernel_rfl) (by kernel_rfl) (by kernel_rfl) (fun _ _ _ h => h) rfl (v := ?_) ?_ ?_
                    rotate_left
                    · intro w' hw'; clear hw'; go_simp; (try with_reducible rfl)
                    (try simp only [Act.put, List.setIfInBounds_toArray, List.set_cons_zero, List.set_cons_succ])
                    refine takeE 13 rfl (by kernel_rfl) (by kernel_rfl) (by kernel_rfl) (fun _ _ _ h => h) rfl (v := ?_) ?_ ?_
                    rotate_left
                    · intro w' hw'; have h := cell_below (grown_none hw') hcx1; clear hw'; go_simp; (try with_reducible rfl)
                    (try simp only [Act.put, List.setIfInBounds_toArray, List.set_cons_zero, List.set_cons_succ])
                    refine takeE 14 rfl (by kernel_rfl) (by kernel_rfl) (by kernel_rfl) (fun _ _ _ h => h) rfl (v := ?_) ?_ ?_
                    rotate_left
                    · intro w' hw'; clear hw'; go_simp; (try with_reducible rfl)
                    (try simp only [Act.put, List.setIfInBounds_toArray, List.set_cons_zero, List.set_cons_succ])
                    refine stepE 15 rfl (by kernel_rfl) rfl (fun K hK => ?_)
                    (go_simp; (with_reducible refine (cd _).mono ?_); rintro e w1 ⟨rfl, hb1⟩; refine K_out hK hb1 ?_; clear K hK)
                    (try simp only [Act.put, List.setIfInBounds_toArray, List.set_cons_zero, List.set_cons_succ])
                    refine takeE 16 rfl (by kernel_rfl) (by kernel_rfl) (by kernel_rfl) (fun _ _ _ h => h) rfl (v := ?_) ?_ ?_
                    rotate_left
                    · intro w' hw'; clear hw'; go_simp; (try with_reducible rfl)
                    (try simp only [Act.put, List.setIfInBounds_toArray, List.set_cons_zero, List.set_cons_succ])
                    refine takeE 17 rfl (by kernel_rfl) (by kernel_rfl) (by kernel_rfl) (fun _ _ _ h => h) rfl (v := ?_) ?_ ?_
                    rotate_left
                    · intro w' hw'; clear hw'; go_simp; (try with_reducible rfl)
                    (try simp only [Act.put, List.setIfInBounds_toArray, List.set_cons_zero, List.set_cons_succ])
                    refine takeE 18 rfl (by kernel_rfl) (by kernel_rfl) (by kernel_rfl) (fun _ _ _ h => h) rfl (v := ?_) ?_ ?_
                    rotate_left
                    · intro w' hw'; clear hw'; go_simp; (try with_reducible rfl)
                    (try simp only [Act.put, List.setIfInBounds_toArray, List.set_cons_zero, List.set_cons_succ])
                    refine takeE 19 rfl (by kernel_rfl) (by kernel_rfl) (by kernel_rfl) (fun _ _ _ h => h) rfl (v := ?_) ?_ ?_
                    rotate_left
                    · intro w' hw'; clear hw'; go_simp; (try with_reducible rfl)
                    (try simp only [Act.put, List.setIfInBounds_toArray, List.set_cons_zero, List.set_cons_succ])
                    refine takeE 20 rfl (by kernel_rfl) (by kernel_rfl) (by kernel_rfl) (fun _ _ _ h => h) rfl (v := ?_) ?_ ?_
                    rotate_left
                    · intro w' hw'; clear hw'; go_simp; (try with_reducible rfl)
                    (try simp only [Act.put, List.setIfInBounds_toArray, List.set_cons_zero, List.set_cons_succ])
                    refine doneE (by kernel_rfl) ?_
                    go_wp2_with (first | (go_at_call 29; (with_reducible refine (RMul_f one q _).mono ?_); rintro e w2 ⟨rfl, hb2⟩))
                    go_roundw
                    case rel =>
                      have hb3 := below_two (below_two hbd hbd.size hb1) (Nat.le_trans hbd.size hb1.size) hb2
                      refine ⟨j + 1, fmul one q, by go_num, by omega, by go_num, ?_, ?_, hb3⟩
                      · rw [← HONE.out, HP.out, HP2.out, HR.out]
                      · rw [← HZ.out, HP2.out, fmul_eq_zero]
                        constructor
                        · exact fun h => .inr h
                        · rintro (h | h)
                          · exact absurd h HU.out
                          · exact h
                    case measure => simp [intOf] <;> omega
              · obtain rfl : j = xs.length := by omega
                have h5 := HONE.out
                have h6 := HZ.out
                rw [List.drop_of_length_le (Nat.le_refl _)] at h5 h6
                rw [pb, pb, finv_one, fmul_one, fmul_one] at h5
                rw [pb] at h6
                have hU : pb xi k 0 xs ≠ 0 := fun e => absurd (h6.mpr e) (by decide)
                have hx := xor8 o one
                obtain ⟨r, hr⟩ : ∃ r, r = o ^^^ one := ⟨_, rfl⟩
                rw [← hr] at hx
                have HR := Lib.hid hr
                have H5 := Lib.hid h5
                have HUU := Lib.hid hU
                clear h5 h6 hU hr
                go_wp2
                refine ⟨⟨k + 1, r, by go_num, by omega, by go_num, ?_, ?_, hbe2⟩, by simp [intOf] <;> omega⟩
                · rw [← HO.out, HD.out, HR.out, H5.out, UInt8.xor_assoc]
                  congr 3
                  rw [fdivV, if_neg HUU.out]
                · have : (pb xi k 0 xs == 0) = false := by simpa using HUU.out
                  rw [← HBAD.out, HD2.out, this]; rfl
          · obtain rfl : k = ys.length := by omega
            have hki : (xs.length : Int) ≤ (ys.length : Int) := by have := H1.out; omega
            go_wp2
            go_ret2
            have h1 := HO.out
            have h2 := HBAD.out
            rw [List.drop_of_length_le (Nat.le_refl _)] at h1 h2
            rw [thSum, UInt8.xor_zero] at h1
            have hn : ¬ thNone xs ys = true := by rw [HN.out, ← h2]; simp [thBad]
            unfold thV thE
            rw [if_neg hn, if_neg hn, ← h1]
            exact ⟨rfl, hbe⟩
  · have hn : thNone xs ys = true := by simp [thNone, h1]
    unfold thV thE
    rw [if_pos hn, if_pos hn]
    have h1b : ((xs.length : Int) != (ys.length : Int)) = true := by
      have : (xs.length : Int) ≠ (ys.length : Int) := by omega
      simpa using this
    clear h1 hn
    go_enter Try.func57, Try.ntmps57
    go_wp2
    go_ret2
    exact ⟨rfl, Below.refl _ _⟩
end Go.Proofs.Ythogefehainmdaa
