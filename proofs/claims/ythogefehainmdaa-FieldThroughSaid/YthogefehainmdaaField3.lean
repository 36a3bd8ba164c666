/- The package field: places. -/
import Derived.Test.YthogefehainmdaaField2
namespace Go.Proofs.Ythogefehainmdaa
open Go.RowKit

theorem pb_drop (v : UInt8) (i j : Nat) (xs : List UInt8) (h : j < xs.length) : pb v i j (xs.drop j) = fmul (if j = i then 1 else v ^^^ xs[j]) (pb v i (j + 1) (xs.drop (j + 1))) := by
  rw [List.drop_eq_getElem_cons h, pb]

set_option maxHeartbeats 1600000 in
set_option maxRecDepth 100000 in
theorem between_any (va : Value) (xs : List UInt8) (i : Nat) (at_ : UInt8) (w : World) (ha : RB w va xs) (hi : i < xs.length) (hl : xs.length ≤ 1000000000) :
    Calls Try.prog 63 #[va, .int .i64 (i : Int), .int .u8 (at_.toNat : Int)] w fun e w' => e = .returned (.tuple #[.int .u8 ((pb at_ i 0 xs).toNat : Int), .int .u8 ((pb (xs.getD i 0) i 0 xs).toNat : Int)]) ∧ Below w.heap.size w w' := by
  obtain ⟨A, c, rfl, hc⟩ := ha.len
  obtain ⟨xi, hxi⟩ : ∃ z, z = xs.getD i 0 := ⟨_, rfl⟩
  rw [← hxi]
  have HXI := Lib.hid hxi
  clear hxi
  go_enter Try.func63, Try.ntmps63
  go_wp2
  go_loopw [8, 9, 14] (fun v8 v9 v14 wr => ∃ (k : Nat) (o u : UInt8), v14 = .int .i64 (k : Int) ∧ k ≤ xs.length ∧ v8 = .int .u8 (o.toNat : Int) ∧ v9 = .int .u8 (u.toNat : Int) ∧ fmul o (pb at_ i k (xs.drop k)) = pb at_ i 0 xs ∧ fmul u (pb xi i k (xs.drop k)) = pb xi i 0 xs ∧ Below w.heap.size w wr) (fun _ _ i _ => xs.length - (intOf i).toNat)
  case atStart => exact ⟨0, 1, 1, rfl, by omega, rfl, rfl, by rw [one_fmul]; rfl, by rw [one_fmul]; rfl, Below.refl _ _⟩
  case round =>
    obtain ⟨k, o, u, rfl, hk, rfl, rfl, ho, hu, hb⟩ := hrel
    have HO := Lib.hid ho
    have HU := Lib.hid hu
    clear ho hu
    by_cases h0 : k < xs.length
    · have hki : (k : Int) < (xs.length : Int) := by omega
      have hd := pb_drop at_ i k xs h0
      have hd2 := pb_drop xi i k xs h0
      have ha2 := ha.below hb
      obtain ⟨ad, rfl, hcc⟩ := ha2.at_ k h0
      have hcx := hcc 0 (cb xs[k]) (by simp [U8])
      obtain ⟨ad2, had2, hcc2⟩ := ha2.at_ i hi
      obtain rfl : ad2 = ad := by simpa using had2.symm
      have hci := hcc2 0 (cb xs[i]) (by simp [U8])
      have hgi : xs[i] = xi := by rw [HXI.out]; simp [hi]
      simp only [show B8.sz = 1 from rfl, Nat.mul_one, Nat.add_zero] at hcx hci
      rw [hgi] at hci
      by_cases hki2 : k = i
      · subst hki2
        rw [if_pos rfl, one_fmul] at hd hd2
        have HD := Lib.hid hd
        have HD2 := Lib.hid hd2
        clear hd hd2 hcc hcc2 had2 hgi
        generalize xs[k] = xk at hcx hci
        go_wp2
        go_roundw
        case rel => exact ⟨k + 1, o, u, by go_num, by omega, by go_num, by go_num, by rw [← HO.out, HD.out], by rw [← HU.out, HD2.out], hb⟩
        case measure => simp [intOf] <;> omega
      · rw [if_neg hki2] at hd hd2
        have hne : ((k : Int) != (i : Int)) = true := by
          have : (k : Int) ≠ (i : Int) := by omega
          simpa using this
        have hii : (i : Int) < (xs.length : Int) := by omega
        generalize xs[k] = xk at hcx hd hd2
        have hx := xor8 at_ xk
        have hx2 := xor8 xi xk
        obtain ⟨r, hr⟩ : ∃ r, r = at_ ^^^ xk := ⟨_, rfl⟩
        obtain ⟨r2, hr2⟩ : ∃ r, r = xi ^^^ xk := ⟨_, rfl⟩
        rw [← hr] at hx hd
        rw [← hr2] at hx2 hd2
        have HD := Lib.hid hd
        have HD2 := Lib.hid hd2
        clear hd hd2 hcc hcc2 had2 hgi hr hr2 hki2
        go_wp2_with fail
        (refine wp_region_still_lit (by kernel_rfl) (by kernel_rfl) ?_; (repeat (first | still_step | still_call (FMul_any _ _ _))); refine wpStill_nil ?_)
        go_wp2
        go_roundw
        case rel => exact ⟨k + 1, fmul o r, fmul u r2, by go_num, by omega, by go_num, by go_num, by rw [← HO.out, HD.out, fmul_assoc], by rw [← HU.out, HD2.out, fmul_assoc], hb.drew⟩
        case measure => simp [intOf] <;> omega
    · obtain rfl : k = xs.length := by omega
      go_wp2
      go_ret2
      have h1 := HO.out
      have h2 := HU.out
      rw [List.drop_of_length_le (Nat.le_refl _), pb, fmul_one] at h1 h2
      rw [← h1, ← h2]
      exact ⟨rfl, hb⟩

theorem thBad_drop (xs ys : List UInt8) (k : Nat) (h : k < ys.length) : thBad xs k (ys.drop k) = ((pb (xs.getD k 0) k 0 xs == 0) || thBad xs (k + 1) (ys.drop (k + 1))) := by
  rw [List.drop_eq_getElem_cons h, thBad]
theorem thSum_drop (xs : List UInt8) (v : UInt8) (ys : List UInt8) (k : Nat) (h : k < ys.length) : thSum xs v k (ys.drop k) = fmul ys[k] (fdivV (pb v k 0 xs) (pb (xs.getD k 0) k 0 xs)) ^^^ thSum xs v (k + 1) (ys.drop (k + 1)) := by
  rw [List.drop_eq_getElem_cons h, thSum]
  congr 2
  unfold fdivV
  split
  · rename_i h; rw [h, finv, zero_fpow _ (by decide), fmul_zero]
  · rfl
/-- What is handed back where there is none, and where there is one. -/
def thNone (xs ys : List UInt8) : Bool := xs.length != ys.length || xs.length == 0 || decide (255 < xs.length) || thBad xs 0 ys
def thV (xs ys : List UInt8) (v : UInt8) : UInt8 := if thNone xs ys then 0 else thSum xs v 0 ys
def thE (xs ys : List UInt8) : Int := if thNone xs ys then 1 else 0

set_option maxHeartbeats 1600000 in
set_option maxRecDepth 100000 in
theorem FThrough_any (va vb : Value) (xs ys : List UInt8) (v : UInt8) (w : World) (ha : RB w va xs) (hb : RB w vb ys) (hl : xs.length ≤ 1000000000) (hl2 : ys.length ≤ 1000000000) :
    Calls Try.prog 56 #[va, vb, .int .u8 (v.toNat : Int)] w fun e w' => e = .returned (.tuple #[.int .u8 ((thV xs ys v).toNat : Int), .int .i64 (thE xs ys)]) ∧ Below w.heap.size w w' := by
  obtain ⟨A, c, rfl, hc⟩ := id ha.len
  obtain ⟨A2, c2, rfl, hc2⟩ := id hb.len
  by_cases h1 : xs.length = ys.length
  · by_cases h2 : xs.length = 0
    · have hn : thNone xs ys = true := by simp [thNone, h2]
      unfold thV thE
      rw [if_pos hn, if_pos hn]
      have h1b : ((xs.length : Int) != (ys.length : Int)) = false := by simp [h1]
      have h2b : ((xs.length : Int) == 0) = true := by simp [h2]
      clear h1 h2 hn
      go_enter Try.func56, Try.ntmps56
      go_wp2
      go_ret2
      exact ⟨rfl, Below.refl _ _⟩
    · by_cases h3 : 255 < xs.length
      · have hn : thNone xs ys = true := by simp [thNone, h3]
        unfold thV thE
        rw [if_pos hn, if_pos hn]
        have h1b : ((xs.length : Int) != (ys.length : Int)) = false := by simp [h1]
        have h2b : ((xs.length : Int) == 0) = false := by simpa using h2
        have h3' : (255 : Int) < (xs.length : Int) := by omega
        clear h1 h2 hn h3
        go_enter Try.func56, Try.ntmps56
        go_wp2
        go_ret2
        exact ⟨rfl, Below.refl _ _⟩
      · have hn : thNone xs ys = thBad xs 0 ys := by
          have e1 : (xs.length != ys.length) = false := by simp [h1]
          have e2 : (xs.length == 0) = false := by simpa using h2
          have e3 : decide (255 < xs.length) = false := decide_eq_false h3
          rw [thNone, e1, e2, e3]; rfl
        have h1b : ((xs.length : Int) != (ys.length : Int)) = false := by simp [h1]
        have h2b : ((xs.length : Int) == 0) = false := by simpa using h2
        have h3' : decide ((255 : Int) < (xs.length : Int)) = false := decide_eq_false (by omega)
        have h3c : (xs.length : Int) ≤ 255 := by omega
        have H1 := Lib.hid h1
        have HN := Lib.hid hn
        clear h1 h2 hn h3
        go_enter Try.func56, Try.ntmps56
        go_wp2
        go_loopw [8, 32] (fun v8 v32 wr => ∃ (k : Nat) (o : UInt8), v32 = .int .i64 (k : Int) ∧ k ≤ ys.length ∧ v8 = .int .u8 (o.toNat : Int) ∧ o ^^^ thSum xs v k (ys.drop k) = thSum xs v 0 ys ∧ thBad xs k (ys.drop k) = thBad xs 0 ys ∧ Below w.heap.size w wr) (fun _ i _ => ys.length - (intOf i).toNat)
        case atStart => exact ⟨0, 0, rfl, by omega, rfl, by rw [UInt8.zero_xor]; rfl, rfl, Below.refl _ _⟩
        case round =>
          obtain ⟨k, o, rfl, hk, rfl, ho, hbad, hbe⟩ := hrel
          have HO := Lib.hid ho
          have HBAD := Lib.hid hbad
          clear ho hbad
          by_cases h0 : k < ys.length
          · have hki : (k : Int) < (ys.length : Int) := by omega
            have hkx : k < xs.length := by have := H1.out; omega
            have hd := thSum_drop xs v ys k h0
            have hd2 := thBad_drop xs ys k h0
            have hb2 := hb.below hbe
            obtain ⟨ad, rfl, hcc⟩ := hb2.at_ k h0
            have hcy := hcc 0 (cb ys[k]) (by simp [U8])
            simp only [show B8.sz = 1 from rfl, Nat.mul_one, Nat.add_zero] at hcy
            generalize ys[k] = yk at hcy hd
            have cb1 := fun W (hW : Below w.heap.size w W) => between_any _ xs k v W (ha.below hW) hkx hl
            generalize pb v k 0 xs = ov at hd cb1
            generalize pb (xs.getD k 0) k 0 xs = un at hd hd2 cb1
            have cd := fun W => FDiv_any ov un W
            obtain ⟨q, hq⟩ : ∃ q, q = fdivV ov un := ⟨_, rfl⟩
            rw [← hq] at hd cd
            have hx := xor8 o (fmul yk q)
            obtain ⟨r, hr⟩ : ∃ r, r = o ^^^ fmul yk q := ⟨_, rfl⟩
            rw [← hr] at hx
            have HR := Lib.hid hr
            have HD := Lib.hid hd
            have HD2 := Lib.hid hd2
            have CB := Lib.hid cb1
            clear hr hd hd2 hcc hq cb1
            unfold fdivE at cd
            by_cases hu : un = 0
            · rw [if_pos hu] at cd
              have HU := Lib.hid hu
              clear hu
              go_wp2_with (first
                | (go_at_call 63; (with_reducible refine (CB.out _ hbe).mono ?_); rintro e w1 ⟨rfl, hb1⟩)
                | (go_at_call 27; (with_reducible refine (cd _).mono ?_); rintro e w2 ⟨rfl, rfl⟩))
              go_ret2
              have hn : thNone xs ys = true := by rw [HN.out, ← HBAD.out, HD2.out, HU.out]; rfl
              unfold thV thE
              rw [if_pos hn, if_pos hn]
              exact ⟨rfl, below_two hbe hbe.size hb1⟩
            · rw [if_neg hu] at cd
              have hu' : (un == 0) = false := by simpa using hu
              have HU := Lib.hid hu'
              clear hu hu'
              go_wp2_with (first
                | (go_at_call 63; (with_reducible refine (CB.out _ hbe).mono ?_); rintro e w1 ⟨rfl, hb1⟩)
                | (go_at_call 27; (with_reducible refine (cd _).mono ?_); rintro e w2 ⟨rfl, rfl⟩)
                | (go_at_call 16; (with_reducible refine (FMul_any _ _ _).mono ?_); rintro e w2 ⟨rfl, rfl⟩))
              go_roundw
              case rel => exact ⟨k + 1, r, by go_num, by omega, by go_num, by rw [← HO.out, HD.out, HR.out, UInt8.xor_assoc], by rw [← HBAD.out, HD2.out, HU.out]; rfl, below_two hbe hbe.size hb1⟩
              case measure => simp [intOf] <;> omega
          · obtain rfl : k = ys.length := by omega
            go_wp2
            go_ret2
            have h1 := HO.out
            have h2 := HBAD.out
            rw [List.drop_of_length_le (Nat.le_refl _)] at h1 h2
            rw [thSum, UInt8.xor_zero] at h1
            have hn : ¬ thNone xs ys = true := by rw [HN.out, ← h2]; simp [thBad]
            unfold thV thE
            rw [if_neg hn, if_neg hn, ← h1]
            exact ⟨rfl, hbe⟩
  · have hn : thNone xs ys = true := by simp [thNone, h1]
    unfold thV thE
    rw [if_pos hn, if_pos hn]
    have h1b : ((xs.length : Int) != (ys.length : Int)) = true := by
      have : (xs.length : Int) ≠ (ys.length : Int) := by omega
      simpa using this
    clear h1 hn
    go_enter Try.func56, Try.ntmps56
    go_wp2
    go_ret2
    exact ⟨rfl, Below.refl _ _⟩
end Go.Proofs.Ythogefehainmdaa
