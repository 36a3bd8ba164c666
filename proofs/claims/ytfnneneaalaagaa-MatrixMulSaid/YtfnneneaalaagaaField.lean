/- The package field: products, powers, quotients. -/
import Derived.Test.YtfnneneaalaagaaBase
import Derived.Test.YtfnneneaalaagaaBits
import Derived.Test.YtfnneneaalaagaaFieldLaw
import Derived.Test.YtfnneneaalaagaaNumLaw
namespace Go.Proofs.Ytfnneneaalaagaa
open Go.RowKit

theorem dbl_low (a : UInt8) (h : a.toNat < 128) : (a.toNat : Int) * 2 % 256 = ((dbl a).toNat : Int) := by
  have : ∀ n, n < 128 → n * 2 % 256 = (dbl (UInt8.ofNat n)).toNat := by decide +kernel
  have := this a.toNat h
  rw [UInt8.ofNat_toNat] at this
  rw [← this]; omega
theorem dbl_high (a : UInt8) (h : 128 ≤ a.toNat) : bits .xor .u8 ((a.toNat : Int) * 2 % 256) 29 = ((dbl a).toNat : Int) := by
  have : ∀ q : Fin 256, 128 ≤ q.val → bits .xor .u8 (((q.val : Nat) : Int) * 2 % 256) 29 = ((dbl (UInt8.ofNat q.val)).toNat : Int) := by decide +kernel
  have := this ⟨a.toNat, a.toNat_lt⟩ h
  simpa using this
theorem and1 (a : UInt8) : bits .and .u8 (a.toNat : Int) 1 = ((a.toNat % 2 : Nat) : Int) := by
  have : ∀ q : Fin 256, bits .and .u8 (((q.val : Nat) : Int)) 1 = ((q.val % 2 : Nat) : Int) := by decide +kernel
  exact this ⟨a.toNat, a.toNat_lt⟩

theorem double_any (a : UInt8) (w : World) : Calls Try.prog 82 #[.int .u8 (a.toNat : Int)] w fun e w' => e = .returned (cb (dbl a)) ∧ w' = w := by
  have h1 := and128 a
  by_cases h : a.toNat < 128
  · rw [if_pos h] at h1
    have h2 := dbl_low a h
    go_enter Try.func82, Try.ntmps82
    go_wp2
    go_ret
    exact ⟨by show Ending.returned (.int .u8 _) = _; congr 2; rw [← h2]; omega, rfl⟩
  · rw [if_neg h] at h1
    have h2 := dbl_high a (by omega)
    go_enter Try.func82, Try.ntmps82
    go_wp2
    go_ret
    exact ⟨by show Ending.returned (.int .u8 _) = _; rfl, rfl⟩

/-- A byte, halved so many times. -/
def hv (b : UInt8) : UInt8 := UInt8.ofNat (b.toNat / 2)
theorem hv_nat (b : UInt8) : (hv b).toNat = b.toNat / 2 := by
  unfold hv
  rw [UInt8.toNat_ofNat', Nat.mod_eq_of_lt]
  have := b.toNat_lt
  omega

set_option maxHeartbeats 400000 in
set_option maxRecDepth 100000 in
theorem FMul_any (a b : UInt8) (w : World) : Calls Try.prog 81 #[.int .u8 (a.toNat : Int), .int .u8 (b.toNat : Int)] w fun e w' => e = .returned (cb (fmul a b)) ∧ w' = w := by
  go_enter Try.func81, Try.ntmps81
  go_wp2
  go_loopw [0, 1, 5] (fun v0 v1 v5 wr => ∃ (k : Nat) (x y o : UInt8), v0 = .int .u8 (x.toNat : Int) ∧ v1 = .int .u8 (y.toNat : Int) ∧ v5 = .int .u8 (o.toNat : Int) ∧ wr = w ∧ y.toNat < 2 ^ k ∧ o ^^^ mulF k x y = fmul a b) (fun _ i _ _ => (intOf i).toNat)
  case atStart => exact ⟨8, a, b, 0, rfl, rfl, rfl, rfl, b.toNat_lt, by rw [UInt8.zero_xor]; rfl⟩
  case round =>
    obtain ⟨k, x, y, o, rfl, rfl, rfl, rfl, hk, hm⟩ := hrel
    have hand := and1 y
    have HM := Lib.hid hm
    clear hm
    by_cases h0 : y.toNat = 0
    · have h0' : (y.toNat : Int) = 0 := by omega
      go_wp2
      go_ret
      have hz : ∀ k x, mulF k x 0 = 0 := by
        intro k
        induction k with
        | zero => intro x; rfl
        | succ k ih => intro x; rw [mulF]; simp [ih]
      have hy : y = 0 := UInt8.toNat_inj.mp (by simpa using h0)
      have := HM.out
      rw [hy, hz, UInt8.xor_zero] at this
      rw [← this]
      exact ⟨rfl, rfl⟩
    · have h0' : (y.toNat : Int) ≠ 0 := by omega
      obtain ⟨k, rfl⟩ : ∃ j, k = j + 1 := ⟨k - 1, by cases k with | zero => simp at hk; omega | succ k => omega⟩
      have hn := hv_nat y
      have hd : (y.toNat : Int) / 2 = ((hv y).toNat : Int) := by rw [hn]; omega
      have hxor := xor8 o x
      obtain ⟨ox, hox⟩ : ∃ z, z = o ^^^ x := ⟨_, rfl⟩
      rw [← hox] at hxor
      have HOX := Lib.hid hox
      clear hox
      obtain ⟨hy, hhy⟩ : ∃ z, z = hv y := ⟨_, rfl⟩
      rw [← hhy] at hd hn
      have HHY := Lib.hid hhy
      have HN := Lib.hid hn
      clear hhy hn
      by_cases h1 : y.toNat % 2 = 1
      · have h1' : (y.toNat : Int) % 2 = 1 := by omega
        go_wp2_with (first | (go_at_call 82; (with_reducible refine (double_any _ _).mono ?_); rintro e w1 ⟨rfl, rfl⟩))
        go_roundw
        case rel => exact ⟨k, dbl x, hy, ox, by go_num, by go_num, by go_num, (by first | trivial | rfl), by have := HN.out; omega, by rw [← HM.out, mulF, if_pos h1, HOX.out, HHY.out, UInt8.xor_assoc]; rfl⟩
        case measure => have := HN.out; simp [intOf]; omega
      · have h1' : (y.toNat : Int) % 2 = 0 := by omega
        go_wp2_with (first | (go_at_call 82; (with_reducible refine (double_any _ _).mono ?_); rintro e w1 ⟨rfl, rfl⟩))
        go_roundw
        case rel => exact ⟨k, dbl x, hy, o, by go_num, by go_num, by go_num, (by first | trivial | rfl), by have := HN.out; omega, by rw [← HM.out, mulF, if_neg h1, HHY.out, UInt8.zero_xor]; rfl⟩
        case measure => have := HN.out; simp [intOf]; omega

theorem and1w (m : Nat) (h : W64 m) : bits .and .u64 (m : Int) 1 = ((m % 2 : Nat) : Int) := by
  rw [show (1 : Int) = ((1 : Nat) : Int) from rfl, (bits_nats .u64 rfl m 1 (by exact h) (by decide)).1, Nat.and_one_is_mod]
theorem fpow_half (x : UInt8) (m : Nat) : fpow x m = fmul (if m % 2 = 1 then x else 1) (fpow (fmul x x) (m / 2)) := by
  conv => lhs; rw [← Nat.div_add_mod m 2, fpow_add, fpow_mul, fpow_two, fmul_comm]
  congr 1
  rcases Nat.mod_two_eq_zero_or_one m with h | h <;> rw [h] <;> simp [fpow, one_fmul]

set_option maxHeartbeats 1600000 in
set_option maxRecDepth 100000 in
theorem FPow_any (a : UInt8) (n : Nat) (hn : W64 n) (w : World) : Calls Try.prog 73 #[.int .u8 (a.toNat : Int), .int .u64 (n : Int)] w fun e w' => e = .returned (cb (fpow a n)) ∧ w' = w := by
  have HN := Lib.hid hn
  clear hn
  by_cases h1 : 255 < n ∧ a ≠ 0
  · obtain ⟨h1, h2⟩ := h1
    have HM0 : Go.RowKit.Hid (W64 (n % 255)) := by have := HN.out; exact Lib.hid (show W64 (n % 255) by unfold W64 at this ⊢; omega)
    have HP0 : Go.RowKit.Hid (fpow a (n % 255) = fpow a n) := Lib.hid (fpow_mod a h2 n)
    have h1' : (255 : Int) < (n : Int) := by omega
    have h2' : (a.toNat : Int) ≠ 0 := fun e => h2 (UInt8.toNat_inj.mp (by simpa using e))
    have h2b : ((a.toNat : Int) != 0) = true := by simpa using h2'
    clear h2
    go_enter Try.func73, Try.ntmps73
    go_wp2
    go_loopw [0, 1, 5] (fun v0 v1 v5 wr => ∃ (m : Nat) (x o : UInt8), v0 = .int .u8 (x.toNat : Int) ∧ v1 = .int .u64 (m : Int) ∧ v5 = .int .u8 (o.toNat : Int) ∧ wr = w ∧ W64 m ∧ fmul o (fpow x m) = fpow a n) (fun _ i _ _ => (intOf i).toNat)
    case atStart => exact ⟨n % 255, a, 1, rfl, (by first | rfl | go_num), rfl, rfl, HM0.out, by rw [one_fmul]; exact HP0.out⟩
    case round =>
      obtain ⟨m, x, o, rfl, rfl, rfl, rfl, hm, hp⟩ := hrel
      have hand := and1w m hm
      have HP := Lib.hid hp
      have HM := Lib.hid hm
      clear hm hp
      by_cases h0 : m = 0
      · subst h0
        go_wp2
        go_ret
        have := HP.out
        rw [fpow, fmul_one] at this
        rw [← this]
        exact ⟨rfl, rfl⟩
      · have h0' : 0 < (m : Int) := by omega
        have hm2 : W64 (m / 2) := by have := HM.out; unfold W64 at this ⊢; omega
        have HM2 := Lib.hid hm2
        clear hm2
        by_cases h1 : m % 2 = 1
        · have h1' : (m : Int) % 2 = 1 := by omega
          have H1 := Lib.hid h1
          clear h1
          go_wp2_with (first | (go_at_call 81; (with_reducible refine (FMul_any _ _ _).mono ?_); rintro e w1 ⟨rfl, rfl⟩))
          go_roundw
          case rel => exact ⟨m / 2, fmul x x, fmul o x, by go_num, by go_num, by go_num, (by first | trivial | rfl), HM2.out, by rw [← HP.out, fpow_half x m, if_pos H1.out, fmul_assoc]⟩
          case measure => simp [intOf]; omega
        · have h1' : (m : Int) % 2 = 0 := by omega
          have H1 := Lib.hid h1
          clear h1
          go_wp2_with (first | (go_at_call 81; (with_reducible refine (FMul_any _ _ _).mono ?_); rintro e w1 ⟨rfl, rfl⟩))
          go_roundw
          case rel => exact ⟨m / 2, fmul x x, o, by go_num, by go_num, by go_num, (by first | trivial | rfl), HM2.out, by rw [← HP.out, fpow_half x m, if_neg H1.out, one_fmul]⟩
          case measure => simp [intOf]; omega
  · have HM0 := HN
    by_cases h2 : 255 < n
    · have h1' : (255 : Int) < (n : Int) := by omega
      have hbf : ((a.toNat : Int) != 0) = false := by
        have h3 : a = 0 := Classical.byContradiction fun h => h1 ⟨h2, h⟩
        rw [h3]; rfl
      clear h1
      go_enter Try.func73, Try.ntmps73
      go_wp2
      go_loopw [0, 1, 5] (fun v0 v1 v5 wr => ∃ (m : Nat) (x o : UInt8), v0 = .int .u8 (x.toNat : Int) ∧ v1 = .int .u64 (m : Int) ∧ v5 = .int .u8 (o.toNat : Int) ∧ wr = w ∧ W64 m ∧ fmul o (fpow x m) = fpow a n) (fun _ i _ _ => (intOf i).toNat)
      case atStart => exact ⟨n, a, 1, rfl, (by first | rfl | go_num), rfl, rfl, HM0.out, by rw [one_fmul]⟩
      case round =>
        obtain ⟨m, x, o, rfl, rfl, rfl, rfl, hm, hp⟩ := hrel
        have hand := and1w m hm
        have HP := Lib.hid hp
        have HM := Lib.hid hm
        clear hm hp
        by_cases h0 : m = 0
        · subst h0
          go_wp2
          go_ret
          have := HP.out
          rw [fpow, fmul_one] at this
          rw [← this]
          exact ⟨rfl, rfl⟩
        · have h0' : 0 < (m : Int) := by omega
          have hm2 : W64 (m / 2) := by have := HM.out; unfold W64 at this ⊢; omega
          have HM2 := Lib.hid hm2
          clear hm2
          by_cases h1 : m % 2 = 1
          · have h1' : (m : Int) % 2 = 1 := by omega
            have H1 := Lib.hid h1
            clear h1
            go_wp2_with (first | (go_at_call 81; (with_reducible refine (FMul_any _ _ _).mono ?_); rintro e w1 ⟨rfl, rfl⟩))
            go_roundw
            case rel => exact ⟨m / 2, fmul x x, fmul o x, by go_num, by go_num, by go_num, (by first | trivial | rfl), HM2.out, by rw [← HP.out, fpow_half x m, if_pos H1.out, fmul_assoc]⟩
            case measure => simp [intOf]; omega
          · have h1' : (m : Int) % 2 = 0 := by omega
            have H1 := Lib.hid h1
            clear h1
            go_wp2_with (first | (go_at_call 81; (with_reducible refine (FMul_any _ _ _).mono ?_); rintro e w1 ⟨rfl, rfl⟩))
            go_roundw
            case rel => exact ⟨m / 2, fmul x x, o, by go_num, by go_num, by go_num, (by first | trivial | rfl), HM2.out, by rw [← HP.out, fpow_half x m, if_neg H1.out, one_fmul]⟩
            case measure => simp [intOf]; omega
    · have h1' : (n : Int) ≤ 255 := by omega
      clear h1
      go_enter Try.func73, Try.ntmps73
      go_wp2
      go_loopw [0, 1, 5] (fun v0 v1 v5 wr => ∃ (m : Nat) (x o : UInt8), v0 = .int .u8 (x.toNat : Int) ∧ v1 = .int .u64 (m : Int) ∧ v5 = .int .u8 (o.toNat : Int) ∧ wr = w ∧ W64 m ∧ fmul o (fpow x m) = fpow a n) (fun _ i _ _ => (intOf i).toNat)
      case atStart => exact ⟨n, a, 1, rfl, (by first | rfl | go_num), rfl, rfl, HM0.out, by rw [one_fmul]⟩
      case round =>
        obtain ⟨m, x, o, rfl, rfl, rfl, rfl, hm, hp⟩ := hrel
        have hand := and1w m hm
        have HP := Lib.hid hp
        have HM := Lib.hid hm
        clear hm hp
        by_cases h0 : m = 0
        · subst h0
          go_wp2
          go_ret
          have := HP.out
          rw [fpow, fmul_one] at this
          rw [← this]
          exact ⟨rfl, rfl⟩
        · have h0' : 0 < (m : Int) := by omega
          have hm2 : W64 (m / 2) := by have := HM.out; unfold W64 at this ⊢; omega
          have HM2 := Lib.hid hm2
          clear hm2
          by_cases h1 : m % 2 = 1
          · have h1' : (m : Int) % 2 = 1 := by omega
            have H1 := Lib.hid h1
            clear h1
            go_wp2_with (first | (go_at_call 81; (with_reducible refine (FMul_any _ _ _).mono ?_); rintro e w1 ⟨rfl, rfl⟩))
            go_roundw
            case rel => exact ⟨m / 2, fmul x x, fmul o x, by go_num, by go_num, by go_num, (by first | trivial | rfl), HM2.out, by rw [← HP.out, fpow_half x m, if_pos H1.out, fmul_assoc]⟩
            case measure => simp [intOf]; omega
          · have h1' : (m : Int) % 2 = 0 := by omega
            have H1 := Lib.hid h1
            clear h1
            go_wp2_with (first | (go_at_call 81; (with_reducible refine (FMul_any _ _ _).mono ?_); rintro e w1 ⟨rfl, rfl⟩))
            go_roundw
            case rel => exact ⟨m / 2, fmul x x, o, by go_num, by go_num, by go_num, (by first | trivial | rfl), HM2.out, by rw [← HP.out, fpow_half x m, if_neg H1.out, one_fmul]⟩
            case measure => simp [intOf]; omega

theorem FInverse_any (a : UInt8) (w : World) : Calls Try.prog 56 #[.int .u8 (a.toNat : Int)] w fun e w' => e = .returned (.tuple #[cb (if a = 0 then 0 else finv a), .int .i64 (if a = 0 then 1 else 0)]) ∧ w' = w := by
  by_cases h : a = 0
  · subst h
    go_enter Try.func56, Try.ntmps56
    go_wp2
    go_ret2
    exact ⟨rfl, rfl⟩
  · have h' : (a.toNat : Int) ≠ 0 := fun e => h (UInt8.toNat_inj.mp (by simpa using e))
    rw [if_neg h, if_neg h]
    have c : ∀ w, Calls Try.prog 73 #[.int .u8 (a.toNat : Int), .int .u64 254] w fun e w' => e = .returned (cb (finv a)) ∧ w' = w := fun w => FPow_any a 254 (by unfold W64; omega) w
    go_enter Try.func56, Try.ntmps56
    go_wp2_with (first | (go_at_call 73; (with_reducible refine (c _).mono ?_); rintro e w1 ⟨rfl, rfl⟩))
    go_ret2
    exact ⟨rfl, rfl⟩

theorem same_below {f : Nat} {args : Array Value} {w : World} {r : Ending} (h : Calls Try.prog f args w fun e w' => e = r ∧ w' = w) : Calls Try.prog f args w fun e w' => e = r ∧ Below w.heap.size w w' :=
  h.mono fun _ _ ⟨he, hw⟩ => ⟨he, hw ▸ Below.refl _ _⟩
theorem u8_eq0 {a : UInt8} (h : a = 0) : ((a.toNat : Int) == 0) = true ∧ ((a.toNat : Int) != 0) = false := by subst h; exact ⟨rfl, rfl⟩
theorem u8_ne0 {a : UInt8} (h : a ≠ 0) : ((a.toNat : Int) == 0) = false ∧ ((a.toNat : Int) != 0) = true := by
  have : (a.toNat : Int) ≠ 0 := fun e => h (UInt8.toNat_inj.mp (by simpa using e))
  exact ⟨by simpa using this, by simpa using this⟩

/-- A quotient. -/
def fdivV (a b : UInt8) : UInt8 := if b = 0 then 0 else fmul a (finv b)
def fdivE (b : UInt8) : Int := if b = 0 then 1 else 0
end Go.Proofs.Ytfnneneaalaagaa
