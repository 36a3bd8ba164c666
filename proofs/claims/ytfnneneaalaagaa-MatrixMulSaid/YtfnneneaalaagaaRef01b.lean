/- The reference's short number, taken. -/
import Derived.Test.YtfnneneaalaagaaRef01
namespace Go.Proofs.Ytfnneneaalaagaa
open Go.RowKit

theorem strB {w : World} {v : Value} {xs : List UInt8} (h : RB w v xs) : (convert 22 9 v).run Try.prog w = .ok (.string (str xs)) w :=
  RR.string (P := Try.prog) h Try.underlying22 Try.underlying5 Try.underlying9

def nxt (acc k c : Nat) : Nat := (acc + c % 128 * 128 ^ k) % 18446744073709551616
theorem nxt_eq (acc k c : Nat) : IntKind.u64.wrap ((acc : Int) + IntKind.u64.wrap ((c : Int) % 128 * 2 ^ (7 * k))) = ((nxt acc k c : Nat) : Int) := by
  have hp : (2 : Nat) ^ (7 * k) = 128 ^ k := by rw [Nat.pow_mul]
  have e1 : ((c : Int) % 128 * 2 ^ (7 * k)) = ((c % 128 * 128 ^ k : Nat) : Int) := by
    rw [← hp]; simp
  rw [e1]
  unfold nxt
  generalize c % 128 * 128 ^ k = q
  simp only [IntKind.wrap, IntKind.bits, IntKind.signed, Bool.false_and, Bool.false_eq_true, if_false]
  omega
theorem nxt_w (acc k c : Nat) : W64 (nxt acc k c) := by unfold W64 nxt; exact Nat.mod_lt _ (by omega)

theorem short_iff (xs : List UInt8) (acc k : Nat) (c : UInt8) (hk : k < xs.length) (h10 : k < 10) (hc : xs[k] = c) (hlt : c.toNat < 128) (ht : tkGo (10 - k) k acc (xs.drop k) = tk xs) :
    (putL (nxt acc k c.toNat) = xs.take (k + 1) → tk xs = (0, nxt acc k c.toNat, k + 1)) ∧ (putL (nxt acc k c.toNat) ≠ xs.take (k + 1) → tk xs = (3, 0, 0)) := by
  rw [List.drop_eq_getElem_cons hk, show 10 - k = (10 - (k + 1)) + 1 by omega, tkGo, hc, if_pos hlt] at ht
  constructor
  · intro h
    have hx : xs = putL (nxt acc k c.toNat) ++ xs.drop (k + 1) := by rw [h, List.take_append_drop]
    have h1 := tk_put (nxt acc k c.toNat) (xs.drop (k + 1)) (nxt_w _ _ _)
    rw [← hx, h, List.length_take, Nat.min_eq_left (by omega)] at h1
    exact h1
  · intro h
    by_cases hs : shortB k c = true
    · rw [if_pos hs] at ht
      exfalso
      apply h
      have hE : tkE xs = 0 := by unfold tkE; rw [← ht]
      have hN : tkN xs = acc + c.toNat * 128 ^ k := by unfold tkN; rw [← ht]
      obtain ⟨h1, h2, h3⟩ := tk_ok xs hE
      have hn : nxt acc k c.toNat = tkN xs := by
        unfold nxt
        rw [Nat.mod_eq_of_lt (show c.toNat < 128 from hlt), ← hN]
        exact Nat.mod_eq_of_lt h2
      rw [hn]
      rw [← ht] at h3
      conv => rhs; rw [h1]
      simp only at h3
      rw [h3, List.take_left]
    · rw [if_neg hs] at ht
      exact ht.symm

set_option maxHeartbeats 1600000 in
set_option maxRecDepth 100000 in
theorem rTake_any (v : Value) (xs : List UInt8) (w : World) (hv : RB w v xs) (hl : xs.length ≤ 1000000000) :
    Calls Try.prog 47 #[v] w fun e w' => ∃ v', e = .returned (.tuple #[.int .u64 (tkN xs : Int), v', .int .i64 (tkE xs : Int)]) ∧ RB w' v' (tkR xs) ∧ Below w.heap.size w w' := by
  obtain ⟨A, c, rfl, hc, _, hcell⟩ := id hv
  go_enter Try.func47, Try.ntmps47
  go_wp2
  go_loopw [5, 6] (fun v5 v6 wr => ∃ (acc k : Nat) (x : Nat), v5 = .int .u64 (x : Int) ∧ v6 = .int .i64 (k : Int) ∧ k ≤ xs.length ∧ k ≤ 10 ∧ (k ≤ 9 → x = acc) ∧ acc < 128 ^ k ∧ wr = w ∧ tkGo (10 - k) k acc (xs.drop k) = tk xs) (fun _ i _ => 10 - (intOf i).toNat)
  case atStart => exact ⟨0, 0, 0, rfl, rfl, Nat.zero_le _, by omega, fun _ => rfl, by simp, rfl, rfl⟩
  case round =>
    obtain ⟨acc, k, x, rfl, rfl, hk, hk10, hx, ha, rfl, ht⟩ := hrel
    by_cases hkm : k < xs.length
    · have hkm' : (k : Int) < (xs.length : Int) := by omega
      by_cases h10 : k < 10
      · have h10' : (k : Int) < 10 := by omega
        obtain rfl := hx (by omega)
        clear hx
        obtain ⟨ad, rfl, hcc⟩ := hv.at_ k hkm
        have hcx := hcc 0 (cb xs[k]) (by simp [U8])
        simp only [show B8.sz = 1 from rfl, Nat.mul_one, Nat.add_zero] at hcx
        clear hcc hcell
        obtain ⟨ck, hck⟩ : ∃ ck, xs[k] = ck := ⟨_, rfl⟩
        rw [hck] at hcx
        have HCK := Lib.hid hck
        have hnx := nxt_eq x k ck.toNat
        have HT := Lib.hid ht
        clear hck ht
        have HX : Go.RowKit.Hid (nxt x k ck.toNat = nxt x k ck.toNat) := rfl
        by_cases h128 : ck.toNat < 128
        · have h128' : (ck.toNat : Int) < 128 := by omega
          have hsi := short_iff xs x k ck hkm h10 HCK.out h128 HT.out
          obtain ⟨A1, hcut1, hcut2, hcut3, hr1⟩ := cutB (some ad) c xs 0 (k + 1) (by omega) (by omega) hc
          obtain ⟨A2, hcut4, hcut5, hcut6, hr2⟩ := cutB (some ad) c xs (k + 1) xs.length (by omega) (Nat.le_refl _) hc
          have hk1 := fun W => hcut3 .i64 W rfl
          have hk2 := fun W => hcut5 .i64 W rfl
          simp only [Int.natCast_add, Int.natCast_one] at hk1 hk2
          have hq1 := hr1 _ hv
          have hq2 := hr2 _ hv
          simp only [Nat.sub_zero, List.drop_zero] at hq1
          rw [List.take_of_length_le (Nat.le_refl _)] at hq2
          clear hcut1 hcut2 hcut3 hcut4 hcut5 hcut6 hr1 hr2
          have hsum := i64w ((k : Int) + 1) (by omega) (by omega)
          have hst : ∀ W, Below wr.heap.size wr W → (convert 22 9 (.slice A1 (k + 1) c)).run Try.prog W = .ok (.string (str (xs.take (k + 1)))) W := fun W h => strB (hq1.below h)
          have hs0 := hst _ (Below.refl _ _).drew
          by_cases heq : putL (nxt x k ck.toNat) = xs.take (k + 1)
          · have htk := hsi.1 heq
            have hE : tkE xs = 0 := by unfold tkE; rw [htk]
            have hN : tkN xs = nxt x k ck.toNat := by unfold tkN; rw [htk]
            have hR : tkR xs = xs.drop (k + 1) := by unfold tkR; rw [if_pos hE, htk]
            have HEQ := Lib.hid heq
            have HE := Lib.hid hE
            have HN := Lib.hid hN
            have HR := Lib.hid hR
            clear hsi heq htk hE hN hR
            go_wp2
            go_region_with (first | (go_at_call 41; refine (rPut_any (.slice none 0 0) [] (nxt x k ck.toNat) _ (RR.nil _) (by simp) (nxt_w _ _ _)).mono ?_; rintro e w2 ⟨v2, rfl, ho2, hb2⟩; have hs2 := strB ho2.reads; have hs3 := hst _ ((Below.refl _ _).drew.trans hb2); rw [List.nil_append, HEQ.out] at hs2) | fail)
            all_goals
              go_wp2
              go_quiet (fail)
              go_wp2
              go_ret3
              refine ⟨_, ?_, by rw [HR.out]; exact hq2.below (pw_below_drewN ((Below.refl _ _).drew.trans hb2) _), pw_below_drewN ((Below.refl _ _).drew.trans hb2) _⟩
              rw [HE.out, HN.out]
              rfl
          · have htk := hsi.2 heq
            have hE : tkE xs = 3 := by unfold tkE; rw [htk]
            have hN : tkN xs = 0 := by unfold tkN; rw [htk]
            have hR : tkR xs = [] := by unfold tkR; rw [if_neg (by omega)]
            have hne : (putL (nxt x k ck.toNat) == xs.take (k + 1)) = false := by rw [beq_eq_false_iff_ne]; exact heq
            have HE := Lib.hid hE
            have HN := Lib.hid hN
            have HR := Lib.hid hR
            clear hsi heq htk hE hN hR
            go_wp2
            go_region_with (first | (go_at_call 41; refine (rPut_any (.slice none 0 0) [] (nxt x k ck.toNat) _ (RR.nil _) (by simp) (nxt_w _ _ _)).mono ?_; rintro e w2 ⟨v2, rfl, ho2, hb2⟩; have hs2 := strB ho2.reads; have hs3 := hst _ ((Below.refl _ _).drew.trans hb2); rw [List.nil_append] at hs2) | fail)
            all_goals
              go_wp2
              go_ret3
              rw [HE.out, HN.out, HR.out]
              exact ⟨_, rfl, RR.nil _, (Below.refl _ _).drew.trans hb2⟩
        · have h128' : (128 : Int) ≤ (ck.toNat : Int) := by omega
          have hlt := ck.toNat_lt
          go_wp2
          go_roundw
          case rel =>
            have ht := HT.out
            rw [List.drop_eq_getElem_cons hkm, show 10 - k = (10 - (k + 1)) + 1 by omega, tkGo, HCK.out, if_neg h128] at ht
            refine ⟨x + ck.toNat % 128 * 128 ^ k, k + 1, _, rfl, by go_num, by omega, by omega, fun h9 => ?_, ?_, (by first | trivial | rfl), ht⟩
            · unfold nxt
              refine Nat.mod_eq_of_lt ?_
              have h1 : (128 : Nat) ^ k ≤ 128 ^ 8 := Nat.pow_le_pow_right (by omega) (by omega)
              have h2 : ck.toNat % 128 * 128 ^ k ≤ 127 * 128 ^ 8 := Nat.mul_le_mul (by omega) h1
              have h8 : (128 : Nat) ^ 8 = 72057594037927936 := by decide
              omega
            · rw [Nat.pow_succ]
              have h2 : ck.toNat % 128 * 128 ^ k ≤ 127 * 128 ^ k := Nat.mul_le_mul_right _ (by omega)
              omega
          case measure => simp [intOf]; omega
      · have hE : tkE xs = 3 := by unfold tkE; rw [← ht, show 10 - k = 0 by omega]; rfl
        have hN : tkN xs = 0 := by unfold tkN; rw [← ht, show 10 - k = 0 by omega]; rfl
        have hR : tkR xs = [] := by unfold tkR; rw [if_neg (by omega)]
        have h10' : (10 : Int) ≤ (k : Int) := by omega
        have hl10 : (10 : Int) ≤ (xs.length : Int) := by omega
        have HE := Lib.hid hE
        have HN := Lib.hid hN
        have HR := Lib.hid hR
        clear hx ha ht hE hN hR hcell
        go_wp2
        go_ret3
        rw [HE.out, HN.out, HR.out]
        exact ⟨_, rfl, RR.nil _, Below.refl _ _⟩
    · obtain rfl : k = xs.length := by omega
      clear hkm hx ha hcell hk
      by_cases h10 : 10 ≤ xs.length
      · have hE : tkE xs = 3 := by unfold tkE; rw [← ht, show 10 - xs.length = 0 by omega]; rfl
        have hN : tkN xs = 0 := by unfold tkN; rw [← ht, show 10 - xs.length = 0 by omega]; rfl
        have hR : tkR xs = [] := by unfold tkR; rw [if_neg (by omega)]
        have h10' : (10 : Int) ≤ (xs.length : Int) := by omega
        have HE := Lib.hid hE
        have HN := Lib.hid hN
        have HR := Lib.hid hR
        clear ht hE hN hR
        go_wp2
        go_ret3
        rw [HE.out, HN.out, HR.out]
        exact ⟨_, rfl, RR.nil _, Below.refl _ _⟩
      · have h10' : (xs.length : Int) < 10 := by omega
        rw [List.drop_of_length_le (by omega), show 10 - xs.length = (9 - xs.length) + 1 by omega, tkGo] at ht
        have hE : tkE xs = 2 := by unfold tkE; rw [← ht]
        have hN : tkN xs = 0 := by unfold tkN; rw [← ht]
        have hR : tkR xs = [] := by unfold tkR; rw [if_neg (by omega)]
        have HE := Lib.hid hE
        have HN := Lib.hid hN
        have HR := Lib.hid hR
        clear ht hE hN hR
        go_wp2
        go_ret3
        rw [HE.out, HN.out, HR.out]
        exact ⟨_, rfl, RR.nil _, Below.refl _ _⟩

end Go.Proofs.Ytfnneneaalaagaa
