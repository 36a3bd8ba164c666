/- The reference's numbers and strings. -/
import Derived.Test.YthogefehainmdaaNum4
namespace Go.Proofs.Ythogefehainmdaa
open Go.RowKit

set_option maxHeartbeats 400000 in
set_option maxRecDepth 100000 in
theorem rPut_any (v : Value) (xs : List UInt8) (n : Nat) (w : World) (hv : RB w v xs) (hl : xs.length ≤ 16777216) (hn : W64 n) :
    Calls Try.prog 22 #[v, .int .u64 (n : Int)] w fun e w' => ∃ v', e = .returned v' ∧ OB w' w.heap.size v' (xs ++ putL n) ∧ Below w.heap.size w w' := by
  have hl' : xs.length ≤ 1000000000 := by omega
  have hb0 : Below w.heap.size w (w.alloc (.cells #[] 5)) := (Below.refl _ _).alloc (Nat.le_refl _) _
  have ho0 : OB (w.alloc (.cells #[] 5)) w.heap.size (.slice (some ⟨w.heap.size, 0, none⟩) 0 0) [] := OB.lit w w.heap.size [] #[] rfl (Nat.le_refl _) (by simp)
  have hr0 := hv.below hb0
  go_enter Try.func22, Try.ntmps22
  go_wp2_with (at_builtin; refine appBs w.heap.size (.tmp 6) (.tmp 7) _ _ [] xs ho0 hr0 hb0 (by simp) (by simp) hl' rfl rfl rfl rfl ?_; intro v1 w1 ho1 hb1 hg1 hat1 hs1)
  rw [List.nil_append] at ho1
  go_loopw [5, 1] (fun v5 v1 wr => ∃ (pre : List UInt8) (m : Nat), v1 = .int .u64 (m : Int) ∧ m ≤ n ∧ OB wr w.heap.size v5 (xs ++ pre) ∧ Below w.heap.size w wr ∧ pre ++ putL m = putL n) (fun _ i _ => (intOf i).toNat)
  case atStart => exact ⟨[], n, rfl, Nat.le_refl _, by simpa using ho1, hb1, rfl⟩
  case round =>
    obtain ⟨pre, m, rfl, hmn, ho, hb, hp⟩ := hrel
    have hwq : IntKind.u64.wrap ((m : Int) / 128) = (m : Int) / 128 := by unfold W64 at hn; simp only [IntKind.wrap, IntKind.bits, IntKind.signed, Bool.false_and, Bool.false_eq_true, if_false]; omega
    have HP := Lib.hid hp
    clear hp
    have hB : w.heap.size ≤ wr.heap.size := hb.size
    have hlen : (xs ++ pre).length ≤ 1000000000 := by have h1 := congrArg List.length HP.out; have h2 := putL_len64 n hn; simp at h1 ⊢; omega
    by_cases h128 : 128 ≤ m
    · have h128' : (128 : Int) ≤ (m : Int) := by omega
      go_wp2_with (at_builtin; go_loud (refine appB w.heap.size (.tmp 11) (.tmp 16) _ _ (UInt8.ofNat (m % 128 + 128)) _ ho hb hB hlen (by rw [UInt8.toNat_ofNat']; omega) rfl rfl rfl rfl ?_); intro v2 w2 ho2 hb2 hg2 hat2 hs2)
      go_roundw
      case rel => exact ⟨pre ++ [UInt8.ofNat (m % 128 + 128)], m / 128, by go_num, by omega, by rw [← List.append_assoc]; exact ho2, hb2, by rw [← HP.out, putL.eq_1 m, if_neg (by omega), List.append_assoc]; rfl⟩
      case measure => simp [intOf]; omega
    · have h128' : (m : Int) < 128 := by omega
      go_wp2_with (at_builtin; refine appB w.heap.size (.tmp 20) (.tmp 23) _ _ (UInt8.ofNat m) _ ho hb hB hlen (by first | exact low8 m | exact low8' m (by omega)) rfl rfl rfl rfl ?_; intro v2 w2 ho2 hb2 hg2 hat2 hs2)
      go_ret
      exact ⟨_, rfl, by rw [← HP.out, putL.eq_1 m, if_pos (by omega), ← List.append_assoc]; exact ho2, hb2⟩

set_option maxHeartbeats 400000 in
theorem rPut32_any (v : Value) (xs : List UInt8) (n : Nat) (w : World) (hv : RB w v xs) (hl : xs.length ≤ 16777216) (hn : n < 4294967296) :
    Calls Try.prog 23 #[v, .int .u32 (n : Int)] w fun e w' => ∃ v', e = .returned v' ∧ OB w' w.heap.size v' (xs ++ put32L n) ∧ Below w.heap.size w w' := by
  have hl' : xs.length ≤ 1000000000 := by omega
  have hb0 : Below w.heap.size w (w.alloc (.cells #[] 5)) := (Below.refl _ _).alloc (Nat.le_refl _) _
  have ho0 : OB (w.alloc (.cells #[] 5)) w.heap.size (.slice (some ⟨w.heap.size, 0, none⟩) 0 0) [] := OB.lit w w.heap.size [] #[] rfl (Nat.le_refl _) (by simp)
  have hr0 := hv.below hb0
  go_enter Try.func23, Try.ntmps23
  go_wp2_with (first
    | (at_builtin; refine appBs w.heap.size (.tmp 6) (.tmp 7) _ _ [] xs ho0 hr0 hb0 (by simp) (by simp) hl' rfl rfl rfl rfl ?_; clear ho0 hr0; intro v1 w1 ho1 hb1 hg1 hat1 hs1; rw [List.nil_append] at ho1)
    | (at_builtin; refine appBs w.heap.size (.tmp 9) (.tmp 21) _ _ xs (put32L n) (OR.below ho1 ((Below.refl _ _).alloc (Nat.le_refl _) _)) (OB.lit _ 0 (put32L n) _ (by simp [put32L]; omega) (Nat.zero_le _) (by simp [put32L])).reads (hb1.alloc hb1.size _) (by simp; exact Nat.le_succ_of_le hb1.size) hl' (by simp [put32L]) rfl rfl rfl rfl ?_; intro v2 w2 ho2 hb2 hg2 hat2 hs2))
  go_ret
  exact ⟨_, rfl, ho2, hb2⟩

set_option maxHeartbeats 400000 in
theorem rPutString_any (v vs : Value) (xs s : List UInt8) (w : World) (hv : RB w v xs) (hs : RB w vs s) (hl : xs.length ≤ 16777216) (hl2 : s.length ≤ 16777216) :
    Calls Try.prog 24 #[v, vs] w fun e w' => ∃ v', e = .returned v' ∧ OB w' w.heap.size v' (xs ++ putL s.length ++ s) ∧ Below w.heap.size w w' := by
  obtain ⟨A, c, rfl, hc⟩ := hs.len
  have hl3 : (xs ++ putL s.length).length ≤ 1000000000 := by have := putL_len64 _ (W64_len hl2); simp; omega
  go_enter Try.func24, Try.ntmps24
  go_wp2_with (first
    | (go_at_call 22; refine (rPut_any v xs s.length _ hv hl (W64_len hl2)).mono ?_; rintro e w1 ⟨v1, rfl, ho1, hb1⟩)
    | (at_builtin; refine appBs w.heap.size (.tmp 11) (.tmp 12) _ _ (xs ++ putL s.length) s ho1 (hs.below hb1) hb1 hb1.size hl3 (by omega) rfl rfl rfl rfl ?_; intro v2 w2 ho2 hb2 hg2 hat2 hs2))
  go_ret
  exact ⟨_, rfl, ho2, hb2⟩

/-- What reads so wherever the memory of w still stands. -/
def KB (w : World) (v : Value) (xs : List UInt8) : Prop := ∀ W, Below w.heap.size w W → RB W v xs
theorem KB.of {w : World} {v : Value} {xs : List UInt8} (h : RB w v xs) : KB w v xs := fun _ hb => h.below hb
theorem KB.nil (w : World) : KB w (.slice none 0 0) [] := fun _ _ => RR.nil _

set_option maxHeartbeats 400000 in
theorem rTakeBytes_any (v : Value) (xs : List UInt8) (n : Int) (w0 w : World) (hv : RB w0 v xs) (_h0 : Below w0.heap.size w0 w) :
    Calls Try.prog 40 #[v, .int .i64 n] w fun e w' => ∃ v1 v2, e = .returned (.tuple #[v1, v2, .int .i64 (if n < 0 then 1 else if n ≤ xs.length then 0 else 2)]) ∧
      KB w0 v1 (if n < 0 then [] else if n ≤ xs.length then xs.take n.toNat else []) ∧ KB w0 v2 (if n < 0 then [] else if n ≤ xs.length then xs.drop n.toNat else []) ∧ Below w.heap.size w w' := by
  obtain ⟨A, c, rfl, hc⟩ := hv.len
  by_cases h0 : n < 0
  · simp only [h0, ↓reduceIte]
    go_enter Try.func40, Try.ntmps40
    go_wp2
    go_ret3
    exact ⟨_, _, rfl, KB.nil _, KB.nil _, Below.refl _ _⟩
  · simp only [h0, ↓reduceIte]
    have h0' : 0 ≤ n := by omega
    by_cases h1 : n ≤ xs.length
    · simp only [h1, ↓reduceIte]
      obtain ⟨m, rfl⟩ := Int.eq_ofNat_of_zero_le h0'
      have hm : m ≤ xs.length := by omega
      obtain ⟨A1, hcut1, hcut2, hcut3, hr1⟩ := cutB A c xs 0 m (by omega) hm hc
      obtain ⟨A2, hcut4, hcut5, hcut6, hr2⟩ := cutB A c xs m xs.length hm (Nat.le_refl _) hc
      have hk1 := fun W => hcut3 .i64 W rfl
      have hk2 := fun W => hcut5 .i64 W rfl
      have hq1 := hr1 w0 hv
      have hq2 := hr2 w0 hv
      simp only [Nat.sub_zero, List.drop_zero] at hq1
      rw [List.take_of_length_le (Nat.le_refl _)] at hq2
      clear hcut1 hcut2 hcut3 hcut4 hcut5 hcut6 hr1 hr2
      go_enter Try.func40, Try.ntmps40
      go_wp2
      go_quiet (fail)
      go_wp2
      go_ret3
      exact ⟨_, _, rfl, KB.of hq1, KB.of hq2, pw_below_drewN (Below.refl _ _) _⟩
    · simp only [h1, ↓reduceIte]
      have h1' : (xs.length : Int) < n := by omega
      go_enter Try.func40, Try.ntmps40
      go_wp2
      go_ret3
      exact ⟨_, _, rfl, KB.nil _, KB.nil _, Below.refl _ _⟩

end Go.Proofs.Ythogefehainmdaa
