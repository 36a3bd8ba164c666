/- The reference's numbers and strings. -/
import Derived.Test.YtfnneneaalaagaaNum4
namespace Go.Proofs.Ytfnneneaalaagaa
open Go.RowKit

set_option maxHeartbeats 400000 in
set_option maxRecDepth 100000 in
theorem rPut_any (v : Value) (xs : List UInt8) (n : Nat) (w : World) (hv : RB w v xs) (hl : xs.length ≤ 16777216) (hn : W64 n) :
    Calls Try.prog 41 #[v, .int .u64 (n : Int)] w fun e w' => ∃ v', e = .returned v' ∧ OB w' w.heap.size v' (xs ++ putL n) ∧ Below w.heap.size w w' := by
  have hl' : xs.length ≤ 1000000000 := by omega
  have hb0 : Below w.heap.size w (w.alloc (.cells #[] 5)) := (Below.refl _ _).alloc (Nat.le_refl _) _
  have ho0 : OB (w.alloc (.cells #[] 5)) w.heap.size (.slice (some ⟨w.heap.size, 0, none⟩) 0 0) [] := OB.lit w w.heap.size [] #[] rfl (Nat.le_refl _) (by simp)
  have hr0 := hv.below hb0
  go_enter Try.func41, Try.ntmps41
  go_wp2_with (at_builtin; refine appBs w.heap.size (.tmp 6) (.tmp 7) _ _ [] xs ho0 hr0 hb0 (by simp) (by simp) hl' rfl rfl rfl rfl ?_; intro v1 w1 ho1 hb1 hg1 hat1 hs1)
  rw [List.nil_append] at ho1
  go_loopw [5, 1] (fun v5 v1 wr => ∃ (pre : List UInt8) (m : Nat), v1 = .int .u64 (m : Int) ∧ m ≤ n ∧ OB wr w.heap.size v5 (xs ++ pre) ∧ Below w.heap.size w wr ∧ pre ++ putL m = putL n) (fun _ i _ => (intOf i).toNat)
  case atStart => exact ⟨[], n, rfl, Nat.le_refl _, by simpa using ho1, hb1, rfl⟩
  case round =>
    obtain ⟨pre, m, rfl, hmn, ho, hb, hp⟩ := hrel
    have hwq : IntKind.u64.wrap ((m : Int) / 128) = (m : Int) / 128 := by unfold W64 at hn; simp only [IntKind.wrap, IntKind.bits, IntKind.signed, Bool.false_and, Bool.false_eq_true, if_false]; omega
    have HP := Lib.hid hp
    clear hp
    have hB : w.heap.size ≤ wr.heap.size := hb.size
    have hlen : (xs ++ pre).length ≤ 1000000000 := by have h1 := congrArg List.length HP.out; have h2 := putL_len64 n hn; simp at h1 ⊢; omega
    by_cases h128 : 128 ≤ m
    · have h128' : (128 : Int) ≤ (m : Int) := by omega
      go_wp2_with (at_builtin; go_loud (refine appB w.heap.size (.tmp 11) (.tmp 16) _ _ (UInt8.ofNat (m % 128 + 128)) _ ho hb hB hlen (by rw [UInt8.toNat_ofNat']; omega) rfl rfl rfl rfl ?_); intro v2 w2 ho2 hb2 hg2 hat2 hs2)
      go_roundw
      case rel => exact ⟨pre ++ [UInt8.ofNat (m % 128 + 128)], m / 128, by go_num, by omega, by rw [← List.append_assoc]; exact ho2, hb2, by rw [← HP.out, putL.eq_1 m, if_neg (by omega), List.append_assoc]; rfl⟩
      case measure => simp [intOf]; omega
    · have h128' : (m : Int) < 128 := by omega
      go_wp2_with (at_builtin; refine appB w.heap.size (.tmp 20) (.tmp 23) _ _ (UInt8.ofNat m) _ ho hb hB hlen (by first | exact low8 m | exact low8' m (by omega)) rfl rfl rfl rfl ?_; intro v2 w2 ho2 hb2 hg2 hat2 hs2)
      go_ret
      exact ⟨_, rfl, by rw [← HP.out, putL.eq_1 m, if_pos (by omega), ← List.append_assoc]; exact ho2, hb2⟩

/-- What reads so wherever the memory of w still stands. -/
def KB (w : World) (v : Value) (xs : List UInt8) : Prop := ∀ W, Below w.heap.size w W → RB W v xs
theorem KB.of {w : World} {v : Value} {xs : List UInt8} (h : RB w v xs) : KB w v xs := fun _ hb => h.below hb
theorem KB.nil (w : World) : KB w (.slice none 0 0) [] := fun _ _ => RR.nil _

end Go.Proofs.Ytfnneneaalaagaa
