/- The reference's numbers and strings. -/
import Derived.Test.YthogefehainmdabNum4
namespace Go.Proofs.Ythogefehainmdab
open Go.RowKit

set_option maxHeartbeats 400000 in
theorem rPut32_any (v : Value) (xs : List UInt8) (n : Nat) (w : World) (hv : RB w v xs) (hl : xs.length ≤ 16777216) (hn : n < 4294967296) :
    Calls Try.prog 35 #[v, .int .u32 (n : Int)] w fun e w' => ∃ v', e = .returned v' ∧ OB w' w.heap.size v' (xs ++ put32L n) ∧ Below w.heap.size w w' := by
  have hl' : xs.length ≤ 1000000000 := by omega
  have hb0 : Below w.heap.size w (w.alloc (.cells #[] 5)) := (Below.refl _ _).alloc (Nat.le_refl _) _
  have ho0 : OB (w.alloc (.cells #[] 5)) w.heap.size (.slice (some ⟨w.heap.size, 0, none⟩) 0 0) [] := OB.lit w w.heap.size [] #[] rfl (Nat.le_refl _) (by simp)
  have hr0 := hv.below hb0
  go_enter Try.func35, Try.ntmps35
  go_wp2_with (first
    | (at_builtin; refine appBs w.heap.size (.tmp 6) (.tmp 7) _ _ [] xs ho0 hr0 hb0 (by simp) (by simp) hl' rfl rfl rfl rfl ?_; clear ho0 hr0; intro v1 w1 ho1 hb1 hg1 hat1 hs1; rw [List.nil_append] at ho1)
    | (at_builtin; refine appBs w.heap.size (.tmp 9) (.tmp 21) _ _ xs (put32L n) (OR.below ho1 ((Below.refl _ _).alloc (Nat.le_refl _) _)) (OB.lit _ 0 (put32L n) _ (by simp [put32L]; omega) (Nat.zero_le _) (by simp [put32L])).reads (hb1.alloc hb1.size _) (by simp; exact Nat.le_succ_of_le hb1.size) hl' (by simp [put32L]) rfl rfl rfl rfl ?_; intro v2 w2 ho2 hb2 hg2 hat2 hs2))
  go_ret
  exact ⟨_, rfl, ho2, hb2⟩

/-- What reads so wherever the memory of w still stands. -/
def KB (w : World) (v : Value) (xs : List UInt8) : Prop := ∀ W, Below w.heap.size w W → RB W v xs
theorem KB.of {w : World} {v : Value} {xs : List UInt8} (h : RB w v xs) : KB w v xs := fun _ hb => h.below hb
theorem KB.nil (w : World) : KB w (.slice none 0 0) [] := fun _ _ => RR.nil _

set_option maxHeartbeats 400000 in
theorem rTakeBytes_any (v : Value) (xs : List UInt8) (n : Int) (w0 w : World) (hv : RB w0 v xs) (_h0 : Below w0.heap.size w0 w) :
    Calls Try.prog 31 #[v, .int .i64 n] w fun e w' => ∃ v1 v2, e = .returned (.tuple #[v1, v2, .int .i64 (if n < 0 then 1 else if n ≤ xs.length then 0 else 2)]) ∧
      KB w0 v1 (if n < 0 then [] else if n ≤ xs.length then xs.take n.toNat else []) ∧ KB w0 v2 (if n < 0 then [] else if n ≤ xs.length then xs.drop n.toNat else []) ∧ Below w.heap.size w w' := by
  obtain ⟨A, c, rfl, hc⟩ := hv.len
  by_cases h0 : n < 0
  · simp only [h0, ↓reduceIte]
    go_enter Try.func31, Try.ntmps31
    go_wp2
    go_ret3
    exact ⟨_, _, rfl, KB.nil _, KB.nil _, Below.refl _ _⟩
  · simp only [h0, ↓reduceIte]
    have h0' : 0 ≤ n := by omega
    by_cases h1 : n ≤ xs.length
    · simp only [h1, ↓reduceIte]
      obtain ⟨m, rfl⟩ := Int.eq_ofNat_of_zero_le h0'
      have hm : m ≤ xs.length := by omega
      obtain ⟨A1, hcut1, hcut2, hcut3, hr1⟩ := cutB A c xs 0 m (by omega) hm hc
      obtain ⟨A2, hcut4, hcut5, hcut6, hr2⟩ := cutB A c xs m xs.length hm (Nat.le_refl _) hc
      have hk1 := fun W => hcut3 .i64 W rfl
      have hk2 := fun W => hcut5 .i64 W rfl
      have hq1 := hr1 w0 hv
      have hq2 := hr2 w0 hv
      simp only [Nat.sub_zero, List.drop_zero] at hq1
      rw [List.take_of_length_le (Nat.le_refl _)] at hq2
      clear hcut1 hcut2 hcut3 hcut4 hcut5 hcut6 hr1 hr2
      go_enter Try.func31, Try.ntmps31
      go_wp2
      go_quiet (fail)
      go_wp2
      go_ret3
      exact ⟨_, _, rfl, KB.of hq1, KB.of hq2, pw_below_drewN (Below.refl _ _) _⟩
    · simp only [h1, ↓reduceIte]
      have h1' : (xs.length : Int) < n := by omega
      go_enter Try.func31, Try.ntmps31
      go_wp2
      go_ret3
      exact ⟨_, _, rfl, KB.nil _, KB.nil _, Below.refl _ _⟩

end Go.Proofs.Ythogefehainmdab
