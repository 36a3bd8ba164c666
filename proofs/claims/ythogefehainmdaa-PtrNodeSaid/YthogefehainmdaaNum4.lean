/- The package num: a string, taken. -/
import Derived.Test.YthogefehainmdaaNum3
namespace Go.Proofs.Ythogefehainmdaa
open Go.RowKit

theorem tkR_le (xs : List UInt8) : (tkR xs).length ≤ xs.length := by unfold tkR; split <;> simp

set_option maxHeartbeats 800000 in
set_option maxRecDepth 100000 in
theorem TakeString_any (v : Value) (xs : List UInt8) (most : Int) (w : World) (hv : RB w v xs) (hl : xs.length ≤ 1000000000) (hmost : most ≤ 9223372036854775807) :
    Calls Try.prog 41 #[v, .int .i64 most] w fun e w' => ∃ v1 v2, e = .returned (.tuple #[v1, v2, .int .i64 (tsE xs most : Int)]) ∧
      OB w' w.heap.size v1 (tsS xs most) ∧ OB w' w.heap.size v2 (tsR xs most) ∧ Below w.heap.size w w' := by
  have hT := fun W h => Take_any v xs W h hl
  by_cases hE : tkE xs = 0
  · have hE' : ((tkE xs : Nat) : Int) = 0 := by omega
    simp only [hE'] at hT
    by_cases h0 : most < 0
    · have h1 : tsE xs most = 4 := by unfold tsE; rw [if_neg (by simp [hE]), if_pos (.inl h0)]
      have h2 : tsS xs most = [] := by unfold tsS; rw [if_neg (by omega)]
      have h3 : tsR xs most = [] := by unfold tsR; rw [if_neg (by omega)]
      rw [h1, h2, h3]
      clear h1 h2 h3 hE hE'
      go_enter Try.func41, Try.ntmps41
      go_wp2_with (first | (go_at_call 35; refine (hT _ hv).mono ?_; clear hT; rintro e w1 ⟨v1, rfl, ho1, hb1⟩))
      go_ret3
      exact ⟨_, _, rfl, OR.nil _ _, OR.nil _ _, hb1⟩
    · have h0' : 0 ≤ most := by omega
      by_cases hgt : most < (tkN xs : Int)
      · have h1 : tsE xs most = 4 := by unfold tsE; rw [if_neg (by simp [hE]), if_pos (.inr hgt)]
        have h2 : tsS xs most = [] := by unfold tsS; rw [if_neg (by omega)]
        have h3 : tsR xs most = [] := by unfold tsR; rw [if_neg (by omega)]
        rw [h1, h2, h3]
        clear h1 h2 h3 hE hE'
        go_enter Try.func41, Try.ntmps41
        go_wp2_with (first | (go_at_call 35; refine (hT _ hv).mono ?_; clear hT; rintro e w1 ⟨v1, rfl, ho1, hb1⟩))
        go_ret3
        exact ⟨_, _, rfl, OR.nil _ _, OR.nil _ _, hb1⟩
      · have hle : (tkN xs : Int) ≤ most := by omega
        have hTB := fun v1 W h => TakeBytes_any v1 (tkR xs) (tkN xs : Int) W h (by have := tkR_le xs; omega)
        have hn0 : ¬ ((tkN xs : Int) < 0) := by omega
        simp only [if_neg hn0] at hTB
        have h1 : ((tsE xs most : Nat) : Int) = if (tkN xs : Int) ≤ ((tkR xs).length : Int) then 0 else 2 := by
          unfold tsE; rw [if_neg (by simp [hE]), if_neg (by omega)]; split <;> split <;> omega
        have h2 : tsS xs most = if (tkN xs : Int) ≤ ((tkR xs).length : Int) then (tkR xs).take (tkN xs) else [] := by
          unfold tsS; split <;> split <;> first | rfl | omega
        have h3 : tsR xs most = if (tkN xs : Int) ≤ ((tkR xs).length : Int) then (tkR xs).drop (tkN xs) else [] := by
          unfold tsR; split <;> split <;> first | rfl | omega
        rw [h1, h2, h3]
        clear hgt hn0 h1 h2 h3 hE'
        by_cases hc : (tkN xs : Int) ≤ ((tkR xs).length : Int)
        all_goals
          first
            | simp only [hc, ↓reduceIte, Int.toNat_natCast] at hTB ⊢
          clear hc
          have HTB := Lib.hid hTB
          clear hTB
          go_enter Try.func41, Try.ntmps41
          go_wp2_with (first
            | (go_at_call 35; refine (hT _ hv).mono ?_; clear hT; rintro e w1 ⟨v1, rfl, ho1, hb1⟩)
            | (go_at_call 39; refine (HTB.out _ _ ho1.reads).mono ?_; clear HTB; rintro e w2 ⟨v2, v3, rfl, ho2, ho3, _, hb2⟩))
          go_ret3
          exact ⟨_, _, rfl, OR.lower ho2 hb1.size, OR.lower ho3 hb1.size, below_two hb1 hb1.size hb2⟩
  · have h1 : tsE xs most = tkE xs := by unfold tsE; rw [if_pos hE]
    have h2 : tsS xs most = [] := by unfold tsS; rw [if_neg (by omega)]
    have h3 : tsR xs most = [] := by unfold tsR; rw [if_neg (by omega)]
    rw [h1, h2, h3]
    have hE' : (((tkE xs : Nat) : Int) != 0) = true := by rw [bne_iff_ne]; omega
    clear h1 h2 h3 hE
    generalize tkE xs = q at hE' hT ⊢
    go_enter Try.func41, Try.ntmps41
    go_wp2_with (first | (go_at_call 35; refine (hT _ hv).mono ?_; clear hT; rintro e w1 ⟨v1, rfl, ho1, hb1⟩))
    go_ret3
    exact ⟨_, _, rfl, OR.nil _ _, OR.nil _ _, hb1⟩

end Go.Proofs.Ythogefehainmdaa
