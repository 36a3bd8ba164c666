/- Layer 28: the reference's likeness; bytes that stand for themselves, of both. -/
import Derived.Test.YtfnneneaalaagaaSqz
import Derived.Test.YtfnneneaalaagaaKit2
namespace Go.Proofs.Ytfnneneaalaagaa
open Go.RowKit
set_option linter.unusedSimpArgs false
set_option linter.unusedVariables false

def relR (b : List UInt8) (n : Nat) (w : World) (v6 v7 v8 : Value) (wr : World) : Prop := ∃ (k x y : Nat), v8 = .int .i64 ((k : Int) + 1) ∧ k ≤ min n 255 ∧ v6 = .int .i64 (x : Int) ∧ v7 = .int .i64 (y : Int) ∧ Hid ((x, y) = mt b n k) ∧ Below w.heap.size w wr
set_option maxHeartbeats 1600000 in
set_option maxRecDepth 100000 in
theorem rMatch_any (v : Value) (b : List UInt8) (i : Int) (w : World) (hv : RB w v b) (hl : b.length ≤ 1000000000) :
    Calls Try.prog 16 #[v, .int .i64 i] w fun e w' => e = .returned (.tuple #[.int .i64 ((matchI b i).1 : Int), .int .i64 ((matchI b i).2 : Int)]) ∧ Below w.heap.size w w' := by
  obtain ⟨A, c, rfl, hc⟩ := id hv.len
  by_cases h1 : 1 ≤ i
  · by_cases h2 : (b.length : Int) ≤ i
    · have hm : matchI b i = (0, 0) := by rw [matchI, if_pos (.inr h2)]
      have hd : decide (1 ≤ i) = true := by simpa using h1
      have hd2 : decide (i < (b.length : Int)) = false := by simpa using h2
      rw [hm]
      clear hm hv
      go_enter Try.func16, Try.ntmps16
      go_wp2
      go_loop [6, 7, 8] (fun v6 v7 v8 => v6 = .int .i64 0 ∧ v7 = .int .i64 0 ∧ v8 = .int .i64 1) (fun _ _ _ => 0)
      case atStart => exact ⟨rfl, rfl, rfl⟩
      case round =>
        obtain ⟨rfl, rfl, rfl⟩ := hrel
        go_wp2
        go_ret2
        exact ⟨rfl, Below.refl _ _⟩
    obtain ⟨n, rfl⟩ : ∃ n : Nat, i = n := ⟨i.toNat, by omega⟩
    have hn : n < b.length := by omega
    have hm : matchI b n = matchR b n := by rw [matchI, if_neg (by omega)]; rfl
    rw [hm]
    obtain ⟨r, hr⟩ : ∃ r, r = matchR b n := ⟨_, rfl⟩
    have hmr := hr
    unfold matchR at hmr
    rw [← hr]
    have HMR := Lib.hid hmr
    have hd2 : decide ((n : Int) < (b.length : Int)) = true := by simp; omega
    obtain ⟨ad, rfl, hcell⟩ := hv.byte (by omega)
    have HC := Lib.hid hcell
    clear hm hr hmr h1 h2 hcell hv
    go_enter Try.func16, Try.ntmps16
    go_wp2
    go_loopw [6, 7, 8] (fun v6 v7 v8 wr => relR b n w v6 v7 v8 wr) (fun _ _ i _ => 256 - (intOf i).toNat)
    case atStart => exact ⟨0, 0, 0, rfl, by omega, rfl, rfl, by rfl, Below.refl _ _⟩
    case round =>
      obtain ⟨k, x, y, rfl, hk, rfl, rfl, HM, hb⟩ := hrel
      have hxy := mt_le b n (by omega) k
      rw [← HM.out] at hxy
      have hx : x ≤ 131 := hxy.1
      have hy : y ≤ k := hxy.2.2.1
      clear hxy
      by_cases hlt : k < min n 255
      · have hlt1 : decide ((k : Int) + 1 ≤ (n : Int)) = true := by simp; omega
        have hlt2 : decide ((k : Int) + 1 ≤ 255) = true := by simp; omega
        have hlk := like_le b n (k + 1) (by omega)
        have hs : mt b n (k + 1) = _ := mt.eq_2 b n k
        rw [← HM.out] at hs
        simp only at hs
        obtain ⟨q, hq⟩ : ∃ q, q = like b n (k + 1) := ⟨_, rfl⟩
        rw [← hq] at hlk hs
        unfold like at hq
        have HQ := Lib.hid hq
        have HS := Lib.hid hs
        have hq131 := hlk.1
        clear hs hlk hq
        go_wp2
        go_loopw [9] (fun v9 wr2 => ∃ (g : Nat), v9 = .int .i64 (g : Int) ∧ g ≤ 131 ∧ Hid (q = likeG b n (k + 1) (131 - g) g) ∧ Below w.heap.size w wr2) (fun i _ => 131 - (intOf i).toNat)
        case atStart => exact ⟨0, rfl, by omega, HQ, hb⟩
        case round =>
          obtain ⟨g, rfl, hg, HK, hb2⟩ := hrel
          by_cases g1 : g < 131
          · have g1' : decide ((g : Int) < 131) = true := by simp; omega
            have hf : 131 - g = (131 - (g + 1)) + 1 := by omega
            have hsm : IntKind.i64.wrap ((n : Int) + (g : Int)) = (n : Int) + (g : Int) := by rw [IntKind.wrap_i64]; omega
            by_cases g2 : n + g < b.length
            · have g2' : decide ((n : Int) + (g : Int) < (b.length : Int)) = true := by simp; omega
              obtain ⟨j, hj⟩ : ∃ j, j = n + g - (k + 1) := ⟨_, rfl⟩
              have hc1 := cell_below hb2 (HC.out (n + g) g2)
              have hc2 := cell_below hb2 (HC.out j (by omega))
              have hs2 : IntKind.i64.wrap ((n : Int) + (g : Int) - ((k : Int) + 1)) = (j : Int) := by rw [IntKind.wrap_i64]; omega
              have h0 : (0 : Int) ≤ (n : Int) + (g : Int) := by omega
              have hN : ((n : Int) + (g : Int)).toNat = n + g := by omega
              have hjl : (j : Int) < (b.length : Int) := by omega
              have hh : q = if b.getD (n + g) 0 = b.getD j 0 then likeG b n (k + 1) (131 - (g + 1)) (g + 1) else g := by
                rw [HK.out, hf, likeG, hj]
                by_cases he : b.getD (n + g) 0 = b.getD (n + g - (k + 1)) 0
                · rw [if_pos ⟨g2, he⟩, if_pos he]
                · rw [if_neg (fun h => he h.2), if_neg he]
              generalize b.getD (n + g) 0 = X at hc1 hh
              generalize b.getD j 0 = Y at hc2 hh
              have hxy := u8_eqI X Y
              by_cases he : X = Y
              · rw [if_pos he] at hh
                have HH := Lib.hid hh
                have hxe : ((X.toNat : Int) == (Y.toNat : Int)) = true := by rw [hxy]; simpa using he
                clear hh hxy he hj hf
                go_wp2
                go_quiet (fail)
                go_wp2
                go_roundw
                case rel => exact ⟨g + 1, by go_num, by omega, HH, pw_below_drewN hb2 _⟩
                case measure => simp [intOf] <;> omega
              · rw [if_neg he] at hh
                have HH := Lib.hid hh
                have hxe : ((X.toNat : Int) == (Y.toNat : Int)) = false := by rw [hxy]; simpa using he
                clear hh hxy he hj hf
                go_wp2
                go_quiet (fail)
                by_cases hgt : x < q
                · have hgt' : (x : Int) < (g : Int) := by have := HH.out; omega
                  have hs := HS.out
                  rw [if_pos hgt] at hs
                  have HS' := Lib.hid hs
                  clear hs hgt
                  go_wp2
                  go_roundw
                  case rel => first | exact ⟨_, _, _, ⟨k + 1, q, k + 1, by go_num, by omega, by first | (rw [HH.out]; done) | (rw [HH.out]; rfl), by go_num, HS'.out.symm, pw_below_drewN hb2 _⟩, rfl, rfl, rfl⟩ | exact ⟨k + 1, q, k + 1, by go_num, by omega, by first | (rw [HH.out]; done) | (rw [HH.out]; rfl), by go_num, HS'.out.symm, pw_below_drewN hb2 _⟩
                  case measure => simp [intOf] <;> omega
                · have hgt' : (g : Int) ≤ (x : Int) := by have := HH.out; omega
                  have hs := HS.out
                  rw [if_neg hgt] at hs
                  have HS' := Lib.hid hs
                  clear hs hgt
                  go_wp2
                  go_roundw
                  case rel => first | exact ⟨_, _, _, ⟨k + 1, x, y, by go_num, by omega, rfl, rfl, HS'.out.symm, pw_below_drewN hb2 _⟩, rfl, rfl, rfl⟩ | exact ⟨k + 1, x, y, by go_num, by omega, rfl, rfl, HS'.out.symm, pw_below_drewN hb2 _⟩
                  case measure => simp [intOf] <;> omega
            · have g2' : decide ((n : Int) + (g : Int) < (b.length : Int)) = false := by simp; omega
              have hh : q = g := by rw [HK.out, hf, likeG, if_neg (fun h => g2 h.1)]
              have HH := Lib.hid hh
              clear hh hf
              go_wp2
              go_quiet (fail)
              by_cases hgt : x < q
              · have hgt' : (x : Int) < (g : Int) := by have := HH.out; omega
                have hs := HS.out
                rw [if_pos hgt] at hs
                have HS' := Lib.hid hs
                clear hs hgt
                go_wp2
                go_roundw
                case rel => first | exact ⟨_, _, _, ⟨k + 1, q, k + 1, by go_num, by omega, by first | (rw [HH.out]; done) | (rw [HH.out]; rfl), by go_num, HS'.out.symm, pw_below_drewN hb2 _⟩, rfl, rfl, rfl⟩ | exact ⟨k + 1, q, k + 1, by go_num, by omega, by first | (rw [HH.out]; done) | (rw [HH.out]; rfl), by go_num, HS'.out.symm, pw_below_drewN hb2 _⟩
                case measure => simp [intOf] <;> omega
              · have hgt' : (g : Int) ≤ (x : Int) := by have := HH.out; omega
                have hs := HS.out
                rw [if_neg hgt] at hs
                have HS' := Lib.hid hs
                clear hs hgt
                go_wp2
                go_roundw
                case rel => first | exact ⟨_, _, _, ⟨k + 1, x, y, by go_num, by omega, rfl, rfl, HS'.out.symm, pw_below_drewN hb2 _⟩, rfl, rfl, rfl⟩ | exact ⟨k + 1, x, y, by go_num, by omega, rfl, rfl, HS'.out.symm, pw_below_drewN hb2 _⟩
                case measure => simp [intOf] <;> omega
          · obtain rfl : g = 131 := by omega
            have h1' : decide (((131 : Nat) : Int) < 131) = false := by decide
            have hh : q = 131 := by rw [HK.out]; rfl
            have HH := Lib.hid hh
            clear hh
            go_wp2
            go_quiet (fail)
            by_cases hgt : x < q
            · have hgt' : (x : Int) < ((131 : Nat) : Int) := by have := HH.out; omega
              have hs := HS.out
              rw [if_pos hgt] at hs
              have HS' := Lib.hid hs
              clear hs hgt
              go_wp2
              go_roundw
              case rel => first | exact ⟨_, _, _, ⟨k + 1, q, k + 1, by go_num, by omega, by first | (rw [HH.out]; done) | (rw [HH.out]; rfl), by go_num, HS'.out.symm, pw_below_drewN hb2 _⟩, rfl, rfl, rfl⟩ | exact ⟨k + 1, q, k + 1, by go_num, by omega, by first | (rw [HH.out]; done) | (rw [HH.out]; rfl), by go_num, HS'.out.symm, pw_below_drewN hb2 _⟩
              case measure => simp [intOf] <;> omega
            · have hgt' : ((131 : Nat) : Int) ≤ (x : Int) := by have := HH.out; omega
              have hs := HS.out
              rw [if_neg hgt] at hs
              have HS' := Lib.hid hs
              clear hs hgt
              go_wp2
              go_roundw
              case rel => first | exact ⟨_, _, _, ⟨k + 1, x, y, by go_num, by omega, rfl, rfl, HS'.out.symm, pw_below_drewN hb2 _⟩, rfl, rfl, rfl⟩ | exact ⟨k + 1, x, y, by go_num, by omega, rfl, rfl, HS'.out.symm, pw_below_drewN hb2 _⟩
              case measure => simp [intOf] <;> omega
      · obtain rfl : k = min n 255 := by omega
        have hh := HMR.out
        rw [← HM.out] at hh
        have hdd : (decide (((min n 255 : Nat) : Int) + 1 ≤ 255) = false) ∨ (decide (((min n 255 : Nat) : Int) + 1 ≤ 255) = true ∧ decide (((min n 255 : Nat) : Int) + 1 ≤ (n : Int)) = false) := by
          simp; omega
        by_cases h4 : x < 4
        · have h4' : (x : Int) < 4 := by omega
          rw [if_pos h4] at hh
          have HH := Lib.hid hh
          clear hh h4
          rcases hdd with hd | ⟨hd, hd3⟩
          all_goals
            go_wp2
            go_ret2
            exact ⟨by rw [HH.out]; rfl, hb⟩
        · have h4' : (4 : Int) ≤ (x : Int) := by omega
          rw [if_neg h4] at hh
          have HH := Lib.hid hh
          clear hh h4
          rcases hdd with hd | ⟨hd, hd3⟩
          all_goals
            go_wp2
            go_ret2
            exact ⟨by rw [HH.out]; rfl, hb⟩
  · have hm : matchI b i = (0, 0) := by
      by_cases h0 : i < 0
      · rw [matchI, if_pos (.inl h0)]
      · obtain rfl : i = 0 := by omega
        rw [matchI]
        split <;> rfl
    have hd : decide (1 ≤ i) = false := by simpa using h1
    rw [hm]
    clear hm hv
    go_enter Try.func16, Try.ntmps16
    go_wp2
    go_loop [6, 7, 8] (fun v6 v7 v8 => v6 = .int .i64 0 ∧ v7 = .int .i64 0 ∧ v8 = .int .i64 1) (fun _ _ _ => 0)
    case atStart => exact ⟨rfl, rfl, rfl⟩
    case round =>
      obtain ⟨rfl, rfl, rfl⟩ := hrel
      go_wp2
      go_ret2
      exact ⟨rfl, Below.refl _ _⟩
end Go.Proofs.Ytfnneneaalaagaa
