/- Layer 28: the reference's Squeeze. -/
import Derived.Test.YtfnneneaalaagaaSqz4
namespace Go.Proofs.Ytfnneneaalaagaa
open Go.RowKit
set_option linter.unusedSimpArgs false
set_option linter.unusedVariables false

set_option maxHeartbeats 1600000 in
set_option maxRecDepth 100000 in
theorem rSqueeze_any (v : Value) (b : List UInt8) (w : World) (hb : RB w v b) (hl : b.length ≤ 1000000000) :
    Calls Try.prog 14 #[v] w fun e w' => ∃ v', e = .returned (.tuple #[v', .int .i64 (sqE b : Int)]) ∧ OB w' w.heap.size v' (sqL b) ∧ Below w.heap.size w w' := by
  obtain ⟨A, c, rfl, hc⟩ := id hb.len
  by_cases h5 : 5000 < b.length
  · have hE : sqE b = 4 := by rw [sqE, if_pos h5]
    have hL : sqL b = [] := by rw [sqL, if_pos h5]
    rw [hE, hL]
    have h5' : (5000 : Int) < (b.length : Int) := by omega
    clear hE hL hb
    go_enter Try.func14, Try.ntmps14
    go_wp2
    go_ret2
    exact ⟨_, rfl, OR.nil _ _, Below.refl _ _⟩
  have hE : sqE b = 0 := by rw [sqE, if_neg h5]
  have hL : putL b.length ++ sqG b 0 0 = sqL b := by rw [sqL, if_neg h5]
  have h5' : (b.length : Int) ≤ 5000 := by omega
  have cP := rPut_any (.slice none 0 0) [] b.length w (RR.nil _) (by simp) (by unfold W64; omega)
  have hpl : (putL b.length).length ≤ 20 := by have := putL_len64 b.length (by unfold W64; omega); omega
  have hu64 : IntKind.u64.wrap (b.length : Int) = (b.length : Int) := by rw [IntKind.wrap_u64]; omega
  rw [List.nil_append] at cP
  rw [hE]
  have HL := Lib.hid hL
  have HPL := Lib.hid hpl
  clear hE hL h5 hpl
  go_enter Try.func14, Try.ntmps14
  go_wp2_with (first
    | (go_at_call 41; (with_reducible refine cP.mono ?_); rintro e w1 ⟨v1, rfl, ho1, hb1⟩; have H := (SH.start Nil w).pushRow hb1 ho1; clear ho1 hb1))
  clear cP
  go_loopw [4, 5, 6] (fun v4 v5 v6 wr => relS b w v4 v5 v6 wr) (fun _ _ v _ => (b.length - intOf v).toNat)
  case atStart => exact ⟨0, 0, _, rfl, rfl, by omega, by omega, HL, by have := HPL.out; omega, H⟩
  case round =>
    rename_i v4 v5 v6 wr
    obtain ⟨fr, i, done, rfl, rfl, hfi, hi, HD, hdl, HS⟩ := hrel
    clear H
    by_cases hp : i < b.length
    · have hp' : (i : Int) < (b.length : Int) := by omega
      have cM := rMatch_any (.slice A b.length c) b (i : Int) wr (hb.below HS.below) hl
      rw [matchI_nat b i hp] at cM
      have hmr := matchR_le b i (by omega)
      have g1 := sqG_next b fr i hp
      have g2 := sqG_like b fr i hp
      obtain ⟨p, hpp⟩ : ∃ p, p = (matchR b i).1 := ⟨_, rfl⟩
      obtain ⟨q, hqq⟩ : ∃ q, q = (matchR b i).2 := ⟨_, rfl⟩
      rw [← hpp, ← hqq] at cM hmr g2
      rw [← hpp] at g1
      clear hpp hqq
      by_cases h0 : p = 0
      · subst h0
        have hd := HD.out
        rw [g1 rfl] at hd
        have HD2 := Lib.hid hd
        clear g1 g2 hd
        go_wp2_with (first
          | (go_at_call 16; (with_reducible refine cM.mono ?_); rintro e w2 ⟨rfl, hb2⟩; replace HS := HS.step hb2; clear hb2 cM))
        go_roundw
        case rel => first | exact ⟨_, _, _, ⟨fr, i + 1, done, rfl, by go_num, by omega, by omega, HD2, hdl, HS⟩, rfl, rfl, rfl⟩ | exact ⟨fr, i + 1, done, rfl, by go_num, by omega, by omega, HD2, hdl, HS⟩
        case measure => simp [intOf] <;> omega
      · have hne : ((p : Int) == 0) = false := by simpa using h0
        have hd := HD.out
        rw [g2 h0] at hd
        obtain ⟨A1, hcut1, _, _, hr1⟩ := cutB A c b fr i hfi (by omega) hc
        have hk1 : ∀ W, (Instr.slice 22 (.slice A b.length c) (some (.int .i64 (fr : Int))) (some (.int .i64 (i : Int))) none).run Try.prog W = .ok (.slice A1 (i - fr) (c - fr)) W := hcut1 .i64 .i64
        have hrb := hr1 w hb
        have htl : ((b.take i).drop fr).length ≤ i - fr := by rw [List.length_drop, List.length_take]; omega
        have hpl := plainL_len _ ((b.take i).drop fr) rfl
        generalize (b.take i).drop fr = T at hd hrb htl hpl
        have hd2 : (done ++ plainL T ++ [UInt8.ofNat (p + 124), UInt8.ofNat q]) ++ sqG b (i + p) (i + p) = sqL b := by rw [← hd]; simp only [List.append_assoc]
        have HD2 := Lib.hid hd2
        have hT : (done ++ plainL T).length ≤ 2 * i + 20 := by rw [List.length_append]; omega
        have HT := Lib.hid hT
        have hp131 : p ≤ 131 := hmr.1
        have hw1 : IntKind.u8.wrap ((p : Int) + 124) = ((UInt8.ofNat (p + 124)).toNat : Int) := by have := u8w (p + 124) (by omega); push_cast at this; exact this
        have hw2 := u8w q (by omega)
        have HPT := Lib.hid hpl
        have hip : i + p ≤ b.length := by omega
        have hq255 : Hid (q ≤ 255) := hmr.2.2.2.1
        clear hd hd2 hpl g1 g2 hcut1 hr1 hmr hT
        go_wp2_with (first
          | (go_at_call 16; (with_reducible refine cM.mono ?_); rintro e w2 ⟨rfl, hb2⟩; replace HS := HS.step hb2; clear hb2 cM)
          | (go_at_call 42; (with_reducible refine (rplain_any _ T _ (hrb.below HS.below) (by omega)).mono ?_); rintro e w3 ⟨v3, rfl, ho3, hb3⟩; replace HS := HS.step hb3; clear hb3)
          | (at_builtin; refine wAppend sB HS 0 rfl _ (plainL T) ho3.reads (by have := HPT.out; show (_ + _) * 1 ≤ _; omega) _ _ rfl rfl rfl rfl ?_; clear HS ho3; intro v4 w4 HS)
          | (at_builtin; refine wAppLit sB [UInt8.ofNat (p + 124), UInt8.ofNat q] #[.int .u8 ((UInt8.ofNat (p + 124)).toNat : Int), .int .u8 ((UInt8.ofNat q).toNat : Int)] rfl (by simp) 2 rfl HS 0 rfl (by have := HT.out; show ((done ++ plainL T).length + 2) * 1 ≤ _; omega) _ _ rfl rfl rfl rfl ?_; clear HS; intro v5 w5 HS))
        go_roundw
        case rel => first | exact ⟨_, _, _, ⟨i + p, i + p, _, by go_num, by go_num, by omega, by omega, HD2, by have := HT.out; rw [List.length_append]; simp only [List.length_cons, List.length_nil]; omega, HS⟩, rfl, rfl, rfl⟩ | exact ⟨i + p, i + p, _, by go_num, by go_num, by omega, by omega, HD2, by have := HT.out; rw [List.length_append]; simp only [List.length_cons, List.length_nil]; omega, HS⟩
        case measure => simp [intOf]; omega
    · have hp' : ¬ (i : Int) < (b.length : Int) := by omega
      have hd := HD.out
      rw [sqG_end b fr i hp] at hd
      obtain ⟨A1, _, hcut1, _, hr1⟩ := cutB A c b fr b.length (by omega) (Nat.le_refl _) hc
      have hk1 : ∀ W, (Instr.slice 22 (.slice A b.length c) (some (.int .i64 (fr : Int))) none none).run Try.prog W = .ok (.slice A1 (b.length - fr) (c - fr)) W := fun W => hcut1 .i64 W rfl
      have hrb := hr1 w hb
      rw [List.take_of_length_le (Nat.le_refl _)] at hrb
      have htl : (b.drop fr).length ≤ 5000 := by rw [List.length_drop]; omega
      have HD2 := Lib.hid hd
      have hpl := plainL_len _ (b.drop fr) rfl
      generalize b.drop fr = T at HD2 hrb htl hd hpl
      have HPT := Lib.hid hpl
      clear hd hcut1 hr1 hpl
      go_wp2_with (first
        | (go_at_call 42; (with_reducible refine (rplain_any _ T _ (hrb.below HS.below) (by omega)).mono ?_); rintro e w3 ⟨v3, rfl, ho3, hb3⟩; replace HS := HS.step hb3; clear hb3)
        | (at_builtin; refine wAppend sB HS 0 rfl _ (plainL T) ho3.reads (by have := HPT.out; show (_ + _) * 1 ≤ _; omega) _ _ rfl rfl rfl rfl ?_; clear HS ho3; intro v4 w4 HS))
      go_ret2
      have ho := HS.orow 0 rfl
      rw [HD2.out] at ho
      exact ⟨_, rfl, ho, HS.below⟩
end Go.Proofs.Ytfnneneaalaagaa
