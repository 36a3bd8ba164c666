/- Layer 28: likenesses, of both. -/
import Derived.Test.YtfnneneaalaagaaSep2
import Derived.Test.YtfnneneaalaagaaNum3
namespace Go.Proofs.Ytfnneneaalaagaa
open Go.RowKit
set_option linter.unusedSimpArgs false
set_option linter.unusedVariables false

/-- How many bytes from i + n on are those d ahead, f at most. -/
def likeG (b : List UInt8) (i d : Nat) : Nat → Nat → Nat
  | 0, n => n
  | f + 1, n => if i + n < b.length ∧ b.getD (i + n) 0 = b.getD (i + n - d) 0 then likeG b i d f (n + 1) else n
def like (b : List UInt8) (i d : Nat) : Nat := likeG b i d 131 0
theorem likeG_le (b : List UInt8) (i d : Nat) : ∀ f n, n ≤ likeG b i d f n ∧ likeG b i d f n ≤ n + f ∧ (likeG b i d f n = n ∨ i + likeG b i d f n ≤ b.length)
  | 0, n => ⟨Nat.le_refl _, Nat.le_refl _, .inl rfl⟩
  | f + 1, n => by
    rw [likeG]
    split
    · rename_i h
      have := likeG_le b i d f (n + 1)
      refine ⟨by omega, by omega, ?_⟩
      rcases this.2.2 with h2 | h2
      · exact .inr (by omega)
      · exact .inr h2
    · exact ⟨Nat.le_refl _, by omega, .inl rfl⟩
theorem like_le (b : List UInt8) (i d : Nat) (h : i ≤ b.length) : like b i d ≤ 131 ∧ i + like b i d ≤ b.length := by
  have := likeG_le b i d 131 0
  unfold like
  omega
/-- The longest likeness, and how far ahead, up to d ahead. -/
def mt (b : List UInt8) (i : Nat) : Nat → Nat × Nat
  | 0 => (0, 0)
  | d + 1 => if (mt b i d).1 < like b i (d + 1) then (like b i (d + 1), d + 1) else mt b i d
/-- The same, as the program has it. -/
def mp (b : List UInt8) (i d : Nat) : Nat × Nat := if (mt b i d).1 < 4 then (3, 0) else mt b i d
theorem mp_succ (b : List UInt8) (i d : Nat) : mp b i (d + 1) = if (mp b i d).1 < like b i (d + 1) then (like b i (d + 1), d + 1) else mp b i d := by
  unfold mp
  rw [mt]
  by_cases h1 : (mt b i d).1 < 4 <;> by_cases h2 : (mt b i d).1 < like b i (d + 1) <;> by_cases h3 : like b i (d + 1) < 4 <;> simp only [h1, h2, h3, ↓reduceIte] <;> (try omega) <;> (split <;> first | rfl | omega)
theorem mt_le (b : List UInt8) (i : Nat) (h : i ≤ b.length) : ∀ d, (mt b i d).1 ≤ 131 ∧ i + (mt b i d).1 ≤ b.length ∧ (mt b i d).2 ≤ d ∧ (0 < (mt b i d).1 → 0 < (mt b i d).2)
  | 0 => ⟨by simp [mt], by simp [mt]; exact h, by simp [mt], by simp [mt]⟩
  | d + 1 => by
    have := mt_le b i h d
    have h2 := like_le b i (d + 1) h
    rw [mt]
    split
    · exact ⟨h2.1, h2.2, Nat.le_refl _, fun _ => by simp⟩
    · exact ⟨this.1, this.2.1, by omega, this.2.2.2⟩
theorem mp_le (b : List UInt8) (i : Nat) (h : i ≤ b.length) (d : Nat) : (mp b i d).1 ≤ 131 ∧ (mp b i d).2 ≤ d := by
  have := mt_le b i h d
  unfold mp
  split
  · simp
  · exact ⟨by omega, by omega⟩
def matchR (b : List UInt8) (i : Nat) : Nat × Nat := if (mt b i (min i 255)).1 < 4 then (0, 0) else mt b i (min i 255)
def matchI (b : List UInt8) (i : Int) : Nat × Nat := if i < 0 ∨ (b.length : Int) ≤ i then (0, 0) else matchR b i.toNat
theorem matchR_mp (b : List UInt8) (i : Nat) (h : i ≤ b.length) : matchR b i = if (mp b i (min i 255)).2 = 0 then (0, 0) else mp b i (min i 255) := by
  have := mt_le b i h (min i 255)
  unfold matchR mp
  by_cases h4 : (mt b i (min i 255)).1 < 4
  · rw [if_pos h4, if_pos h4, if_pos rfl]
  · rw [if_neg h4, if_neg h4, if_neg (by omega)]
theorem matchR_le (b : List UInt8) (i : Nat) (h : i ≤ b.length) : (matchR b i).1 ≤ 131 ∧ i + (matchR b i).1 ≤ b.length ∧ (matchR b i).2 ≤ i ∧ (matchR b i).2 ≤ 255 ∧ ((matchR b i).1 = 0 ∨ 4 ≤ (matchR b i).1 ∧ 0 < (matchR b i).2) := by
  have := mt_le b i h (min i 255)
  unfold matchR
  split
  · simp; exact h
  · refine ⟨by omega, by omega, by omega, by omega, by omega⟩

/-- A byte of a row that is read. -/
theorem RB.byte {w : World} {A : Option Addr} {n c : Nat} {xs : List UInt8} (h : RB w (.slice A n c) xs) (hp : 0 < xs.length) : ∃ ad, A = some ad ∧ ∀ k, k < xs.length → w.cell? (ad.add k) = some (.int .u8 ((xs.getD k 0).toNat : Int)) := by
  obtain ⟨ad, rfl, hcc⟩ := h.at0 hp
  refine ⟨ad, rfl, fun k hk => hcc k _ ?_⟩
  rw [List.getElem?_map, List.getD_eq_getElem?_getD, List.getElem?_eq_getElem hk]
  rfl

set_option maxHeartbeats 1600000 in
set_option maxRecDepth 100000 in
theorem like_any (v : Value) (b : List UInt8) (i d : Nat) (w : World) (hv : RB w v b) (hl : b.length ≤ 1000000000) (hi : i < b.length) (hd : d ≤ i) :
    Calls Try.prog 43 #[v, .int .i64 (i : Int), .int .i64 (d : Int)] w fun e w' => e = .returned (.int .i64 (like b i d : Int)) ∧ Below w.heap.size w w' := by
  obtain ⟨A, c, rfl, hc⟩ := id hv.len
  obtain ⟨ad, rfl, hcell⟩ := hv.byte (by omega)
  obtain ⟨r, hr⟩ : ∃ r, r = like b i d := ⟨_, rfl⟩
  rw [← hr]
  unfold like at hr
  have HR := Lib.hid hr
  have HC := Lib.hid hcell
  clear hr hcell hv
  go_enter Try.func43, Try.ntmps43
  go_wp2
  go_loopw [7] (fun v7 wr => ∃ (k : Nat), v7 = .int .i64 (k : Int) ∧ k ≤ 131 ∧ Hid (r = likeG b i d (131 - k) k) ∧ Below w.heap.size w wr) (fun i _ => 131 - (intOf i).toNat)
  case atStart => exact ⟨0, rfl, by omega, HR, Below.refl _ _⟩
  case round =>
    obtain ⟨k, rfl, hk, HK, hb⟩ := hrel
    by_cases h1 : k < 131
    · have h1' : decide ((k : Int) < 131) = true := by simp; omega
      have hf : 131 - k = (131 - (k + 1)) + 1 := by omega
      have hs : IntKind.i64.wrap ((i : Int) + (k : Int)) = (i : Int) + (k : Int) := by rw [IntKind.wrap_i64]; omega
      by_cases h2 : i + k < b.length
      · have h2' : decide ((i : Int) + (k : Int) < (b.length : Int)) = true := by simp; omega
        obtain ⟨j, hj⟩ : ∃ j, j = i + k - d := ⟨_, rfl⟩
        have hc1 := cell_below hb (HC.out (i + k) h2)
        have hc2 := cell_below hb (HC.out j (by omega))
        have hs2 : IntKind.i64.wrap ((i : Int) + (k : Int) - (d : Int)) = (j : Int) := by rw [IntKind.wrap_i64]; omega
        have h0 : (0 : Int) ≤ (i : Int) + (k : Int) := by omega
        have hN : ((i : Int) + (k : Int)).toNat = i + k := by omega
        have hjl : (j : Int) < (b.length : Int) := by omega
        have hh : r = if b.getD (i + k) 0 = b.getD j 0 then likeG b i d (131 - (k + 1)) (k + 1) else k := by
          rw [HK.out, hf, likeG, hj]
          by_cases he : b.getD (i + k) 0 = b.getD (i + k - d) 0
          · rw [if_pos ⟨h2, he⟩, if_pos he]
          · rw [if_neg (fun h => he h.2), if_neg he]
        generalize b.getD (i + k) 0 = x at hc1 hh
        generalize b.getD j 0 = y at hc2 hh
        have hxy := u8_eqI x y
        by_cases he : x = y
        · rw [if_pos he] at hh
          have HH := Lib.hid hh
          have hxe : ((x.toNat : Int) == (y.toNat : Int)) = true := by rw [hxy]; simpa using he
          clear hh hxy he hj hf
          go_wp2
          go_quiet (fail)
          go_wp2
          go_roundw
          case rel => exact ⟨k + 1, by go_num, by omega, HH, pw_below_drewN hb _⟩
          case measure => simp [intOf] <;> omega
        · rw [if_neg he] at hh
          have HH := Lib.hid hh
          have hxe : ((x.toNat : Int) == (y.toNat : Int)) = false := by rw [hxy]; simpa using he
          clear hh hxy he hj hf
          go_wp2
          go_quiet (fail)
          go_wp2
          go_ret
          exact ⟨by rw [HH.out]; rfl, pw_below_drewN hb _⟩
      · have h2' : decide ((i : Int) + (k : Int) < (b.length : Int)) = false := by simp; omega
        have hh : r = k := by rw [HK.out, hf, likeG, if_neg (fun h => h2 h.1)]
        have HH := Lib.hid hh
        clear hh hf
        go_wp2
        go_quiet (fail)
        go_wp2
        go_ret
        exact ⟨by rw [HH.out]; rfl, pw_below_drewN hb _⟩
    · obtain rfl : k = 131 := by omega
      have h1' : decide (((131 : Nat) : Int) < 131) = false := by decide
      have hh : r = 131 := by rw [HK.out]; rfl
      have HH := Lib.hid hh
      clear hh
      go_wp2
      go_quiet (fail)
      go_wp2
      go_ret
      exact ⟨by rw [HH.out]; rfl, pw_below_drewN hb _⟩

def relM (b : List UInt8) (n : Nat) (w : World) (v6 v7 v8 : Value) (wr : World) : Prop := ∃ (k x y : Nat), v8 = .int .i64 ((k : Int) + 1) ∧ k ≤ min n 255 ∧ v6 = .int .i64 (x : Int) ∧ v7 = .int .i64 (y : Int) ∧ Hid ((x, y) = mp b n k) ∧ Below w.heap.size w wr
set_option maxHeartbeats 1600000 in
set_option maxRecDepth 100000 in
theorem Match_any (v : Value) (b : List UInt8) (i : Int) (w : World) (hv : RB w v b) (hl : b.length ≤ 1000000000) :
    Calls Try.prog 15 #[v, .int .i64 i] w fun e w' => e = .returned (.tuple #[.int .i64 ((matchI b i).1 : Int), .int .i64 ((matchI b i).2 : Int)]) ∧ Below w.heap.size w w' := by
  obtain ⟨A, c, rfl, hc⟩ := id hv.len
  by_cases h1 : i < 0
  · have hm : matchI b i = (0, 0) := by rw [matchI, if_pos (.inl h1)]
    have hd : decide (i < 0) = true := by simpa using h1
    rw [hm]
    clear hm hv
    go_enter Try.func15, Try.ntmps15
    go_wp2
    go_ret2
    exact ⟨rfl, Below.refl _ _⟩
  by_cases h2 : (b.length : Int) ≤ i
  · have hm : matchI b i = (0, 0) := by rw [matchI, if_pos (.inr h2)]
    have hd : decide (i < 0) = false := by simpa using h1
    have hd2 : decide ((b.length : Int) ≤ i) = true := by simpa using h2
    rw [hm]
    clear hm hv
    go_enter Try.func15, Try.ntmps15
    go_wp2
    go_ret2
    exact ⟨rfl, Below.refl _ _⟩
  obtain ⟨n, rfl⟩ : ∃ n : Nat, i = n := ⟨i.toNat, by omega⟩
  have hn : n < b.length := by omega
  have hm : matchI b n = matchR b n := by rw [matchI, if_neg (by omega)]; rfl
  have hmr := matchR_mp b n (by omega)
  rw [hm]
  obtain ⟨r, hr⟩ : ∃ r, r = matchR b n := ⟨_, rfl⟩
  rw [← hr] at hmr ⊢
  have HMR := Lib.hid hmr
  have hd : decide ((n : Int) < 0) = false := by simp
  have hd2 : decide ((b.length : Int) ≤ (n : Int)) = false := by simp; omega
  clear hm hr hmr h1 h2
  have cL : ∀ W, Below w.heap.size w W → ∀ d : Nat, d ≤ n → Calls Try.prog 43 #[.slice A b.length c, .int .i64 (n : Int), .int .i64 (d : Int)] W fun e w' => e = .returned (.int .i64 (like b n d : Int)) ∧ Below W.heap.size W w' := fun W h d hd => like_any _ b n d W (hv.below h) hl hn hd
  have CL := Lib.hid cL
  clear cL hv
  go_enter Try.func15, Try.ntmps15
  go_wp2
  go_loopw [6, 7, 8] (fun v6 v7 v8 wr => relM b n w v6 v7 v8 wr) (fun _ _ i _ => 256 - (intOf i).toNat)
  case atStart => exact ⟨0, 3, 0, rfl, by omega, rfl, rfl, by rfl, Below.refl _ _⟩
  case round =>
    obtain ⟨k, x, y, rfl, hk, rfl, rfl, HM, hb⟩ := hrel
    have hxy := mp_le b n (by omega) k
    rw [← HM.out] at hxy
    have hx : x ≤ 131 := hxy.1
    have hy : y ≤ k := hxy.2
    clear hxy
    by_cases hlt : k < min n 255
    · have hlt1 : (k : Int) + 1 ≤ (n : Int) := by omega
      have hlt2 : (k : Int) + 1 ≤ 255 := by omega
      have hlt3 : (k : Int) + 1 ≤ min (n : Int) 255 := by omega
      have hlk := like_le b n (k + 1) (by omega)
      have cl := CL.out _ hb (k + 1) (by omega)
      have hs := mp_succ b n k
      rw [← HM.out] at hs
      simp only at hs
      generalize like b n (k + 1) = q at hlk cl hs
      have hq := hlk.1
      push_cast at cl
      by_cases hgt : x < q
      · have hgt' : (x : Int) < (q : Int) := by omega
        rw [if_pos hgt] at hs
        have HS : Hid ((q, k + 1) = mp b n (k + 1)) := hs.symm
        clear hs hlk hlt hk
        go_wp2_with (first
          | (go_at_call 43; (with_reducible refine cl.mono ?_); rintro e w2 ⟨rfl, hb2⟩; replace hb := below_two hb hb.size hb2; clear hb2 cl))
        all_goals
          go_roundw
          case rel => exact ⟨_, _, _, ⟨k + 1, q, k + 1, by go_num, by omega, rfl, by go_num, HS, hb⟩, rfl, rfl, rfl⟩
          case measure => simp [intOf] <;> omega
      · have hgt' : (q : Int) ≤ (x : Int) := by omega
        rw [if_neg hgt] at hs
        have HS : Hid ((x, y) = mp b n (k + 1)) := hs.symm
        clear hs hlk hlt hk
        go_wp2_with (first
          | (go_at_call 43; (with_reducible refine cl.mono ?_); rintro e w2 ⟨rfl, hb2⟩; replace hb := below_two hb hb.size hb2; clear hb2 cl))
        all_goals
          go_roundw
          case rel => exact ⟨_, _, _, ⟨k + 1, x, y, by go_num, by omega, rfl, rfl, HS, hb⟩, rfl, rfl, rfl⟩
          case measure => simp [intOf] <;> omega
    · obtain rfl : k = min n 255 := by omega
      have hlt3 : ¬ ((min n 255 : Nat) : Int) + 1 ≤ min (n : Int) 255 := by omega
      have hh := HMR.out
      rw [← HM.out] at hh
      by_cases hy0 : y = 0
      · have hy0' : ((y : Int) == 0) = true := by simpa using hy0
        rw [if_pos hy0] at hh
        have HH := Lib.hid hh
        clear hh hy0
        go_wp2
        all_goals
          go_ret2
          exact ⟨by rw [HH.out]; rfl, hb⟩
      · have hy0' : ((y : Int) == 0) = false := by simpa using hy0
        rw [if_neg hy0] at hh
        have HH := Lib.hid hh
        clear hh hy0
        go_wp2
        all_goals
          go_ret2
          exact ⟨by rw [HH.out]; rfl, hb⟩
end Go.Proofs.Ytfnneneaalaagaa
