/- The laws of layer 1: the walk of NumTake. -/
import Derived.Test.YthogefehainmdaaLaw01c
namespace Go.Proofs.Ythogefehainmdaa
open Go.RowKit

def flip (P : List UInt8) (k : Nat) : List UInt8 := (P.take k).map (· ^^^ 255) ++ P.drop k
theorem flip_zero (P : List UInt8) : flip P 0 = P := by simp [flip]
theorem flip_all (P : List UInt8) : flip P P.length = P.map (· ^^^ 255) := by simp [flip]
theorem flip_len (P : List UInt8) (k : Nat) (h : k ≤ P.length) : (flip P k).length = P.length := by simp [flip]; omega
theorem flip_at (P : List UInt8) (k : Nat) (h : k < P.length) : (flip P k)[k]? = some P[k] := by
  unfold flip
  rw [List.getElem?_append_right (by simp; omega)]
  simp [Nat.min_eq_left (Nat.le_of_lt h), List.getElem?_eq_getElem h]
theorem flip_step (P : List UInt8) (k : Nat) (h : k < P.length) : (flip P k).set k (P[k] ^^^ 255) = flip P (k + 1) := by
  have hd : P.drop k = P[k] :: P.drop (k + 1) := List.drop_eq_getElem_cons h
  have hl : ((P.take k).map (· ^^^ 255)).length = k := by simp; omega
  unfold flip
  rw [hd, List.set_append_right _ _ (by omega), hl, Nat.sub_self, List.set_cons_zero, List.take_succ_eq_append_getElem h, List.map_append, List.append_assoc]
  rfl

theorem own_symm {a b : Option Nat} (h : a = none ∨ a ≠ b) : b = none ∨ b ≠ a := by
  rcases h with h | h
  · cases b with
    | none => exact .inl rfl
    | some k => exact .inr (by rw [h]; simp)
  · exact .inr (Ne.symm h)
/-- A byte of a row of the call's own, written. -/
theorem OB.store {w : World} {base g cap : Nat} {n : Nat} {xs : List UInt8} (h : OB w base (.slice (some ⟨g, 0, none⟩) n cap) xs) (hn : n = xs.length) (i : Nat) (x : UInt8) :
    OB (w.setCell ⟨g, i, none⟩ (cb x)) base (.slice (some ⟨g, 0, none⟩) n cap) (xs.set i x) ∧ w.grownBy (w.setCell ⟨g, i, none⟩ (cb x)) (some g) := by
  subst hn
  have hs := World.ownsRow.stored h i (cb x)
  refine ⟨?_, hs.2⟩
  unfold OB OR
  rw [List.length_set, U8_all, List.map_set]
  have h2 := hs.1
  rw [U8_all] at h2
  exact h2

set_option maxHeartbeats 3200000 in
set_option maxRecDepth 100000 in
theorem NumTake_any (vb : Value) (b : List UInt8) (n : Int) (w : World) (hb : RB w vb b) :
    Calls Try.prog 8 #[vb, .int .i64 n] w fun e w' => e = .returned (.bool true) ∧ Below w.heap.size w w' := by
  obtain ⟨A, c, rfl, hc⟩ := hb.len
  by_cases h1 : 300 < b.length
  · have h1' : (300 : Int) < (b.length : Int) := by omega
    go_enter Try.func8, Try.ntmps8
    go_wp2_with (first | (go_at_call 18; refine (alive01_any _).mono ?_; rintro e w1 ⟨rfl, hb1⟩))
    go_ret
    exact ⟨rfl, hb1⟩
  have h1' : (b.length : Int) ≤ 300 := by omega
  have hb0 : Below w.heap.size w (w.alloc (.cells #[] 5)) := (Below.refl _ _).alloc (Nat.le_refl _) _
  have ho0 : OB (w.alloc (.cells #[] 5)) w.heap.size (.slice (some ⟨w.heap.size, 0, none⟩) 0 0) [] := OB.lit w w.heap.size [] #[] rfl (Nat.le_refl _) (by simp)
  have hr0 := hb.below hb0
  have cT := fun W v h => Take_any v b W h (by omega)
  have rT := fun W v h => rTake_any v b W h (by omega)
  have cU := fun W v h => Take32_any v b W h (by omega)
  have rU := fun W v h => rTake32_any v b W h
  have cB := fun W v h => TakeBytes_any v b n W h (by omega)
  have rB := fun W v h h2 => rTakeBytes_any v b n w W h h2
  have hPl : (if n < 0 then [] else if n ≤ (b.length : Int) then b.take n.toNat else []).length ≤ 300 := by split <;> (try split) <;> simp <;> omega
  generalize (tkN b : Int) = xN at *
  generalize (tkE b : Int) = xE at *
  generalize tkR b = xR at *
  generalize (if 4 ≤ b.length then (get32 b : Int) else 0) = uN at *
  generalize (if 4 ≤ b.length then (0 : Int) else 2) = uE at *
  generalize (if 4 ≤ b.length then b.drop 4 else []) = uR at *
  generalize (if n < 0 then (1 : Int) else if n ≤ (b.length : Int) then 0 else 2) = pE at *
  generalize (if n < 0 then [] else if n ≤ (b.length : Int) then b.take n.toNat else []) = P at *
  generalize (if n < 0 then [] else if n ≤ (b.length : Int) then b.drop n.toNat else []) = T at *
  have CT := Lib.hid cT
  have RT := Lib.hid rT
  have CU := Lib.hid cU
  have RU := Lib.hid rU
  have CB := Lib.hid cB
  have RBS := Lib.hid rB
  clear cT rT cU rU cB rB
  go_enter Try.func8, Try.ntmps8
  go_wp2_with (first
    | (at_builtin; refine appBs w.heap.size (.tmp 31) (.tmp 32) _ _ [] b ho0 hr0 hb0 (by simp) (by simp) (by omega) rfl rfl rfl rfl ?_; clear ho0 hr0; intro v5 w1 ho1 hb1 hg1 hat1 hs1; rw [List.nil_append] at ho1)
    | (go_at_call 35; (with_reducible refine (CT.out _ _ ho1.reads).mono ?_); rintro e w2 ⟨v7, rfl, ho7, hb2⟩; have hbb := below_two hb1 hb1.size hb2)
    | (go_at_call 36; (with_reducible refine (RT.out _ _ (hb.below hbb)).mono ?_); rintro e w3 ⟨v10, rfl, hr10, hb3⟩; replace hbb := below_two hbb hbb.size hb3)
    | (go_at_call 37; (with_reducible refine (CU.out _ _ ((ho1.reads.below hb2).below hb3)).mono ?_); rintro e w4 ⟨v13, rfl, ho13, hb4⟩; replace hbb := below_two hbb hbb.size hb4)
    | (go_at_call 38; (with_reducible refine (RU.out _ _ (hb.below hbb)).mono ?_); rintro e w5 ⟨v16, rfl, hr16, hb5⟩; replace hbb := below_two hbb hbb.size hb5)
    | (go_at_call 39; (with_reducible refine (CB.out _ _ ((((ho1.reads.below hb2).below hb3).below hb4).below hb5)).mono ?_); rintro e w6 ⟨v18, v19, rfl, ho18, ho19, hap, hb6⟩; replace hbb := below_two hbb hbb.size hb6)
    | (go_at_call 40; (with_reducible refine (RBS.out _ _ hb hbb).mono ?_); rintro e w7 ⟨v21, v22, rfl, hr21, hr22, hb7⟩; replace hbb := below_two hbb hbb.size hb7; obtain ⟨A18, c18, rfl, hc18⟩ := ho18.reads.len; obtain ⟨A21, c21, rfl, hc21⟩ := (hr21 _ hbb).len))
  have hw7 : w5.heap.size ≤ w7.heap.size := Nat.le_trans hb6.size hb7.size
  have hoP : OB w7 w5.heap.size (.slice A18 P.length c18) (flip P 0) := by rw [flip_zero]; exact OR.below ho18 hb7
  have hpl' : (P.length : Int) ≤ 300 := by omega
  go_loopw [24] (fun v24 wr => ∃ k : Nat, v24 = .int .i64 (k : Int) ∧ k ≤ P.length ∧ OB wr w5.heap.size (.slice A18 P.length c18) (flip P k) ∧ w7.grownBy wr (Value.slice A18 P.length c18).ownBlock) (fun v _ => P.length - (intOf v).toNat)
  case atStart => exact ⟨0, rfl, Nat.zero_le _, hoP, World.grownBy.refl _ _⟩
  case round =>
    obtain ⟨k, rfl, hk, ho, hg⟩ := hrel
    by_cases hkP : k < P.length
    · have hkP' : (k : Int) < (P.length : Int) := by omega
      obtain ⟨g, cap, hv, _, _⟩ := World.ownsRow.form ho (by rw [flip_len P k hk]; omega)
      injection hv with hv1 hv2 hv3
      subst hv1
      have hcell := World.ownsRow.cells ho (g := g) rfl k (cb P[k]) (by rw [U8_all, List.getElem?_map, flip_at P k hkP]; rfl)
      rw [show (⟨g, 0, none⟩ : Addr).add k = ⟨g, k, none⟩ by unfold Addr.add; split <;> simp_all] at hcell
      have hfz : wr.frozen? ⟨g, k, none⟩ = false := by
        rcases World.ownsRow.form ho (by rw [flip_len P k hk]; omega) with ⟨g', cap', hv', _, _⟩
        rcases ho.2 with ⟨h1, _⟩ | ⟨g2, cap2, cur, h1, _, hh, _⟩
        · cases h1
        · injection h1 with h1; injection h1 with h1; injection h1 with h1; subst h1; simp [World.frozen?, hh]
      obtain ⟨hst, hgs⟩ := OB.store ho (flip_len P k hk).symm k (P[k] ^^^ 255)
      rw [flip_step P k hkP] at hst
      have hx := xor255 P[k]
      generalize P[k] = pk at *
      generalize pk ^^^ 255 = pq at *
      go_wp2
      go_roundw
      case rel => exact ⟨k + 1, by go_num, by omega, hst, World.grownBy.trans hg hgs⟩
      case measure => simp [intOf]; omega
    · have hkP' : (P.length : Int) ≤ (k : Int) := by omega
      obtain rfl : k = P.length := by omega
      rw [flip_all] at ho
      have hrP := ho.reads
      have hbw : Below w.heap.size w wr := hbb.grown hg hbb.size (fun k hk => Nat.le_trans (Nat.le_trans hb1.size (Nat.le_trans hb2.size (Nat.le_trans hb3.size (Nat.le_trans hb4.size hb5.size)))) ((OR.ge ho k hk).1))
      have hbelow5 : Below w5.heap.size w5 wr := (below_two hb6 hb6.size hb7).grown hg hw7 (fun k hk => (OR.ge ho k hk).1)
      have qb := hb.below hbw
      have q5 := ((((ho1.reads.below hb2).below hb3).below hb4).below hb5).below hbelow5
      have q7 := (((ho7.reads.below hb3).below hb4).below hb5).below hbelow5
      have q10 := (hr10.below hb4).below hb5 |>.below hbelow5
      have q13 := (ho13.reads.below hb5).below hbelow5
      have q16 := hr16.below hbelow5
      have q19 := (OR.other (OR.below ho19 hb7) hg (own_symm hap)).reads
      have q21 := hr21 wr hbw
      have q22 := hr22 wr hbw
      clear hr21 hr22 hap ho19 ho18 hoP ho13 hr16 hr10 ho7 ho1 hb1 hb2 hb3 hb4 hb5 hb6 hb7 hbb hg hb hbelow5 hw7 ho hb0
      go_wp2
      go_loopw [25, 26] (fun v25 v26 wq => ∃ k : Nat, v25 = .bool true ∧ v26 = .int .i64 (k : Int) ∧ k ≤ P.length ∧ Below wr.heap.size wr wq) (fun _ v _ => P.length - (intOf v).toNat)
      case atStart => exact ⟨0, rfl, rfl, Nat.zero_le _, Below.refl _ _⟩
      case round =>
        obtain ⟨k, rfl, rfl, hk, hbq⟩ := hrel
        by_cases hkP : k < P.length
        · have hkP2 : (k : Int) < (P.length : Int) := by omega
          obtain ⟨ad1, rfl, hc1⟩ := (hrP.below hbq).at_ k (by simpa using hkP)
          obtain ⟨ad2, rfl, hc2⟩ := (q21.below hbq).at_ k hkP
          have k1 := hc1 0 _ rfl
          have k2 := hc2 0 _ rfl
          simp only [show B8.sz = 1 from rfl, Nat.mul_one, Nat.add_zero, List.getElem_map] at k1 k2
          have hx := xor255' P[k]
          generalize P[k] = pk at *
          generalize pk ^^^ 255 = pq at *
          clear hc1 hc2
          go_wp2
          go_quiet (fail)
          go_wp2
          go_roundw
          case rel => exact ⟨k + 1, rfl, by go_num, by omega, pw_below_drewN hbq _⟩
          case measure => simp [intOf]; omega
        · have hkP2 : (P.length : Int) ≤ (k : Int) := by omega
          go_wp2_with (first
            | (go_at_call 18; refine (alive01_any _).mono ?_; rintro e w9 ⟨rfl, hb9⟩; replace hb9 := hbq.trans (hb9.mono hbq.size); have s7 := strB (q7.below hb9); have s10 := strB (q10.below hb9); have s13 := strB (q13.below hb9); have s16 := strB (q16.below hb9); have s19 := strB (q19.below hb9); have s22 := strB (q22.below hb9); have s5 := strB (q5.below hb9); have sb := strB (qb.below hb9)))
          go_ret
          exact ⟨rfl, below_two hbw hbw.size hb9⟩

end Go.Proofs.Ythogefehainmdaa
