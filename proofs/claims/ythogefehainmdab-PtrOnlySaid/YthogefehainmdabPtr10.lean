/- The reference's Decode. -/
import Derived.Test.YthogefehainmdabPtr9
import Derived.Test.YthogefehainmdabRef01c
namespace Go.Proofs.Ythogefehainmdab
open Go.RowKit
set_option linter.unusedSimpArgs false
set_option linter.unusedVariables false

/-- The hash so far. -/
def hashK (xs : List UInt8) (k : Nat) : List UInt8 := xs.take k ++ List.replicate (32 - k) 0
theorem hashK_len (xs : List UInt8) (k : Nat) (h : k ≤ 32) (hl : 32 ≤ xs.length) : (hashK xs k).length = 32 := by simp [hashK]; omega
theorem hashK_set (xs : List UInt8) (k : Nat) (h : k < 32) (hl : 32 ≤ xs.length) (T : List Value) : lay ((hashK xs k).map cb ++ T) k [cb (xs.getD k 0)] = (hashK xs (k + 1)).map cb ++ T := by
  have e0 : 32 - k = (32 - (k + 1)) + 1 := by omega
  have e1 : ((xs.take k).map cb).length = k := by rw [List.length_map, List.length_take]; omega
  have e2 : xs.take (k + 1) = xs.take k ++ [xs.getD k 0] := by rw [List.take_succ_eq_append_getElem (by omega), List.getD_eq_getElem?_getD, List.getElem?_eq_getElem (by omega)]; rfl
  rw [hashK, hashK, e0, e2, List.replicate_succ, List.map_append, List.append_assoc, lay, List.take_left' e1, List.length_singleton, ← List.drop_drop, List.drop_left' e1, List.map_cons, List.cons_append, List.drop_succ_cons, List.drop_zero]
  simp
theorem two_built (x y : UInt32) : Program.built Try.prog 31 [(0, u32 x), (1, u32 y)] = some [u32 x, u32 y].toArray := rfl

theorem PT.lay33b (p : PT) (m n : UInt32) : lay p.cells 33 [u32 m, u32 n] = (PT.mk p.hash p.hl p.birth m n).cells := by
  have e : p.cells.take 33 = p.hash.map cb ++ [u32 p.birth] := by
    rw [PT.cells, List.take_append, List.length_map, p.hl, List.take_of_length_le (by simp [p.hl])]
    rfl
  have e2 : p.cells.drop 35 = [] := List.drop_of_length_le (by rw [PT.len]; omega)
  rw [lay, e, show 33 + [u32 m, u32 n].length = 35 from rfl, e2, List.append_nil, List.append_assoc]
  rfl

theorem two_one {a b : UInt32} : ∀ v ∈ [u32 a, u32 b], v.oneCell' = true := by
  intro v hv
  rcases List.mem_cons.mp hv with rfl | hv
  · rfl
  · rw [List.mem_singleton.mp hv]; rfl
set_option maxHeartbeats 1600000 in
set_option maxRecDepth 100000 in
theorem rDecode_any (v : Value) (xs : List UInt8) (w : World) (hv : RB w v xs) (hl : xs.length ≤ 1000000000) :
    Calls Try.prog 12 #[v] w fun e w' => e = .returned (.tuple #[(decP xs).val, .int .i64 (decE xs : Int)]) ∧ Below w.heap.size w w' := by
  obtain ⟨A, c, rfl, hc⟩ := id hv.len
  have H := SH.start Nil w
  by_cases h44 : xs.length < 44
  · have hE : decE xs = 2 := by rw [decE, if_pos h44]
    have hP : decP xs = PT.hole := by rw [decP, hE, if_neg (by decide)]
    rw [hE, hP]
    have h44' : (xs.length : Int) < 44 := by omega
    clear hE hP h44
    go_enter Try.func12, Try.ntmps12
    go_wp2_with (first
      | (refine wAlloc ptT H rfl rfl ?_; clear H; intro w1 H)
      | (refine wZero ptT rfl rfl ?_)
      | (refine wStore ptT PT.hole H 0 rfl PT.hole.len _ _ rfl rfl rfl rfl ?_; clear H; intro w2 H))
    refine bodyPost_ret (results_cell_tmp rfl _ (H.va 0 rfl) rfl _ Try.underlying33 rfl (PT.info _)) rfl ?_
    exact ⟨rfl, H.below⟩
  · have h44' : (44 : Int) ≤ (xs.length : Int) := by omega
    obtain ⟨ad, rfl, hcc⟩ := RB.at0 hv (by omega)
    have hcB : ∀ k, k < xs.length → w.cell? (ad.add k) = some (cb (xs.getD k 0)) := fun k hk => by
      refine hcc k _ ?_
      rw [List.getElem?_map, List.getD_eq_getElem?_getD, List.getElem?_eq_getElem hk]
      rfl
    have cut : ∀ (n : Nat), n ≤ 44 → ∃ A2, (∀ W, (Instr.slice 22 (.slice (some ad) xs.length c) (some (.int .i64 (n : Int))) none none).run Try.prog W = .ok (.slice A2 (xs.length - n) (c - n)) W) ∧ ∀ w', Below w.heap.size w w' → RB w' (.slice A2 (xs.length - n) (c - n)) (xs.drop n) := fun n hn => by
      obtain ⟨A2, g4, g5, g6, g7⟩ := cutB (some ad) c xs n xs.length (by omega) (Nat.le_refl _) hc
      refine ⟨A2, fun W => g5 .i64 W rfl, fun w' hb => ?_⟩
      have := g7 w' (hv.below hb)
      rw [List.take_of_length_le (Nat.le_refl _)] at this
      exact this
    obtain ⟨A1, hk1', hr1⟩ := cut 32 (by omega)
    have hk1 : ∀ W, (Instr.slice 22 (.slice (some ad) xs.length c) (some (.int .i64 32)) none none).run Try.prog W = .ok (.slice A1 (xs.length - 32) (c - 32)) W := hk1'
    clear hk1'
    obtain ⟨A2, hk2', hr2⟩ := cut 36 (by omega)
    have hk2 : ∀ W, (Instr.slice 22 (.slice (some ad) xs.length c) (some (.int .i64 36)) none none).run Try.prog W = .ok (.slice A2 (xs.length - 36) (c - 36)) W := hk2'
    clear hk2'
    obtain ⟨A3, hk3', hr3⟩ := cut 40 (by omega)
    have hk3 : ∀ W, (Instr.slice 22 (.slice (some ad) xs.length c) (some (.int .i64 40)) none none).run Try.prog W = .ok (.slice A3 (xs.length - 40) (c - 40)) W := hk3'
    clear hk3'
    obtain ⟨r, hr⟩ : ∃ r, r = rawP xs := ⟨_, rfl⟩
    have hrb : UInt32.ofNat (get32 (xs.drop 32)) = r.birth := by rw [hr]; rfl
    have hra : UInt32.ofNat (get32 (xs.drop 36)) = r.a0 := by rw [hr]; rfl
    have hrc : UInt32.ofNat (get32 (xs.drop 40)) = r.a1 := by rw [hr]; rfl
    have tk : ∀ n, n ≤ 40 → ∀ W v, RB W v (xs.drop n) → Calls Try.prog 24 #[v] W fun e w' => ∃ v', e = .returned (.tuple #[.int .u32 ((UInt32.ofNat (get32 (xs.drop n))).toNat : Int), v', .int .i64 0]) ∧ True ∧ Below W.heap.size W w' := fun n hn W v h => by
      have h1 := rTake32_any v (xs.drop n) W h
      have h4 : 4 ≤ (xs.drop n).length := by rw [List.length_drop]; omega
      rw [if_pos h4, if_pos h4, ← g32] at h1
      exact h1.mono fun e w' ⟨v', h2, _, h3⟩ => ⟨v', h2, trivial, h3⟩
    have c1 := tk 32 (by omega)
    have c2 := tk 36 (by omega)
    have c3 := tk 40 (by omega)
    rw [hrb] at c1
    rw [hra] at c2
    rw [hrc] at c3
    have hrh : r.hash = hashK xs 32 := by rw [hr, rawP_hash xs (by omega)]; simp [hashK]
    have hl32 : 32 ≤ xs.length := by omega
    have HCB := Lib.hid hcB
    have HR := Lib.hid hr
    have HRH := Lib.hid hrh
    have C1 := Lib.hid c1
    have C2 := Lib.hid c2
    have C3 := Lib.hid c3
    have cM0 : ∀ W, Calls Try.prog 25 #[.agg (ptT.enc r).toArray] W fun e w' => e = .returned (.bool r.may) ∧ Below W.heap.size W w' := fun W => rMay_any r W
    obtain ⟨q0, hq0⟩ : ∃ q, q = PT.mk r.hash r.hl 0 0 0 := ⟨_, rfl⟩
    obtain ⟨q1, hq1⟩ : ∃ q, q = PT.mk r.hash r.hl r.birth 0 0 := ⟨_, rfl⟩
    have h0 : (hashK xs 32).map cb ++ [u32 0, u32 0, u32 0] = q0.cells := by rw [hq0, PT.cells, ← HRH.out]
    have hl1 : lay q0.cells 32 [u32 r.birth] = q1.cells := by rw [PT.lay32, hq0, hq1]
    have hl2 : lay q1.cells 33 [u32 r.a0, u32 r.a1] = r.cells := by rw [PT.lay33b, hq1]
    have H0 := Lib.hid h0
    have HL1 := Lib.hid hl1
    have HL2 := Lib.hid hl2
    clear h0 hl1 hl2 hq0 hq1
    clear hcB hr hrh tk c1 c2 c3 hrb hra hrc cut hcc hv hc
    go_enter Try.func12, Try.ntmps12
    go_wp2_with (first
      | (refine wVar ptT PT.hole (H : SH Nil w _ [_]) rfl 4 _ rfl rfl rfl rfl rfl ?_; clear H; intro w2 H)
      | (refine wAlloc ptT (H : SH Nil w _ []) rfl rfl ?_; clear H; intro w1 H)
      | (refine wZero ptT rfl rfl ?_))
    go_loopw [5] (fun v5 wr => ∃ (k : Nat), v5 = .int .i64 (k : Int) ∧ k ≤ 32 ∧ SH Nil w wr [.blk w1.heap.size 33 ((hashK xs k).map cb ++ [u32 0, u32 0, u32 0]), .blk w.heap.size 33 PT.hole.cells]) (fun i _ => 32 - (intOf i).toNat)
    case atStart => exact ⟨0, rfl, by omega, H⟩
    case round =>
      obtain ⟨k, rfl, hk, HS⟩ := hrel
      clear H
      by_cases h32 : k < 32
      · have hki : (k : Int) < 32 := by omega
        have hkx : (k : Int) < (xs.length : Int) := by omega
        have hcell := cell_below HS.below (HCB.out k (by omega))
        have hset := hashK_set xs k h32 hl32 [u32 0, u32 0, u32 0]
        have hll := hashK_len xs k (by omega) hl32
        generalize xs.getD k 0 = x at hcell hset
        have HSET := Lib.hid hset
        have HLL := Lib.hid hll
        clear hset hll
        go_wp2_with (first
          | (refine wCell 5 (cb x) (by kernel_rfl) rfl rfl HS 0 (off := k) rfl (by rw [List.length_append, List.length_map, HLL.out]; simp; omega) _ HSET.out _ _ rfl rfl rfl rfl ?_; clear HS; intro w3 HS))
        go_roundw
        case rel => exact ⟨k + 1, by go_num, by omega, HS⟩
        case measure => simp [intOf] <;> omega
      · obtain rfl : k = 32 := by omega
        have H := HS
        rw [H0.out] at H
        clear HS hk h32
        by_cases hgt : 44 < xs.length
        · have hgt' : (44 : Int) < (xs.length : Int) := by omega
          have hE : decE xs = 3 := by rw [decE, if_neg h44, if_pos (.inl hgt)]
          have hP : decP xs = PT.hole := by rw [decP, hE, if_neg (by decide)]
          have HE := Lib.hid hE
          have HP := Lib.hid hP
          have cM := cM0
          clear hE hP cM0
          go_wp2_with (first
            | (go_at_call 24; (with_reducible refine (C1.out _ _ (hr1 _ H.below)).mono ?_); rintro e w4 ⟨v4, rfl, -, hb4⟩; replace H := H.step hb4; clear hb4)
            | (go_at_call 24; (with_reducible refine (C2.out _ _ (hr2 _ H.below)).mono ?_); rintro e w5 ⟨v5, rfl, -, hb4⟩; replace H := H.step hb4; clear hb4)
            | (go_at_call 24; (with_reducible refine (C3.out _ _ (hr3 _ H.below)).mono ?_); rintro e w6 ⟨v6, rfl, -, hb4⟩; replace H := H.step hb4; clear hb4)
            | (refine wCell 30 (u32 r.birth) (by kernel_rfl) rfl rfl H 0 (off := 32) rfl (by rw [PT.len]; decide) q1.cells HL1.out _ _ rfl rfl rfl rfl ?_; clear H; intro w7 H)
            | (refine stepV (exec_buildL 31 [(0, .tmp 54), (1, .tmp 55)] rfl [(0, u32 r.a0), (1, u32 r.a1)] rfl [u32 r.a0, u32 r.a1] (two_built _ _)) rfl ?_)
            | (refine wLayV 31 [u32 r.a0, u32 r.a1] two_one (by kernel_rfl) H 0 (off := 33) rfl (by rw [PT.len]; exact Nat.le_refl 35) r.cells HL2.out _ _ rfl rfl rfl rfl ?_; clear H; intro w8 H)
            | (refine wLoad ptT r H 0 rfl (List.take_of_length_le (by rw [List.drop_zero]; exact Nat.le_of_eq r.len)) _ rfl rfl rfl ?_)
            | (go_at_call 25; (with_reducible refine (cM _).mono ?_); rintro e w9 ⟨rfl, hb9⟩; replace H := H.step hb9; clear hb9)
            | (refine wZero ptT rfl rfl ?_)
            | (refine wStore ptT PT.hole H 1 rfl PT.hole.len _ _ rfl rfl rfl rfl ?_; clear H; intro w2 H))
          refine bodyPost_ret (results_cell_tmp rfl _ (H.va 1 rfl) rfl _ Try.underlying33 rfl (PT.info _)) rfl ?_
          exact ⟨by rw [HE.out, HP.out]; rfl, H.below⟩
        · have hgt' : (xs.length : Int) ≤ 44 := by omega
          have hgd : decide ((44 : Int) < (xs.length : Int)) = false := by simp; omega
          cases hm : r.may with
          | false =>
            have hE : decE xs = 3 := by rw [decE, if_neg h44, if_pos (.inr (by rw [← HR.out]; exact hm))]
            have hP : decP xs = PT.hole := by rw [decP, hE, if_neg (by decide)]
            have HE := Lib.hid hE
            have HP := Lib.hid hP
            have cM := cM0
            rw [hm] at cM
            clear hE hP cM0 hm
            go_wp2_with (first
              | (go_at_call 24; (with_reducible refine (C1.out _ _ (hr1 _ H.below)).mono ?_); rintro e w4 ⟨v4, rfl, -, hb4⟩; replace H := H.step hb4; clear hb4)
              | (go_at_call 24; (with_reducible refine (C2.out _ _ (hr2 _ H.below)).mono ?_); rintro e w5 ⟨v5, rfl, -, hb4⟩; replace H := H.step hb4; clear hb4)
              | (go_at_call 24; (with_reducible refine (C3.out _ _ (hr3 _ H.below)).mono ?_); rintro e w6 ⟨v6, rfl, -, hb4⟩; replace H := H.step hb4; clear hb4)
              | (refine wCell 30 (u32 r.birth) (by kernel_rfl) rfl rfl H 0 (off := 32) rfl (by rw [PT.len]; decide) q1.cells HL1.out _ _ rfl rfl rfl rfl ?_; clear H; intro w7 H)
              | (refine stepV (exec_buildL 31 [(0, .tmp 54), (1, .tmp 55)] rfl [(0, u32 r.a0), (1, u32 r.a1)] rfl [u32 r.a0, u32 r.a1] (two_built _ _)) rfl ?_)
              | (refine wLayV 31 [u32 r.a0, u32 r.a1] two_one (by kernel_rfl) H 0 (off := 33) rfl (by rw [PT.len]; exact Nat.le_refl 35) r.cells HL2.out _ _ rfl rfl rfl rfl ?_; clear H; intro w8 H)
              | (refine wLoad ptT r H 0 rfl (List.take_of_length_le (by rw [List.drop_zero]; exact Nat.le_of_eq r.len)) _ rfl rfl rfl ?_)
              | (go_at_call 25; (with_reducible refine (cM _).mono ?_); rintro e w9 ⟨rfl, hb9⟩; replace H := H.step hb9; clear hb9)
              | (refine wZero ptT rfl rfl ?_)
              | (refine wStore ptT PT.hole H 1 rfl PT.hole.len _ _ rfl rfl rfl rfl ?_; clear H; intro w2 H))
            refine bodyPost_ret (results_cell_tmp rfl _ (H.va 1 rfl) rfl _ Try.underlying33 rfl (PT.info _)) rfl ?_
            exact ⟨by rw [HE.out, HP.out]; rfl, H.below⟩
          | true =>
            have hE : decE xs = 0 := by rw [decE, if_neg h44, if_neg (by rw [← HR.out, hm]; simp; omega)]
            have hP : decP xs = r := by rw [decP, if_pos hE, HR.out]
            have HE := Lib.hid hE
            have HP := Lib.hid hP
            have cM := cM0
            rw [hm] at cM
            clear hE hP cM0 hm
            go_wp2_with (first
              | (go_at_call 24; (with_reducible refine (C1.out _ _ (hr1 _ H.below)).mono ?_); rintro e w4 ⟨v4, rfl, -, hb4⟩; replace H := H.step hb4; clear hb4)
              | (go_at_call 24; (with_reducible refine (C2.out _ _ (hr2 _ H.below)).mono ?_); rintro e w5 ⟨v5, rfl, -, hb4⟩; replace H := H.step hb4; clear hb4)
              | (go_at_call 24; (with_reducible refine (C3.out _ _ (hr3 _ H.below)).mono ?_); rintro e w6 ⟨v6, rfl, -, hb4⟩; replace H := H.step hb4; clear hb4)
              | (refine wCell 30 (u32 r.birth) (by kernel_rfl) rfl rfl H 0 (off := 32) rfl (by rw [PT.len]; decide) q1.cells HL1.out _ _ rfl rfl rfl rfl ?_; clear H; intro w7 H)
              | (refine stepV (exec_buildL 31 [(0, .tmp 54), (1, .tmp 55)] rfl [(0, u32 r.a0), (1, u32 r.a1)] rfl [u32 r.a0, u32 r.a1] (two_built _ _)) rfl ?_)
              | (refine wLayV 31 [u32 r.a0, u32 r.a1] two_one (by kernel_rfl) H 0 (off := 33) rfl (by rw [PT.len]; exact Nat.le_refl 35) r.cells HL2.out _ _ rfl rfl rfl rfl ?_; clear H; intro w8 H)
              | (refine wLoad ptT r H 0 rfl (List.take_of_length_le (by rw [List.drop_zero]; exact Nat.le_of_eq r.len)) _ rfl rfl rfl ?_)
              | (go_at_call 25; (with_reducible refine (cM _).mono ?_); rintro e w9 ⟨rfl, hb9⟩; replace H := H.step hb9; clear hb9)
              | (refine wZero ptT rfl rfl ?_)
              | (refine wStore ptT r H 1 rfl PT.hole.len _ _ rfl rfl rfl rfl ?_; clear H; intro w2 H))
            refine bodyPost_ret (results_cell_tmp rfl _ (H.va 1 rfl) rfl _ Try.underlying33 rfl (PT.info _)) rfl ?_
            exact ⟨by rw [HE.out, HP.out]; rfl, H.below⟩
end Go.Proofs.Ythogefehainmdab
