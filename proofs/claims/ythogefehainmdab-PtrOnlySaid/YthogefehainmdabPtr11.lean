/- What is decoded, encoded again. The reference's Read. -/
import Derived.Test.YthogefehainmdabPtr10
import Derived.Test.YthogefehainmdabRef01b
namespace Go.Proofs.Ythogefehainmdab
open Go.RowKit
set_option linter.unusedSimpArgs false
set_option linter.unusedVariables false

theorem u32n (b : List UInt8) : (UInt32.ofNat (get32 b)).toNat = get32 b := by have := g32 b; omega
theorem enc_raw (xs : List UInt8) (h : xs.length = 44) : encL (rawP xs) = xs := by
  have e0 : (rawP xs).birth.toNat = get32 (xs.drop 32) := u32n _
  have e1 : (rawP xs).a0.toNat = get32 (xs.drop 36) := u32n _
  have e2 : (rawP xs).a1.toNat = get32 (xs.drop 40) := u32n _
  have p0 := put32_get (xs.drop 32) (by rw [List.length_drop]; omega)
  have p1 := put32_get (xs.drop 36) (by rw [List.length_drop]; omega)
  have p2 := put32_get (xs.drop 40) (by rw [List.length_drop]; omega)
  rw [List.drop_drop] at p0 p1 p2
  have p3 : xs.drop (40 + 4) = [] := List.drop_of_length_le (by omega)
  rw [p3, List.append_nil] at p2
  rw [encL, rawP_hash xs (by omega), e0, e1, e2, p2, List.append_assoc, List.append_assoc, p1, p0, List.take_append_drop]
theorem enc_dec (xs : List UInt8) (h : decE xs = 0) : xs.length = 44 ∧ decP xs = rawP xs ∧ encL (decP xs) = xs := by
  have hl : xs.length = 44 := by
    unfold decE at h
    split at h
    · omega
    · split at h
      · omega
      · rename_i h1 h2
        have : ¬ 44 < xs.length := fun h3 => h2 (.inl h3)
        omega
  have hp : decP xs = rawP xs := by rw [decP, if_pos h]
  exact ⟨hl, hp, by rw [hp]; exact enc_raw xs hl⟩
/-- The pointers of a node's bytes, if all are right. -/
def pls (xs : List UInt8) : PL := ⟨(List.range 4).map fun i => decP (chunk xs i), by simp⟩
theorem node_pls (xs : List UInt8) (h : xs.length = 256) (h1 : ∀ i < 4, decE (chunk xs i) = 0) : nodeL (pls xs) = xs.take 176 ++ List.replicate 80 0 := by
  have e : (pls xs).1.flatMap encL = xs.take 176 := by
    show ((List.range 4).map fun i => decP (chunk xs i)).flatMap encL = _
    simp only [List.range_succ, List.range_zero, List.nil_append, List.map_append, List.map_cons, List.map_nil, List.flatMap_append, List.flatMap_cons, List.flatMap_nil, List.append_nil, List.cons_append,
      (enc_dec _ (h1 0 (by omega))).2.2, (enc_dec _ (h1 1 (by omega))).2.2, (enc_dec _ (h1 2 (by omega))).2.2, (enc_dec _ (h1 3 (by omega))).2.2]
    simp only [chunk, Nat.zero_mul, Nat.one_mul, List.drop_zero, Nat.reduceMul]
    have s : ∀ a b : Nat, xs.take a ++ (xs.drop a).take b = xs.take (a + b) := fun a b => by rw [List.take_add]
    rw [← List.append_assoc, ← List.append_assoc, s 44 44, s 88 44, s 132 44]
  rw [nodeL, e]
theorem node_eq (xs : List UInt8) (h : xs.length = 256) (h1 : ∀ i < 4, decE (chunk xs i) = 0) : (nodeL (pls xs) == xs) = rdOK xs := by
  rw [node_pls xs h h1, Bool.eq_iff_iff, beq_iff_eq]
  have hd : (xs.drop 176).length = 80 := by rw [List.length_drop]; omega
  constructor
  · intro e
    refine rd_good xs h h1 fun j hj => ?_
    have e2 : xs.drop 176 = List.replicate 80 0 := by
      rw [← e, List.drop_left' (by rw [List.length_take]; omega)]
    rw [e2, List.getD_eq_getElem?_getD, List.getElem?_replicate, if_pos hj]
    rfl
  · intro e
    have e2 : xs.drop 176 = List.replicate 80 0 := by
      refine List.ext_getElem? fun j => ?_
      rw [List.getElem?_replicate]
      split
      · rename_i hj
        simp only [rdOK, Bool.and_eq_true, decide_eq_true_eq, List.all_eq_true, List.mem_range, beq_iff_eq] at e
        have := e.2 j hj
        rw [List.getD_eq_getElem?_getD, List.getElem?_eq_getElem (by omega)] at this
        rw [List.getElem?_eq_getElem (by omega)]
        exact congrArg some this
      · rename_i hj
        exact List.getElem?_eq_none (by omega)
    rw [← e2, List.take_append_drop]
theorem rd_pls (xs : List UInt8) (h : rdOK xs = true) : rdL xs = pls xs ∧ rdE xs = 0 := by simp [rdL, rdE, pls, h]
theorem preP_pls (xs : List UInt8) : (preP xs 4).flatMap PT.cells = (pls xs).cells := by simp [preP, pls, PL.cells]

set_option maxHeartbeats 1600000 in
set_option maxRecDepth 100000 in
theorem rRead_any (v : Value) (xs : List UInt8) (w : World) (hv : RB w v xs) (hl : xs.length ≤ 1000000000) :
    Calls Try.prog 14 #[v] w fun e w' => e = .returned (.tuple #[(rdL xs).val, .int .i64 (rdE xs : Int)]) ∧ Below w.heap.size w w' := by
  obtain ⟨A, c, rfl, hc⟩ := id hv.len
  have H := SH.start Nil w
  have hnl := PL.none.len
  have HNL := Lib.hid hnl
  clear hnl
  by_cases h256 : xs.length = 256
  · have hcK : ∀ k : Nat, k < 4 → ∃ A3, (∀ W, (Instr.slice 22 (.slice A 256 c) (some (.int .i64 (44 * (k : Int)))) (some (.int .i64 (44 * (k : Int) + 44))) none).run Try.prog W = .ok (.slice A3 44 (c - k * 44)) W) ∧ ∀ w', Below w.heap.size w w' → RB w' (.slice A3 44 (c - k * 44)) (chunk xs k) := fun k hk => by
      obtain ⟨A3, g4, _, _, g6⟩ := cutB A c xs (k * 44) (k * 44 + 44) (by omega) (by omega) hc
      refine ⟨A3, fun W => ?_, fun w' hb => ?_⟩
      · have := g4 .i64 .i64 W
        rw [h256, show k * 44 + 44 - k * 44 = 44 by omega] at this
        push_cast at this
        rw [show (44 * (k : Int)) = (k : Int) * 44 by omega]
        exact this
      · have := g6 w' (hv.below hb)
        rw [show k * 44 + 44 - k * 44 = 44 by omega, List.drop_take, show k * 44 + 44 - k * 44 = 44 by omega] at this
        exact this
    have hst : ∀ W, Below w.heap.size w W → (convert 22 9 (.slice A 256 c)).run Try.prog W = .ok (.string (str xs)) W := fun W h => by
      have := strB (hv.below h)
      rw [h256] at this
      exact this
    rw [h256]
    have HK := Lib.hid hcK
    have H256 := Lib.hid h256
    clear hcK hv h256 hc hl
    go_enter Try.func14, Try.ntmps14
    go_wp2_with (first
      | (refine wVar plT PL.none (H : SH Nil w _ [_]) rfl 4 _ rfl rfl rfl rfl rfl ?_; clear H; intro w2 H)
      | (refine wAlloc plT (H : SH Nil w _ []) rfl rfl ?_; clear H; intro w1 H)
      | (refine wZero plT rfl rfl ?_))
    go_loopw [5] (fun v5 wr => ∃ (k : Nat), v5 = .int .i64 (k : Int) ∧ k ≤ 4 ∧ SH Nil w wr [.blk w1.heap.size 36 ((preP xs k).flatMap PT.cells), .blk w.heap.size 36 PL.none.cells] ∧ Hid (∀ i < k, decE (chunk xs i) = 0)) (fun i _ => 4 - (intOf i).toNat)
    case atStart => exact ⟨0, rfl, by omega, H, fun i hi => by omega⟩
    case round =>
      obtain ⟨k, rfl, hk, HS, HE⟩ := hrel
      clear H
      by_cases h4 : k < 4
      · have hki : (k : Int) < 4 := by omega
        obtain ⟨A3, hk3, hr3⟩ := HK.out k h4
        have hr4 := hr3 _ HS.below
        have hcl := chunk_len xs k H256.out h4
        have hlay := preP_lay xs k h4
        have hpl := preP_len xs k hk
        have HPL := Lib.hid hpl
        obtain ⟨q, hq⟩ : ∃ q, q = decP (chunk xs k) := ⟨_, rfl⟩
        rw [← hq] at hlay
        have HL := Lib.hid hlay
        by_cases hE : decE (chunk xs k) = 0
        · have cD : ∀ W v, RB W v (chunk xs k) → Calls Try.prog 12 #[v] W fun e w' => e = .returned (.tuple #[.agg (ptT.enc q).toArray, .int .i64 0]) ∧ Below W.heap.size W w' := fun W v h => by
            have := rDecode_any v (chunk xs k) W h (by rw [hcl]; omega)
            rw [hE, ← hq] at this
            exact this
          have hE2 : Hid (∀ i < k + 1, decE (chunk xs i) = 0) := fun i hi => by
            rcases Nat.lt_or_ge i k with h | h
            · exact HE i h
            · obtain rfl : i = k := by omega
              exact hE
          clear hE hq hlay hpl hcl hr3
          go_wp2_with (first
            | (go_at_call 12; (with_reducible refine (cD _ _ hr4).mono ?_); rintro e w4 ⟨rfl, hb4⟩; replace HS := HS.step hb4; clear hb4)
            | (refine wVar ptT q HS rfl 6 _ rfl rfl rfl rfl rfl ?_; clear HS; intro w5 HS)
            | (refine wLoad ptT q HS 0 rfl (List.take_of_length_le (by rw [List.drop_zero]; exact Nat.le_of_eq q.len)) _ rfl rfl rfl ?_)
            | (refine wLay ptT q HS 1 (off := k * 35) rfl (by rw [HPL.out]; show k * 35 + 35 ≤ 140; omega) _ HL.out _ _ rfl rfl rfl rfl ?_; clear HS; intro w6 HS))
          go_roundw
          case rel => exact ⟨k + 1, by go_num, by omega, HS.tail, hE2⟩
          case measure => simp [intOf] <;> omega
        · have hE3 : decE (chunk xs k) = 3 := (decE_44 _ hcl).resolve_left hE
          have hbad := rd_bad xs (rd_chunk xs k h4 hE)
          have cD : ∀ W v, RB W v (chunk xs k) → Calls Try.prog 12 #[v] W fun e w' => e = .returned (.tuple #[.agg (ptT.enc q).toArray, .int .i64 3]) ∧ Below W.heap.size W w' := fun W v h => by
            have := rDecode_any v (chunk xs k) W h (by rw [hcl]; omega)
            rw [hE3, ← hq] at this
            exact this
          have HBAD := Lib.hid hbad
          clear hE hE3 hq hlay hpl hcl hr3 hbad
          go_wp2_with (first
            | (go_at_call 12; (with_reducible refine (cD _ _ hr4).mono ?_); rintro e w4 ⟨rfl, hb4⟩; replace HS := HS.step hb4; clear hb4)
            | (refine wVar ptT q HS rfl 6 _ rfl rfl rfl rfl rfl ?_; clear HS; intro w5 HS)
            | (refine wZero plT rfl rfl ?_)
            | (refine wStore plT PL.none HS 2 rfl HNL.out _ _ rfl rfl rfl rfl ?_; clear HS; intro w6 HS))
          refine bodyPost_ret (results_cell_tmp rfl _ (HS.va 2 rfl) rfl _ Try.underlying36 rfl (PL.info _)) rfl ?_
          exact ⟨by rw [HBAD.out.1, HBAD.out.2]; rfl, HS.below⟩
      · obtain rfl : k = 4 := by omega
        have hne := node_eq xs H256.out HE
        have hrp := rd_pls xs
        have hrb := rd_bad xs
        have hpp := preP_pls xs
        obtain ⟨l, hl⟩ : ∃ l, l = pls xs := ⟨_, rfl⟩
        rw [← hl] at hne hrp hpp
        rw [hpp] at HS
        have HD := HS.drew
        have cN : ∀ W, Calls Try.prog 26 #[.agg (plT.enc l).toArray] W fun e w' => ∃ v, e = .returned v ∧ OB w' W.heap.size v (nodeL l) ∧ Below W.heap.size W w' := fun W => rNode_any l W
        generalize nodeL l = ND at cN hne
        have hvd := HD.va 0 rfl
        clear HE hl hpp hk h4 HK
        go_wp2
        refine startE (none) (by kernel_rfl) ?_
        refine takeE 0 rfl (by kernel_rfl) (by kernel_rfl) (by kernel_rfl) (fun _ _ _ h => h) rfl (v := ?_) ?_ ?_
        rotate_left
        · intro w' hw'; refine Eq.trans (exec_load 36 _ rfl w1.heap.size 0 rfl (plT.enc l) _ (VA.all (hvd.below (grown_none hw'))) Try.underlying36 rfl l.info) ?_; with_reducible rfl
        (try simp only [Act.put, List.setIfInBounds_toArray, List.set_cons_zero, List.set_cons_succ])
        refine takeE 3 rfl (by kernel_rfl) (by kernel_rfl) (by kernel_rfl) (fun _ _ _ h => h) rfl (v := ?_) ?_ ?_
        rotate_left
        · intro w' hw'; clear hw'; go_simp; (try with_reducible rfl)
        (try simp only [Act.put, List.setIfInBounds_toArray, List.set_cons_zero, List.set_cons_succ])
        refine takeE 4 rfl (by kernel_rfl) (by kernel_rfl) (by kernel_rfl) (fun _ _ _ h => h) rfl (v := ?_) ?_ ?_
        rotate_left
        · intro w' hw'; have h := hst _ (below_two HD.below HD.size (grown_none hw')); clear hw'; go_simp; (try with_reducible rfl)
        (try simp only [Act.put, List.setIfInBounds_toArray, List.set_cons_zero, List.set_cons_succ])
        refine stepE 1 rfl (by kernel_rfl) rfl (fun K hK => ?_)
        (go_simp; (with_reducible refine (cN _).mono ?_); rintro e w6 ⟨v6, rfl, ho6, hb⟩; refine K_out hK hb ?_; clear K hK; replace HD := HD.step hb; clear hb hvd; have qn := ho6.reads; clear ho6)
        (try simp only [Act.put, List.setIfInBounds_toArray, List.set_cons_zero, List.set_cons_succ])
        refine takeE 2 rfl (by kernel_rfl) (by kernel_rfl) (by kernel_rfl) (fun _ _ _ h => h) rfl (v := ?_) ?_ ?_
        rotate_left
        · intro w' hw'; have h := strB (qn.below (grown_none hw')); clear hw'; go_simp; (try with_reducible rfl)
        (try simp only [Act.put, List.setIfInBounds_toArray, List.set_cons_zero, List.set_cons_succ])
        refine takeE 5 rfl (by kernel_rfl) (by kernel_rfl) (by kernel_rfl) (fun _ _ _ h => h) rfl (v := ?_) ?_ ?_
        rotate_left
        · intro w' hw'; clear hw'; go_simp; (try with_reducible rfl)
        (try simp only [Act.put, List.setIfInBounds_toArray, List.set_cons_zero, List.set_cons_succ])
        refine doneE (by kernel_rfl) ?_
        clear HS
        cases hok : rdOK xs with
        | true =>
          obtain ⟨hr1, hr2⟩ := hrp hok
          rw [hok] at hne
          have HR1 := Lib.hid hr1
          have HR2 := Lib.hid hr2
          clear hok hr1 hr2 hrp hrb
          go_wp2_with (first
            | (refine wLoad plT l HD 0 rfl (List.take_of_length_le (by rw [List.drop_zero]; exact Nat.le_of_eq l.len)) _ rfl rfl rfl ?_)
            | (refine wStore plT l HD 1 rfl HNL.out _ _ rfl rfl rfl rfl ?_; clear HD; intro w7 HD))
          refine bodyPost_ret (results_cell_tmp rfl _ (HD.va 1 rfl) rfl _ Try.underlying36 rfl (PL.info _)) rfl ?_
          exact ⟨by rw [HR1.out, HR2.out]; rfl, HD.below⟩
        | false =>
          obtain ⟨hr1, hr2⟩ := hrb hok
          rw [hok] at hne
          have HR1 := Lib.hid hr1
          have HR2 := Lib.hid hr2
          clear hok hr1 hr2 hrp hrb
          go_wp2_with (first
            | (refine wZero plT rfl rfl ?_)
            | (refine wStore plT PL.none HD 1 rfl HNL.out _ _ rfl rfl rfl rfl ?_; clear HD; intro w7 HD))
          refine bodyPost_ret (results_cell_tmp rfl _ (HD.va 1 rfl) rfl _ Try.underlying36 rfl (PL.info _)) rfl ?_
          exact ⟨by rw [HR1.out, HR2.out]; rfl, HD.below⟩
  · have hbad := rd_bad xs (rd_len xs h256)
    have hne : ¬ (xs.length : Int) = 256 := by omega
    have hne1 : ((xs.length : Int) != 256) = true := by simpa using hne
    have hne2 : ((xs.length : Int) == 256) = false := by simpa using hne
    have HBAD := Lib.hid hbad
    clear hbad h256 hv
    go_enter Try.func14, Try.ntmps14
    go_wp2_with (first
      | (refine wVar plT PL.none (H : SH Nil w _ [_]) rfl 4 _ rfl rfl rfl rfl rfl ?_; clear H; intro w2 H)
      | (refine wAlloc plT (H : SH Nil w _ []) rfl rfl ?_; clear H; intro w1 H)
      | (refine wZero plT rfl rfl ?_)
      | (refine wLoad plT PL.none H 0 rfl (List.take_of_length_le (by rw [List.drop_zero]; exact Nat.le_of_eq HNL.out)) _ rfl rfl rfl ?_)
      | (refine wStore plT PL.none H 1 rfl HNL.out _ _ rfl rfl rfl rfl ?_; clear H; intro w6 H))
    refine bodyPost_ret (results_cell_tmp rfl _ (H.va 1 rfl) rfl _ Try.underlying36 rfl (PL.info _)) rfl ?_
    exact ⟨by rw [HBAD.out.1, HBAD.out.2]; rfl, H.below⟩
end Go.Proofs.Ythogefehainmdab
