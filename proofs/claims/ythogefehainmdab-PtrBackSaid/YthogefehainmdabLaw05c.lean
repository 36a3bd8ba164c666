/- Layer 5: the laws on there and back. -/
import Derived.Test.YthogefehainmdabLaw05b
namespace Go.Proofs.Ythogefehainmdab
open Go.RowKit
set_option linter.unusedSimpArgs false
set_option linter.unusedVariables false

set_option maxHeartbeats 3200000 in
set_option maxRecDepth 100000 in
theorem PtrOnly_any (vb : Value) (b : List UInt8) (w : World) (hb : RB w vb b) :
    Calls Try.prog 6 #[vb] w fun e w' => e = .returned (.bool true) ∧ Below w.heap.size w w' := by
  obtain ⟨A, c, rfl, hc⟩ := hb.len
  by_cases h1 : 300 < b.length
  · have h1' : (300 : Int) < (b.length : Int) := by omega
    go_enter Try.func6, Try.ntmps6
    go_wp2_with (first | (go_at_call 10; refine (alive05_any _).mono ?_; rintro e w1 ⟨rfl, hb1⟩))
    go_ret
    exact ⟨rfl, hb1⟩
  have h1' : (b.length : Int) ≤ 300 := by omega
  have H := SH.start Nil w
  obtain ⟨p, hp⟩ : ∃ p, p = decP b := ⟨_, rfl⟩
  obtain ⟨l, hl⟩ : ∃ l, l = rdL b := ⟨_, rfl⟩
  have hst : ∀ W, Below w.heap.size w W → (convert 22 9 (.slice A b.length c)).run Try.prog W = .ok (.string (str b)) W := fun W h => strB (hb.below h)
  have cE : ∀ W, Calls Try.prog 15 #[.agg (ptT.enc p).toArray] W fun e w' => e = .returned (.agg (a44.enc (enc44 p)).toArray) ∧ Below W.heap.size W w' := fun W => Encode_any p W
  have cN : ∀ W, Calls Try.prog 17 #[.agg (plT.enc l).toArray] W fun e w' => ∃ v, e = .returned v ∧ OB w' W.heap.size v (nodeL l) ∧ Below W.heap.size W w' := fun W => Node_any l W
  have ql : ∀ W, (binOp .eql 36 (.agg (plT.enc l).toArray) (.agg (plT.enc plT.zero).toArray)).run Try.prog W = .ok (.bool (l == PL.none)) W := fun W => pl_eql l PL.none W
  have e1 : decE b = 0 → (encL p == b) = true := fun h => by rw [hp]; simp [(enc_dec b h).2.2]
  have e2 : rdOK b = true → (nodeL l == b) = true := fun h => by
    obtain ⟨h1, _⟩ := rd_pls b h
    simp only [rdOK, Bool.and_eq_true, decide_eq_true_eq, List.all_eq_true, List.mem_range, beq_iff_eq] at h
    have h3 := node_eq b h.1.1 h.1.2
    rw [hl, h1, h3]
    simp only [rdOK, Bool.and_eq_true, decide_eq_true_eq, List.all_eq_true, List.mem_range, beq_iff_eq]
    exact h
  have cD : ∀ W v, RB W v b → Calls Try.prog 11 #[v] W fun e w' => e = .returned (.tuple #[.agg (ptT.enc p).toArray, .int .i64 (decE b : Int)]) ∧ Below W.heap.size W w' := fun W v h => by rw [hp]; exact Decode_any v b W h (by omega)
  have cR : ∀ W v, RB W v b → Calls Try.prog 13 #[v] W fun e w' => e = .returned (.tuple #[.agg (plT.enc l).toArray, .int .i64 (rdE b : Int)]) ∧ Below W.heap.size W w' := fun W v h => by rw [hl]; exact Read_any v b W h (by omega)
  have hel := encL_length p
  have HEL := Lib.hid hel
  have hF : (rdE b = 0 ∧ rdOK b = true) ∨ (rdE b = 3 ∧ l = PL.none) := by
    cases h : rdOK b with
    | true => exact .inl ⟨(rd_pls b h).2, rfl⟩
    | false => exact .inr ⟨(rd_bad b h).2, by rw [hl, (rd_bad b h).1]⟩
  have hql : l = PL.none → (l == PL.none) = true := fun h => by simp [h]
  have hE : (decE b = 0 ∧ (encL p == b) = true) ∨ decE b = 2 ∨ decE b = 3 := by
    by_cases h : decE b = 0
    · exact .inl ⟨h, e1 h⟩
    · right; unfold decE at h ⊢; split
      · exact .inl rfl
      · split
        · exact .inr rfl
        · rename_i h1 h2; simp [h1, h2] at h
  have QL := Lib.hid ql
  have HF := Lib.hid hF
  have HQL := Lib.hid hql
  have E2 := Lib.hid e2
  have HST := Lib.hid hst
  clear ql hF hql e1 e2 hel hp hl hst
  generalize (l == PL.none) = bq at QL HQL
  generalize nodeL l = ND at cN E2
  rcases hE with ⟨hE0, heq⟩ | hE | hE
  · rw [hE0] at cD
    clear hE0
    go_enter Try.func6, Try.ntmps6
    go_wp2_with (first
      | (go_at_call 11; (with_reducible refine (cD _ _ (hb.below H.below)).mono ?_); rintro e w2 ⟨rfl, hb2⟩; replace H := H.step hb2; clear hb2)
      | (refine wVar ptT p (H : SH Nil w _ []) rfl 3 _ rfl rfl rfl rfl rfl ?_; clear H; intro w3 H)
      | (refine wLoad ptT p H 0 rfl (List.take_of_length_le (by rw [List.drop_zero]; exact Nat.le_of_eq p.len)) _ rfl rfl rfl ?_)
      | (go_at_call 15; (with_reducible refine (cE _).mono ?_); rintro e w4 ⟨rfl, hb4⟩; replace H := H.step hb4; clear hb4)
      | (refine wVar a44 (enc44 p) (H : SH Nil w _ [_]) rfl 5 _ rfl rfl rfl rfl rfl ?_; clear H; intro w5 H))
    replace H := H.drew
    have hst0 := HST.out _ H.below
    have hs44 := strB (H.rb 0 rfl 44 HEL.out (by decide))
    refine startE (none) (by kernel_rfl) ?_
    refine takeE 0 rfl (by kernel_rfl) (by kernel_rfl) (by kernel_rfl) (fun _ _ _ h => h) rfl (v := ?_) ?_ ?_
    rotate_left
    · intro w' hw'; clear hw'; go_simp; (try with_reducible rfl)
    (try simp only [Act.put, List.setIfInBounds_toArray, List.set_cons_zero, List.set_cons_succ])
    refine takeE 1 rfl (by kernel_rfl) (by kernel_rfl) (by kernel_rfl) (fun _ _ _ h => h) rfl (v := ?_) ?_ ?_
    rotate_left
    · intro w' hw'; clear hw'; go_simp; (try with_reducible rfl)
    (try simp only [Act.put, List.setIfInBounds_toArray, List.set_cons_zero, List.set_cons_succ])
    refine takeE 2 rfl (by kernel_rfl) (by kernel_rfl) (by kernel_rfl) (fun _ _ _ h => h) rfl (v := ?_) ?_ ?_
    rotate_left
    · intro w' hw'; clear hw'; go_simp; (try with_reducible rfl)
    (try simp only [Act.put, List.setIfInBounds_toArray, List.set_cons_zero, List.set_cons_succ])
    refine takeE 3 rfl (by kernel_rfl) (by kernel_rfl) (by kernel_rfl) (fun _ _ _ h => h) rfl (v := ?_) ?_ ?_
    rotate_left
    · intro w' hw'; clear hw'; go_simp; (try with_reducible rfl)
    (try simp only [Act.put, List.setIfInBounds_toArray, List.set_cons_zero, List.set_cons_succ])
    refine takeE 4 rfl (by kernel_rfl) (by kernel_rfl) (by kernel_rfl) (fun _ _ _ h => h) rfl (v := ?_) ?_ ?_
    rotate_left
    · intro w' hw'; have h := strB ((H.rb 0 rfl 44 HEL.out (by decide)).below (grown_none hw')); clear hw'; go_simp; (try with_reducible rfl)
    (try simp only [Act.put, List.setIfInBounds_toArray, List.set_cons_zero, List.set_cons_succ])
    refine takeE 5 rfl (by kernel_rfl) (by kernel_rfl) (by kernel_rfl) (fun _ _ _ h => h) rfl (v := ?_) ?_ ?_
    rotate_left
    · intro w' hw'; clear hw'; go_simp; (try with_reducible rfl)
    (try simp only [Act.put, List.setIfInBounds_toArray, List.set_cons_zero, List.set_cons_succ])
    refine takeE 6 rfl (by kernel_rfl) (by kernel_rfl) (by kernel_rfl) (fun _ _ _ h => h) rfl (v := ?_) ?_ ?_
    rotate_left
    · intro w' hw'; have h := HST.out _ (below_two H.below H.size (grown_none hw')); clear hw'; go_simp; (try with_reducible rfl)
    (try simp only [Act.put, List.setIfInBounds_toArray, List.set_cons_zero, List.set_cons_succ])
    refine takeE 7 rfl (by kernel_rfl) (by kernel_rfl) (by kernel_rfl) (fun _ _ _ h => h) rfl (v := ?_) ?_ ?_
    rotate_left
    · intro w' hw'; clear hw'; go_simp; (try with_reducible rfl)
    (try simp only [Act.put, List.setIfInBounds_toArray, List.set_cons_zero, List.set_cons_succ])
    refine takeE 8 rfl (by kernel_rfl) (by kernel_rfl) (by kernel_rfl) (fun _ _ _ h => h) rfl (v := ?_) ?_ ?_
    rotate_left
    · intro w' hw'; clear hw'; go_simp; (try with_reducible rfl)
    (try simp only [Act.put, List.setIfInBounds_toArray, List.set_cons_zero, List.set_cons_succ])
    refine doneE (by kernel_rfl) ?_
    clear hs44 hst0
    go_wp2_with (first
      | (go_at_call 13; (with_reducible refine (cR _ _ (hb.below H.below)).mono ?_); rintro e w6 ⟨rfl, hb6⟩; replace H := H.step hb6; clear hb6)
      | (refine wVar plT l (H : SH Nil w _ [_, _]) rfl 6 _ rfl rfl rfl rfl rfl ?_; clear H; intro w7 H))
    replace H := H.drew
    rcases HF.out with ⟨hF0, hok⟩ | ⟨hF3, hln⟩
    · rw [hF0]
      have hnd := E2.out hok
      clear hF0 hok
      refine startE (none) (by kernel_rfl) ?_
      refine stepE 0 rfl (by kernel_rfl) rfl (fun K hK => ?_)
      (go_simp; refine (alive05_any _).mono ?_; rintro e w8 ⟨rfl, hb⟩; refine K_out hK hb ?_; clear K hK; replace H := H.step hb; clear hb)
      (try simp only [Act.put, List.setIfInBounds_toArray, List.set_cons_zero, List.set_cons_succ])
      refine takeE 1 rfl (by kernel_rfl) (by kernel_rfl) (by kernel_rfl) (fun _ _ _ h => h) rfl (v := ?_) ?_ ?_
      rotate_left
      · intro w' hw'; clear hw'; go_simp; (try with_reducible rfl)
      (try simp only [Act.put, List.setIfInBounds_toArray, List.set_cons_zero, List.set_cons_succ])
      refine takeE 2 rfl (by kernel_rfl) (by kernel_rfl) (by kernel_rfl) (fun _ _ _ h => h) rfl (v := ?_) ?_ ?_
      rotate_left
      · intro w' hw'; clear hw'; go_simp; (try with_reducible rfl)
      (try simp only [Act.put, List.setIfInBounds_toArray, List.set_cons_zero, List.set_cons_succ])
      refine takeE 3 rfl (by kernel_rfl) (by kernel_rfl) (by kernel_rfl) (fun _ _ _ h => h) rfl (v := ?_) ?_ ?_
      rotate_left
      · intro w' hw'; clear hw'; go_simp; (try with_reducible rfl)
      (try simp only [Act.put, List.setIfInBounds_toArray, List.set_cons_zero, List.set_cons_succ])
      refine takeE 4 rfl (by kernel_rfl) (by kernel_rfl) (by kernel_rfl) (fun _ _ _ h => h) rfl (v := ?_) ?_ ?_
      rotate_left
      · intro w' hw'; clear hw'; go_simp; (try with_reducible rfl)
      (try simp only [Act.put, List.setIfInBounds_toArray, List.set_cons_zero, List.set_cons_succ])
      refine skipE 5 rfl (by kernel_rfl) (by kernel_rfl) (by kernel_rfl) (fun _ _ _ h => h) rfl ?_
      (try simp only [Act.put, List.setIfInBounds_toArray, List.set_cons_zero, List.set_cons_succ])
      refine skipE 6 rfl (by kernel_rfl) (by kernel_rfl) (by kernel_rfl) (fun _ _ _ h => h) rfl ?_
      (try simp only [Act.put, List.setIfInBounds_toArray, List.set_cons_zero, List.set_cons_succ])
      refine skipE 7 rfl (by kernel_rfl) (by kernel_rfl) (by kernel_rfl) (fun _ _ _ h => h) rfl ?_
      (try simp only [Act.put, List.setIfInBounds_toArray, List.set_cons_zero, List.set_cons_succ])
      refine takeE 8 rfl (by kernel_rfl) (by kernel_rfl) (by kernel_rfl) (fun _ _ _ h => h) rfl (v := ?_) ?_ ?_
      rotate_left
      · intro w' hw'; clear hw'; go_simp; (try with_reducible rfl)
      (try simp only [Act.put, List.setIfInBounds_toArray, List.set_cons_zero, List.set_cons_succ])
      refine takeE 9 rfl (by kernel_rfl) (by kernel_rfl) (by kernel_rfl) (fun _ _ _ h => h) rfl (v := ?_) ?_ ?_
      rotate_left
      · intro w' hw'; clear hw'; go_simp; (try with_reducible rfl)
      (try simp only [Act.put, List.setIfInBounds_toArray, List.set_cons_zero, List.set_cons_succ])
      refine takeE 10 rfl (by kernel_rfl) (by kernel_rfl) (by kernel_rfl) (fun _ _ _ h => h) rfl (v := ?_) ?_ ?_
      rotate_left
      · intro w' hw'; clear hw'; go_simp; (try with_reducible rfl)
      (try simp only [Act.put, List.setIfInBounds_toArray, List.set_cons_zero, List.set_cons_succ])
      refine takeE 11 rfl (by kernel_rfl) (by kernel_rfl) (by kernel_rfl) (fun _ _ _ h => h) rfl (v := ?_) ?_ ?_
      rotate_left
      · intro w' hw'; clear hw'; go_simp; (try with_reducible rfl)
      (try simp only [Act.put, List.setIfInBounds_toArray, List.set_cons_zero, List.set_cons_succ])
      refine takeE 12 rfl (by kernel_rfl) (by kernel_rfl) (by kernel_rfl) (fun _ _ _ h => h) rfl (v := ?_) ?_ ?_
      rotate_left
      · intro w' hw'; clear hw'; go_simp; (try with_reducible rfl)
      (try simp only [Act.put, List.setIfInBounds_toArray, List.set_cons_zero, List.set_cons_succ])
      refine takeE 13 rfl (by kernel_rfl) (by kernel_rfl) (by kernel_rfl) (fun _ _ _ h => h) rfl (v := ?_) ?_ ?_
      rotate_left
      · intro w' hw'; refine Eq.trans (exec_load 36 _ rfl w6.heap.size 0 rfl (plT.enc l) _ (VA.all ((H.va 0 rfl).below (grown_none hw'))) Try.underlying36 rfl l.info) ?_; with_reducible rfl
      (try simp only [Act.put, List.setIfInBounds_toArray, List.set_cons_zero, List.set_cons_succ])
      refine takeE 16 rfl (by kernel_rfl) (by kernel_rfl) (by kernel_rfl) (fun _ _ _ h => h) rfl (v := ?_) ?_ ?_
      rotate_left
      · intro w' hw'; clear hw'; go_simp; (try with_reducible rfl)
      (try simp only [Act.put, List.setIfInBounds_toArray, List.set_cons_zero, List.set_cons_succ])
      refine takeE 17 rfl (by kernel_rfl) (by kernel_rfl) (by kernel_rfl) (fun _ _ _ h => h) rfl (v := ?_) ?_ ?_
      rotate_left
      · intro w' hw'; have h := HST.out _ (below_two H.below H.size (grown_none hw')); clear hw'; go_simp; (try with_reducible rfl)
      (try simp only [Act.put, List.setIfInBounds_toArray, List.set_cons_zero, List.set_cons_succ])
      refine stepE 14 rfl (by kernel_rfl) rfl (fun K hK => ?_)
      (go_simp; (with_reducible refine (cN _).mono ?_); rintro e w9 ⟨v9, rfl, ho9, hb⟩; refine K_out hK hb ?_; clear K hK; replace H := H.step hb; clear hb; have qn := ho9.reads; clear ho9)
      (try simp only [Act.put, List.setIfInBounds_toArray, List.set_cons_zero, List.set_cons_succ])
      refine takeE 15 rfl (by kernel_rfl) (by kernel_rfl) (by kernel_rfl) (fun _ _ _ h => h) rfl (v := ?_) ?_ ?_
      rotate_left
      · intro w' hw'; have h := strB (qn.below (grown_none hw')); clear hw'; go_simp; (try with_reducible rfl)
      (try simp only [Act.put, List.setIfInBounds_toArray, List.set_cons_zero, List.set_cons_succ])
      refine takeE 18 rfl (by kernel_rfl) (by kernel_rfl) (by kernel_rfl) (fun _ _ _ h => h) rfl (v := ?_) ?_ ?_
      rotate_left
      · intro w' hw'; clear hw'; go_simp; (try with_reducible rfl)
      (try simp only [Act.put, List.setIfInBounds_toArray, List.set_cons_zero, List.set_cons_succ])
      refine takeE 19 rfl (by kernel_rfl) (by kernel_rfl) (by kernel_rfl) (fun _ _ _ h => h) rfl (v := ?_) ?_ ?_
      rotate_left
      · intro w' hw'; clear hw'; go_simp; (try with_reducible rfl)
      (try simp only [Act.put, List.setIfInBounds_toArray, List.set_cons_zero, List.set_cons_succ])
      refine takeE 20 rfl (by kernel_rfl) (by kernel_rfl) (by kernel_rfl) (fun _ _ _ h => h) rfl (v := ?_) ?_ ?_
      rotate_left
      · intro w' hw'; clear hw'; go_simp; (try with_reducible rfl)
      (try simp only [Act.put, List.setIfInBounds_toArray, List.set_cons_zero, List.set_cons_succ])
      refine takeE 21 rfl (by kernel_rfl) (by kernel_rfl) (by kernel_rfl) (fun _ _ _ h => h) rfl (v := ?_) ?_ ?_
      rotate_left
      · intro w' hw'; clear hw'; go_simp; (try with_reducible rfl)
      (try simp only [Act.put, List.setIfInBounds_toArray, List.set_cons_zero, List.set_cons_succ])
      refine takeE 22 rfl (by kernel_rfl) (by kernel_rfl) (by kernel_rfl) (fun _ _ _ h => h) rfl (v := ?_) ?_ ?_
      rotate_left
      · intro w' hw'; clear hw'; go_simp; (try with_reducible rfl)
      (try simp only [Act.put, List.setIfInBounds_toArray, List.set_cons_zero, List.set_cons_succ])
      refine doneE (by kernel_rfl) ?_
      go_wp2
      go_ret
      exact ⟨rfl, H.below⟩
    · rw [hF3]
      have hbq := HQL.out hln
      have QL' := QL.out
      rw [hbq] at QL'
      have QM := Lib.hid QL'
      clear hF3 hln hbq QL'
      refine startE (none) (by kernel_rfl) ?_
      refine stepE 0 rfl (by kernel_rfl) rfl (fun K hK => ?_)
      (go_simp; refine (alive05_any _).mono ?_; rintro e w8 ⟨rfl, hb⟩; refine K_out hK hb ?_; clear K hK; replace H := H.step hb; clear hb)
      (try simp only [Act.put, List.setIfInBounds_toArray, List.set_cons_zero, List.set_cons_succ])
      refine takeE 1 rfl (by kernel_rfl) (by kernel_rfl) (by kernel_rfl) (fun _ _ _ h => h) rfl (v := ?_) ?_ ?_
      rotate_left
      · intro w' hw'; clear hw'; go_simp; (try with_reducible rfl)
      (try simp only [Act.put, List.setIfInBounds_toArray, List.set_cons_zero, List.set_cons_succ])
      refine takeE 2 rfl (by kernel_rfl) (by kernel_rfl) (by kernel_rfl) (fun _ _ _ h => h) rfl (v := ?_) ?_ ?_
      rotate_left
      · intro w' hw'; clear hw'; go_simp; (try with_reducible rfl)
      (try simp only [Act.put, List.setIfInBounds_toArray, List.set_cons_zero, List.set_cons_succ])
      refine takeE 3 rfl (by kernel_rfl) (by kernel_rfl) (by kernel_rfl) (fun _ _ _ h => h) rfl (v := ?_) ?_ ?_
      rotate_left
      · intro w' hw'; clear hw'; go_simp; (try with_reducible rfl)
      (try simp only [Act.put, List.setIfInBounds_toArray, List.set_cons_zero, List.set_cons_succ])
      refine takeE 4 rfl (by kernel_rfl) (by kernel_rfl) (by kernel_rfl) (fun _ _ _ h => h) rfl (v := ?_) ?_ ?_
      rotate_left
      · intro w' hw'; clear hw'; go_simp; (try with_reducible rfl)
      (try simp only [Act.put, List.setIfInBounds_toArray, List.set_cons_zero, List.set_cons_succ])
      refine takeE 5 rfl (by kernel_rfl) (by kernel_rfl) (by kernel_rfl) (fun _ _ _ h => h) rfl (v := ?_) ?_ ?_
      rotate_left
      · intro w' hw'; refine Eq.trans (exec_load 36 _ rfl w6.heap.size 0 rfl (plT.enc l) _ (VA.all ((H.va 0 rfl).below (grown_none hw'))) Try.underlying36 rfl l.info) ?_; with_reducible rfl
      (try simp only [Act.put, List.setIfInBounds_toArray, List.set_cons_zero, List.set_cons_succ])
      refine takeE 6 rfl (by kernel_rfl) (by kernel_rfl) (by kernel_rfl) (fun _ _ _ h => h) rfl (v := ?_) ?_ ?_
      rotate_left
      · intro w' hw'; refine Eq.trans (exec_zero 36 rfl (plT.enc plT.zero) pl_zero) ?_; with_reducible rfl
      (try simp only [Act.put, List.setIfInBounds_toArray, List.set_cons_zero, List.set_cons_succ])
      refine takeE 7 rfl (by kernel_rfl) (by kernel_rfl) (by kernel_rfl) (fun _ _ _ h => h) rfl (v := ?_) ?_ ?_
      rotate_left
      · intro w' hw'; refine Eq.trans (exec_eql 36 _ _ _ rfl _ _ rfl rfl pl_guard _ (QM.out _)) ?_; with_reducible rfl
      (try simp only [Act.put, List.setIfInBounds_toArray, List.set_cons_zero, List.set_cons_succ])
      refine takeE 8 rfl (by kernel_rfl) (by kernel_rfl) (by kernel_rfl) (fun _ _ _ h => h) rfl (v := ?_) ?_ ?_
      rotate_left
      · intro w' hw'; clear hw'; go_simp; (try with_reducible rfl)
      (try simp only [Act.put, List.setIfInBounds_toArray, List.set_cons_zero, List.set_cons_succ])
      refine takeE 9 rfl (by kernel_rfl) (by kernel_rfl) (by kernel_rfl) (fun _ _ _ h => h) rfl (v := ?_) ?_ ?_
      rotate_left
      · intro w' hw'; clear hw'; go_simp; (try with_reducible rfl)
      (try simp only [Act.put, List.setIfInBounds_toArray, List.set_cons_zero, List.set_cons_succ])
      refine skipE 10 rfl (by kernel_rfl) (by kernel_rfl) (by kernel_rfl) (fun _ _ _ h => h) rfl ?_
      (try simp only [Act.put, List.setIfInBounds_toArray, List.set_cons_zero, List.set_cons_succ])
      refine skipE 11 rfl (by kernel_rfl) (by kernel_rfl) (by kernel_rfl) (fun _ _ _ h => h) rfl ?_
      (try simp only [Act.put, List.setIfInBounds_toArray, List.set_cons_zero, List.set_cons_succ])
      refine skipE 12 rfl (by kernel_rfl) (by kernel_rfl) (by kernel_rfl) (fun _ _ _ h => h) rfl ?_
      (try simp only [Act.put, List.setIfInBounds_toArray, List.set_cons_zero, List.set_cons_succ])
      refine skipE 13 rfl (by kernel_rfl) (by kernel_rfl) (by kernel_rfl) (fun _ _ _ h => h) rfl ?_
      (try simp only [Act.put, List.setIfInBounds_toArray, List.set_cons_zero, List.set_cons_succ])
      refine skipE 14 rfl (by kernel_rfl) (by kernel_rfl) (by kernel_rfl) (fun _ _ _ h => h) rfl ?_
      (try simp only [Act.put, List.setIfInBounds_toArray, List.set_cons_zero, List.set_cons_succ])
      refine skipE 15 rfl (by kernel_rfl) (by kernel_rfl) (by kernel_rfl) (fun _ _ _ h => h) rfl ?_
      (try simp only [Act.put, List.setIfInBounds_toArray, List.set_cons_zero, List.set_cons_succ])
      refine skipE 16 rfl (by kernel_rfl) (by kernel_rfl) (by kernel_rfl) (fun _ _ _ h => h) rfl ?_
      (try simp only [Act.put, List.setIfInBounds_toArray, List.set_cons_zero, List.set_cons_succ])
      refine skipE 17 rfl (by kernel_rfl) (by kernel_rfl) (by kernel_rfl) (fun _ _ _ h => h) rfl ?_
      (try simp only [Act.put, List.setIfInBounds_toArray, List.set_cons_zero, List.set_cons_succ])
      refine skipE 18 rfl (by kernel_rfl) (by kernel_rfl) (by kernel_rfl) (fun _ _ _ h => h) rfl ?_
      (try simp only [Act.put, List.setIfInBounds_toArray, List.set_cons_zero, List.set_cons_succ])
      refine skipE 19 rfl (by kernel_rfl) (by kernel_rfl) (by kernel_rfl) (fun _ _ _ h => h) rfl ?_
      (try simp only [Act.put, List.setIfInBounds_toArray, List.set_cons_zero, List.set_cons_succ])
      refine takeE 20 rfl (by kernel_rfl) (by kernel_rfl) (by kernel_rfl) (fun _ _ _ h => h) rfl (v := ?_) ?_ ?_
      rotate_left
      · intro w' hw'; clear hw'; go_simp; (try with_reducible rfl)
      (try simp only [Act.put, List.setIfInBounds_toArray, List.set_cons_zero, List.set_cons_succ])
      refine takeE 21 rfl (by kernel_rfl) (by kernel_rfl) (by kernel_rfl) (fun _ _ _ h => h) rfl (v := ?_) ?_ ?_
      rotate_left
      · intro w' hw'; clear hw'; go_simp; (try with_reducible rfl)
      (try simp only [Act.put, List.setIfInBounds_toArray, List.set_cons_zero, List.set_cons_succ])
      refine takeE 22 rfl (by kernel_rfl) (by kernel_rfl) (by kernel_rfl) (fun _ _ _ h => h) rfl (v := ?_) ?_ ?_
      rotate_left
      · intro w' hw'; clear hw'; go_simp; (try with_reducible rfl)
      (try simp only [Act.put, List.setIfInBounds_toArray, List.set_cons_zero, List.set_cons_succ])
      refine doneE (by kernel_rfl) ?_
      go_wp2
      go_ret
      exact ⟨rfl, H.below⟩
  · rw [hE] at cD
    clear hE
    go_enter Try.func6, Try.ntmps6
    go_wp2_with (first
      | (go_at_call 11; (with_reducible refine (cD _ _ (hb.below H.below)).mono ?_); rintro e w2 ⟨rfl, hb2⟩; replace H := H.step hb2; clear hb2)
      | (refine wVar ptT p (H : SH Nil w _ []) rfl 3 _ rfl rfl rfl rfl rfl ?_; clear H; intro w3 H)
      | (refine wLoad ptT p H 0 rfl (List.take_of_length_le (by rw [List.drop_zero]; exact Nat.le_of_eq p.len)) _ rfl rfl rfl ?_)
      | (go_at_call 15; (with_reducible refine (cE _).mono ?_); rintro e w4 ⟨rfl, hb4⟩; replace H := H.step hb4; clear hb4)
      | (refine wVar a44 (enc44 p) (H : SH Nil w _ [_]) rfl 5 _ rfl rfl rfl rfl rfl ?_; clear H; intro w5 H))
    replace H := H.drew
    have hst0 := HST.out _ H.below
    have hs44 := strB (H.rb 0 rfl 44 HEL.out (by decide))
    refine startE (none) (by kernel_rfl) ?_
    refine takeE 0 rfl (by kernel_rfl) (by kernel_rfl) (by kernel_rfl) (fun _ _ _ h => h) rfl (v := ?_) ?_ ?_
    rotate_left
    · intro w' hw'; clear hw'; go_simp; (try with_reducible rfl)
    (try simp only [Act.put, List.setIfInBounds_toArray, List.set_cons_zero, List.set_cons_succ])
    refine takeE 1 rfl (by kernel_rfl) (by kernel_rfl) (by kernel_rfl) (fun _ _ _ h => h) rfl (v := ?_) ?_ ?_
    rotate_left
    · intro w' hw'; clear hw'; go_simp; (try with_reducible rfl)
    (try simp only [Act.put, List.setIfInBounds_toArray, List.set_cons_zero, List.set_cons_succ])
    refine takeE 2 rfl (by kernel_rfl) (by kernel_rfl) (by kernel_rfl) (fun _ _ _ h => h) rfl (v := ?_) ?_ ?_
    rotate_left
    · intro w' hw'; clear hw'; go_simp; (try with_reducible rfl)
    (try simp only [Act.put, List.setIfInBounds_toArray, List.set_cons_zero, List.set_cons_succ])
    refine skipE 3 rfl (by kernel_rfl) (by kernel_rfl) (by kernel_rfl) (fun _ _ _ h => h) rfl ?_
    (try simp only [Act.put, List.setIfInBounds_toArray, List.set_cons_zero, List.set_cons_succ])
    refine skipE 4 rfl (by kernel_rfl) (by kernel_rfl) (by kernel_rfl) (fun _ _ _ h => h) rfl ?_
    (try simp only [Act.put, List.setIfInBounds_toArray, List.set_cons_zero, List.set_cons_succ])
    refine skipE 5 rfl (by kernel_rfl) (by kernel_rfl) (by kernel_rfl) (fun _ _ _ h => h) rfl ?_
    (try simp only [Act.put, List.setIfInBounds_toArray, List.set_cons_zero, List.set_cons_succ])
    refine skipE 6 rfl (by kernel_rfl) (by kernel_rfl) (by kernel_rfl) (fun _ _ _ h => h) rfl ?_
    (try simp only [Act.put, List.setIfInBounds_toArray, List.set_cons_zero, List.set_cons_succ])
    refine skipE 7 rfl (by kernel_rfl) (by kernel_rfl) (by kernel_rfl) (fun _ _ _ h => h) rfl ?_
    (try simp only [Act.put, List.setIfInBounds_toArray, List.set_cons_zero, List.set_cons_succ])
    refine takeE 8 rfl (by kernel_rfl) (by kernel_rfl) (by kernel_rfl) (fun _ _ _ h => h) rfl (v := ?_) ?_ ?_
    rotate_left
    · intro w' hw'; clear hw'; go_simp; (try with_reducible rfl)
    (try simp only [Act.put, List.setIfInBounds_toArray, List.set_cons_zero, List.set_cons_succ])
    refine doneE (by kernel_rfl) ?_
    clear hs44 hst0
    go_wp2_with (first
      | (go_at_call 13; (with_reducible refine (cR _ _ (hb.below H.below)).mono ?_); rintro e w6 ⟨rfl, hb6⟩; replace H := H.step hb6; clear hb6)
      | (refine wVar plT l (H : SH Nil w _ [_, _]) rfl 6 _ rfl rfl rfl rfl rfl ?_; clear H; intro w7 H))
    replace H := H.drew
    rcases HF.out with ⟨hF0, hok⟩ | ⟨hF3, hln⟩
    · rw [hF0]
      have hnd := E2.out hok
      clear hF0 hok
      refine startE (none) (by kernel_rfl) ?_
      refine stepE 0 rfl (by kernel_rfl) rfl (fun K hK => ?_)
      (go_simp; refine (alive05_any _).mono ?_; rintro e w8 ⟨rfl, hb⟩; refine K_out hK hb ?_; clear K hK; replace H := H.step hb; clear hb)
      (try simp only [Act.put, List.setIfInBounds_toArray, List.set_cons_zero, List.set_cons_succ])
      refine takeE 1 rfl (by kernel_rfl) (by kernel_rfl) (by kernel_rfl) (fun _ _ _ h => h) rfl (v := ?_) ?_ ?_
      rotate_left
      · intro w' hw'; clear hw'; go_simp; (try with_reducible rfl)
      (try simp only [Act.put, List.setIfInBounds_toArray, List.set_cons_zero, List.set_cons_succ])
      refine takeE 2 rfl (by kernel_rfl) (by kernel_rfl) (by kernel_rfl) (fun _ _ _ h => h) rfl (v := ?_) ?_ ?_
      rotate_left
      · intro w' hw'; clear hw'; go_simp; (try with_reducible rfl)
      (try simp only [Act.put, List.setIfInBounds_toArray, List.set_cons_zero, List.set_cons_succ])
      refine takeE 3 rfl (by kernel_rfl) (by kernel_rfl) (by kernel_rfl) (fun _ _ _ h => h) rfl (v := ?_) ?_ ?_
      rotate_left
      · intro w' hw'; clear hw'; go_simp; (try with_reducible rfl)
      (try simp only [Act.put, List.setIfInBounds_toArray, List.set_cons_zero, List.set_cons_succ])
      refine takeE 4 rfl (by kernel_rfl) (by kernel_rfl) (by kernel_rfl) (fun _ _ _ h => h) rfl (v := ?_) ?_ ?_
      rotate_left
      · intro w' hw'; clear hw'; go_simp; (try with_reducible rfl)
      (try simp only [Act.put, List.setIfInBounds_toArray, List.set_cons_zero, List.set_cons_succ])
      refine skipE 5 rfl (by kernel_rfl) (by kernel_rfl) (by kernel_rfl) (fun _ _ _ h => h) rfl ?_
      (try simp only [Act.put, List.setIfInBounds_toArray, List.set_cons_zero, List.set_cons_succ])
      refine skipE 6 rfl (by kernel_rfl) (by kernel_rfl) (by kernel_rfl) (fun _ _ _ h => h) rfl ?_
      (try simp only [Act.put, List.setIfInBounds_toArray, List.set_cons_zero, List.set_cons_succ])
      refine skipE 7 rfl (by kernel_rfl) (by kernel_rfl) (by kernel_rfl) (fun _ _ _ h => h) rfl ?_
      (try simp only [Act.put, List.setIfInBounds_toArray, List.set_cons_zero, List.set_cons_succ])
      refine takeE 8 rfl (by kernel_rfl) (by kernel_rfl) (by kernel_rfl) (fun _ _ _ h => h) rfl (v := ?_) ?_ ?_
      rotate_left
      · intro w' hw'; clear hw'; go_simp; (try with_reducible rfl)
      (try simp only [Act.put, List.setIfInBounds_toArray, List.set_cons_zero, List.set_cons_succ])
      refine takeE 9 rfl (by kernel_rfl) (by kernel_rfl) (by kernel_rfl) (fun _ _ _ h => h) rfl (v := ?_) ?_ ?_
      rotate_left
      · intro w' hw'; clear hw'; go_simp; (try with_reducible rfl)
      (try simp only [Act.put, List.setIfInBounds_toArray, List.set_cons_zero, List.set_cons_succ])
      refine takeE 10 rfl (by kernel_rfl) (by kernel_rfl) (by kernel_rfl) (fun _ _ _ h => h) rfl (v := ?_) ?_ ?_
      rotate_left
      · intro w' hw'; clear hw'; go_simp; (try with_reducible rfl)
      (try simp only [Act.put, List.setIfInBounds_toArray, List.set_cons_zero, List.set_cons_succ])
      refine takeE 11 rfl (by kernel_rfl) (by kernel_rfl) (by kernel_rfl) (fun _ _ _ h => h) rfl (v := ?_) ?_ ?_
      rotate_left
      · intro w' hw'; clear hw'; go_simp; (try with_reducible rfl)
      (try simp only [Act.put, List.setIfInBounds_toArray, List.set_cons_zero, List.set_cons_succ])
      refine takeE 12 rfl (by kernel_rfl) (by kernel_rfl) (by kernel_rfl) (fun _ _ _ h => h) rfl (v := ?_) ?_ ?_
      rotate_left
      · intro w' hw'; clear hw'; go_simp; (try with_reducible rfl)
      (try simp only [Act.put, List.setIfInBounds_toArray, List.set_cons_zero, List.set_cons_succ])
      refine takeE 13 rfl (by kernel_rfl) (by kernel_rfl) (by kernel_rfl) (fun _ _ _ h => h) rfl (v := ?_) ?_ ?_
      rotate_left
      · intro w' hw'; refine Eq.trans (exec_load 36 _ rfl w6.heap.size 0 rfl (plT.enc l) _ (VA.all ((H.va 0 rfl).below (grown_none hw'))) Try.underlying36 rfl l.info) ?_; with_reducible rfl
      (try simp only [Act.put, List.setIfInBounds_toArray, List.set_cons_zero, List.set_cons_succ])
      refine takeE 16 rfl (by kernel_rfl) (by kernel_rfl) (by kernel_rfl) (fun _ _ _ h => h) rfl (v := ?_) ?_ ?_
      rotate_left
      · intro w' hw'; clear hw'; go_simp; (try with_reducible rfl)
      (try simp only [Act.put, List.setIfInBounds_toArray, List.set_cons_zero, List.set_cons_succ])
      refine takeE 17 rfl (by kernel_rfl) (by kernel_rfl) (by kernel_rfl) (fun _ _ _ h => h) rfl (v := ?_) ?_ ?_
      rotate_left
      · intro w' hw'; have h := HST.out _ (below_two H.below H.size (grown_none hw')); clear hw'; go_simp; (try with_reducible rfl)
      (try simp only [Act.put, List.setIfInBounds_toArray, List.set_cons_zero, List.set_cons_succ])
      refine stepE 14 rfl (by kernel_rfl) rfl (fun K hK => ?_)
      (go_simp; (with_reducible refine (cN _).mono ?_); rintro e w9 ⟨v9, rfl, ho9, hb⟩; refine K_out hK hb ?_; clear K hK; replace H := H.step hb; clear hb; have qn := ho9.reads; clear ho9)
      (try simp only [Act.put, List.setIfInBounds_toArray, List.set_cons_zero, List.set_cons_succ])
      refine takeE 15 rfl (by kernel_rfl) (by kernel_rfl) (by kernel_rfl) (fun _ _ _ h => h) rfl (v := ?_) ?_ ?_
      rotate_left
      · intro w' hw'; have h := strB (qn.below (grown_none hw')); clear hw'; go_simp; (try with_reducible rfl)
      (try simp only [Act.put, List.setIfInBounds_toArray, List.set_cons_zero, List.set_cons_succ])
      refine takeE 18 rfl (by kernel_rfl) (by kernel_rfl) (by kernel_rfl) (fun _ _ _ h => h) rfl (v := ?_) ?_ ?_
      rotate_left
      · intro w' hw'; clear hw'; go_simp; (try with_reducible rfl)
      (try simp only [Act.put, List.setIfInBounds_toArray, List.set_cons_zero, List.set_cons_succ])
      refine takeE 19 rfl (by kernel_rfl) (by kernel_rfl) (by kernel_rfl) (fun _ _ _ h => h) rfl (v := ?_) ?_ ?_
      rotate_left
      · intro w' hw'; clear hw'; go_simp; (try with_reducible rfl)
      (try simp only [Act.put, List.setIfInBounds_toArray, List.set_cons_zero, List.set_cons_succ])
      refine takeE 20 rfl (by kernel_rfl) (by kernel_rfl) (by kernel_rfl) (fun _ _ _ h => h) rfl (v := ?_) ?_ ?_
      rotate_left
      · intro w' hw'; clear hw'; go_simp; (try with_reducible rfl)
      (try simp only [Act.put, List.setIfInBounds_toArray, List.set_cons_zero, List.set_cons_succ])
      refine takeE 21 rfl (by kernel_rfl) (by kernel_rfl) (by kernel_rfl) (fun _ _ _ h => h) rfl (v := ?_) ?_ ?_
      rotate_left
      · intro w' hw'; clear hw'; go_simp; (try with_reducible rfl)
      (try simp only [Act.put, List.setIfInBounds_toArray, List.set_cons_zero, List.set_cons_succ])
      refine takeE 22 rfl (by kernel_rfl) (by kernel_rfl) (by kernel_rfl) (fun _ _ _ h => h) rfl (v := ?_) ?_ ?_
      rotate_left
      · intro w' hw'; clear hw'; go_simp; (try with_reducible rfl)
      (try simp only [Act.put, List.setIfInBounds_toArray, List.set_cons_zero, List.set_cons_succ])
      refine doneE (by kernel_rfl) ?_
      go_wp2
      go_ret
      exact ⟨rfl, H.below⟩
    · rw [hF3]
      have hbq := HQL.out hln
      have QL' := QL.out
      rw [hbq] at QL'
      have QM := Lib.hid QL'
      clear hF3 hln hbq QL'
      refine startE (none) (by kernel_rfl) ?_
      refine stepE 0 rfl (by kernel_rfl) rfl (fun K hK => ?_)
      (go_simp; refine (alive05_any _).mono ?_; rintro e w8 ⟨rfl, hb⟩; refine K_out hK hb ?_; clear K hK; replace H := H.step hb; clear hb)
      (try simp only [Act.put, List.setIfInBounds_toArray, List.set_cons_zero, List.set_cons_succ])
      refine takeE 1 rfl (by kernel_rfl) (by kernel_rfl) (by kernel_rfl) (fun _ _ _ h => h) rfl (v := ?_) ?_ ?_
      rotate_left
      · intro w' hw'; clear hw'; go_simp; (try with_reducible rfl)
      (try simp only [Act.put, List.setIfInBounds_toArray, List.set_cons_zero, List.set_cons_succ])
      refine takeE 2 rfl (by kernel_rfl) (by kernel_rfl) (by kernel_rfl) (fun _ _ _ h => h) rfl (v := ?_) ?_ ?_
      rotate_left
      · intro w' hw'; clear hw'; go_simp; (try with_reducible rfl)
      (try simp only [Act.put, List.setIfInBounds_toArray, List.set_cons_zero, List.set_cons_succ])
      refine takeE 3 rfl (by kernel_rfl) (by kernel_rfl) (by kernel_rfl) (fun _ _ _ h => h) rfl (v := ?_) ?_ ?_
      rotate_left
      · intro w' hw'; clear hw'; go_simp; (try with_reducible rfl)
      (try simp only [Act.put, List.setIfInBounds_toArray, List.set_cons_zero, List.set_cons_succ])
      refine takeE 4 rfl (by kernel_rfl) (by kernel_rfl) (by kernel_rfl) (fun _ _ _ h => h) rfl (v := ?_) ?_ ?_
      rotate_left
      · intro w' hw'; clear hw'; go_simp; (try with_reducible rfl)
      (try simp only [Act.put, List.setIfInBounds_toArray, List.set_cons_zero, List.set_cons_succ])
      refine takeE 5 rfl (by kernel_rfl) (by kernel_rfl) (by kernel_rfl) (fun _ _ _ h => h) rfl (v := ?_) ?_ ?_
      rotate_left
      · intro w' hw'; refine Eq.trans (exec_load 36 _ rfl w6.heap.size 0 rfl (plT.enc l) _ (VA.all ((H.va 0 rfl).below (grown_none hw'))) Try.underlying36 rfl l.info) ?_; with_reducible rfl
      (try simp only [Act.put, List.setIfInBounds_toArray, List.set_cons_zero, List.set_cons_succ])
      refine takeE 6 rfl (by kernel_rfl) (by kernel_rfl) (by kernel_rfl) (fun _ _ _ h => h) rfl (v := ?_) ?_ ?_
      rotate_left
      · intro w' hw'; refine Eq.trans (exec_zero 36 rfl (plT.enc plT.zero) pl_zero) ?_; with_reducible rfl
      (try simp only [Act.put, List.setIfInBounds_toArray, List.set_cons_zero, List.set_cons_succ])
      refine takeE 7 rfl (by kernel_rfl) (by kernel_rfl) (by kernel_rfl) (fun _ _ _ h => h) rfl (v := ?_) ?_ ?_
      rotate_left
      · intro w' hw'; refine Eq.trans (exec_eql 36 _ _ _ rfl _ _ rfl rfl pl_guard _ (QM.out _)) ?_; with_reducible rfl
      (try simp only [Act.put, List.setIfInBounds_toArray, List.set_cons_zero, List.set_cons_succ])
      refine takeE 8 rfl (by kernel_rfl) (by kernel_rfl) (by kernel_rfl) (fun _ _ _ h => h) rfl (v := ?_) ?_ ?_
      rotate_left
      · intro w' hw'; clear hw'; go_simp; (try with_reducible rfl)
      (try simp only [Act.put, List.setIfInBounds_toArray, List.set_cons_zero, List.set_cons_succ])
      refine takeE 9 rfl (by kernel_rfl) (by kernel_rfl) (by kernel_rfl) (fun _ _ _ h => h) rfl (v := ?_) ?_ ?_
      rotate_left
      · intro w' hw'; clear hw'; go_simp; (try with_reducible rfl)
      (try simp only [Act.put, List.setIfInBounds_toArray, List.set_cons_zero, List.set_cons_succ])
      refine skipE 10 rfl (by kernel_rfl) (by kernel_rfl) (by kernel_rfl) (fun _ _ _ h => h) rfl ?_
      (try simp only [Act.put, List.setIfInBounds_toArray, List.set_cons_zero, List.set_cons_succ])
      refine skipE 11 rfl (by kernel_rfl) (by kernel_rfl) (by kernel_rfl) (fun _ _ _ h => h) rfl ?_
      (try simp only [Act.put, List.setIfInBounds_toArray, List.set_cons_zero, List.set_cons_succ])
      refine skipE 12 rfl (by kernel_rfl) (by kernel_rfl) (by kernel_rfl) (fun _ _ _ h => h) rfl ?_
      (try simp only [Act.put, List.setIfInBounds_toArray, List.set_cons_zero, List.set_cons_succ])
      refine skipE 13 rfl (by kernel_rfl) (by kernel_rfl) (by kernel_rfl) (fun _ _ _ h => h) rfl ?_
      (try simp only [Act.put, List.setIfInBounds_toArray, List.set_cons_zero, List.set_cons_succ])
      refine skipE 14 rfl (by kernel_rfl) (by kernel_rfl) (by kernel_rfl) (fun _ _ _ h => h) rfl ?_
      (try simp only [Act.put, List.setIfInBounds_toArray, List.set_cons_zero, List.set_cons_succ])
      refine skipE 15 rfl (by kernel_rfl) (by kernel_rfl) (by kernel_rfl) (fun _ _ _ h => h) rfl ?_
      (try simp only [Act.put, List.setIfInBounds_toArray, List.set_cons_zero, List.set_cons_succ])
      refine skipE 16 rfl (by kernel_rfl) (by kernel_rfl) (by kernel_rfl) (fun _ _ _ h => h) rfl ?_
      (try simp only [Act.put, List.setIfInBounds_toArray, List.set_cons_zero, List.set_cons_succ])
      refine skipE 17 rfl (by kernel_rfl) (by kernel_rfl) (by kernel_rfl) (fun _ _ _ h => h) rfl ?_
      (try simp only [Act.put, List.setIfInBounds_toArray, List.set_cons_zero, List.set_cons_succ])
      refine skipE 18 rfl (by kernel_rfl) (by kernel_rfl) (by kernel_rfl) (fun _ _ _ h => h) rfl ?_
      (try simp only [Act.put, List.setIfInBounds_toArray, List.set_cons_zero, List.set_cons_succ])
      refine skipE 19 rfl (by kernel_rfl) (by kernel_rfl) (by kernel_rfl) (fun _ _ _ h => h) rfl ?_
      (try simp only [Act.put, List.setIfInBounds_toArray, List.set_cons_zero, List.set_cons_succ])
      refine takeE 20 rfl (by kernel_rfl) (by kernel_rfl) (by kernel_rfl) (fun _ _ _ h => h) rfl (v := ?_) ?_ ?_
      rotate_left
      · intro w' hw'; clear hw'; go_simp; (try with_reducible rfl)
      (try simp only [Act.put, List.setIfInBounds_toArray, List.set_cons_zero, List.set_cons_succ])
      refine takeE 21 rfl (by kernel_rfl) (by kernel_rfl) (by kernel_rfl) (fun _ _ _ h => h) rfl (v := ?_) ?_ ?_
      rotate_left
      · intro w' hw'; clear hw'; go_simp; (try with_reducible rfl)
      (try simp only [Act.put, List.setIfInBounds_toArray, List.set_cons_zero, List.set_cons_succ])
      refine takeE 22 rfl (by kernel_rfl) (by kernel_rfl) (by kernel_rfl) (fun _ _ _ h => h) rfl (v := ?_) ?_ ?_
      rotate_left
      · intro w' hw'; clear hw'; go_simp; (try with_reducible rfl)
      (try simp only [Act.put, List.setIfInBounds_toArray, List.set_cons_zero, List.set_cons_succ])
      refine doneE (by kernel_rfl) ?_
      go_wp2
      go_ret
      exact ⟨rfl, H.below⟩
  · rw [hE] at cD
    clear hE
    go_enter Try.func6, Try.ntmps6
    go_wp2_with (first
      | (go_at_call 11; (with_reducible refine (cD _ _ (hb.below H.below)).mono ?_); rintro e w2 ⟨rfl, hb2⟩; replace H := H.step hb2; clear hb2)
      | (refine wVar ptT p (H : SH Nil w _ []) rfl 3 _ rfl rfl rfl rfl rfl ?_; clear H; intro w3 H)
      | (refine wLoad ptT p H 0 rfl (List.take_of_length_le (by rw [List.drop_zero]; exact Nat.le_of_eq p.len)) _ rfl rfl rfl ?_)
      | (go_at_call 15; (with_reducible refine (cE _).mono ?_); rintro e w4 ⟨rfl, hb4⟩; replace H := H.step hb4; clear hb4)
      | (refine wVar a44 (enc44 p) (H : SH Nil w _ [_]) rfl 5 _ rfl rfl rfl rfl rfl ?_; clear H; intro w5 H))
    replace H := H.drew
    have hst0 := HST.out _ H.below
    have hs44 := strB (H.rb 0 rfl 44 HEL.out (by decide))
    refine startE (none) (by kernel_rfl) ?_
    refine takeE 0 rfl (by kernel_rfl) (by kernel_rfl) (by kernel_rfl) (fun _ _ _ h => h) rfl (v := ?_) ?_ ?_
    rotate_left
    · intro w' hw'; clear hw'; go_simp; (try with_reducible rfl)
    (try simp only [Act.put, List.setIfInBounds_toArray, List.set_cons_zero, List.set_cons_succ])
    refine takeE 1 rfl (by kernel_rfl) (by kernel_rfl) (by kernel_rfl) (fun _ _ _ h => h) rfl (v := ?_) ?_ ?_
    rotate_left
    · intro w' hw'; clear hw'; go_simp; (try with_reducible rfl)
    (try simp only [Act.put, List.setIfInBounds_toArray, List.set_cons_zero, List.set_cons_succ])
    refine takeE 2 rfl (by kernel_rfl) (by kernel_rfl) (by kernel_rfl) (fun _ _ _ h => h) rfl (v := ?_) ?_ ?_
    rotate_left
    · intro w' hw'; clear hw'; go_simp; (try with_reducible rfl)
    (try simp only [Act.put, List.setIfInBounds_toArray, List.set_cons_zero, List.set_cons_succ])
    refine skipE 3 rfl (by kernel_rfl) (by kernel_rfl) (by kernel_rfl) (fun _ _ _ h => h) rfl ?_
    (try simp only [Act.put, List.setIfInBounds_toArray, List.set_cons_zero, List.set_cons_succ])
    refine skipE 4 rfl (by kernel_rfl) (by kernel_rfl) (by kernel_rfl) (fun _ _ _ h => h) rfl ?_
    (try simp only [Act.put, List.setIfInBounds_toArray, List.set_cons_zero, List.set_cons_succ])
    refine skipE 5 rfl (by kernel_rfl) (by kernel_rfl) (by kernel_rfl) (fun _ _ _ h => h) rfl ?_
    (try simp only [Act.put, List.setIfInBounds_toArray, List.set_cons_zero, List.set_cons_succ])
    refine skipE 6 rfl (by kernel_rfl) (by kernel_rfl) (by kernel_rfl) (fun _ _ _ h => h) rfl ?_
    (try simp only [Act.put, List.setIfInBounds_toArray, List.set_cons_zero, List.set_cons_succ])
    refine skipE 7 rfl (by kernel_rfl) (by kernel_rfl) (by kernel_rfl) (fun _ _ _ h => h) rfl ?_
    (try simp only [Act.put, List.setIfInBounds_toArray, List.set_cons_zero, List.set_cons_succ])
    refine takeE 8 rfl (by kernel_rfl) (by kernel_rfl) (by kernel_rfl) (fun _ _ _ h => h) rfl (v := ?_) ?_ ?_
    rotate_left
    · intro w' hw'; clear hw'; go_simp; (try with_reducible rfl)
    (try simp only [Act.put, List.setIfInBounds_toArray, List.set_cons_zero, List.set_cons_succ])
    refine doneE (by kernel_rfl) ?_
    clear hs44 hst0
    go_wp2_with (first
      | (go_at_call 13; (with_reducible refine (cR _ _ (hb.below H.below)).mono ?_); rintro e w6 ⟨rfl, hb6⟩; replace H := H.step hb6; clear hb6)
      | (refine wVar plT l (H : SH Nil w _ [_, _]) rfl 6 _ rfl rfl rfl rfl rfl ?_; clear H; intro w7 H))
    replace H := H.drew
    rcases HF.out with ⟨hF0, hok⟩ | ⟨hF3, hln⟩
    · rw [hF0]
      have hnd := E2.out hok
      clear hF0 hok
      refine startE (none) (by kernel_rfl) ?_
      refine stepE 0 rfl (by kernel_rfl) rfl (fun K hK => ?_)
      (go_simp; refine (alive05_any _).mono ?_; rintro e w8 ⟨rfl, hb⟩; refine K_out hK hb ?_; clear K hK; replace H := H.step hb; clear hb)
      (try simp only [Act.put, List.setIfInBounds_toArray, List.set_cons_zero, List.set_cons_succ])
      refine takeE 1 rfl (by kernel_rfl) (by kernel_rfl) (by kernel_rfl) (fun _ _ _ h => h) rfl (v := ?_) ?_ ?_
      rotate_left
      · intro w' hw'; clear hw'; go_simp; (try with_reducible rfl)
      (try simp only [Act.put, List.setIfInBounds_toArray, List.set_cons_zero, List.set_cons_succ])
      refine takeE 2 rfl (by kernel_rfl) (by kernel_rfl) (by kernel_rfl) (fun _ _ _ h => h) rfl (v := ?_) ?_ ?_
      rotate_left
      · intro w' hw'; clear hw'; go_simp; (try with_reducible rfl)
      (try simp only [Act.put, List.setIfInBounds_toArray, List.set_cons_zero, List.set_cons_succ])
      refine takeE 3 rfl (by kernel_rfl) (by kernel_rfl) (by kernel_rfl) (fun _ _ _ h => h) rfl (v := ?_) ?_ ?_
      rotate_left
      · intro w' hw'; clear hw'; go_simp; (try with_reducible rfl)
      (try simp only [Act.put, List.setIfInBounds_toArray, List.set_cons_zero, List.set_cons_succ])
      refine takeE 4 rfl (by kernel_rfl) (by kernel_rfl) (by kernel_rfl) (fun _ _ _ h => h) rfl (v := ?_) ?_ ?_
      rotate_left
      · intro w' hw'; clear hw'; go_simp; (try with_reducible rfl)
      (try simp only [Act.put, List.setIfInBounds_toArray, List.set_cons_zero, List.set_cons_succ])
      refine skipE 5 rfl (by kernel_rfl) (by kernel_rfl) (by kernel_rfl) (fun _ _ _ h => h) rfl ?_
      (try simp only [Act.put, List.setIfInBounds_toArray, List.set_cons_zero, List.set_cons_succ])
      refine skipE 6 rfl (by kernel_rfl) (by kernel_rfl) (by kernel_rfl) (fun _ _ _ h => h) rfl ?_
      (try simp only [Act.put, List.setIfInBounds_toArray, List.set_cons_zero, List.set_cons_succ])
      refine skipE 7 rfl (by kernel_rfl) (by kernel_rfl) (by kernel_rfl) (fun _ _ _ h => h) rfl ?_
      (try simp only [Act.put, List.setIfInBounds_toArray, List.set_cons_zero, List.set_cons_succ])
      refine takeE 8 rfl (by kernel_rfl) (by kernel_rfl) (by kernel_rfl) (fun _ _ _ h => h) rfl (v := ?_) ?_ ?_
      rotate_left
      · intro w' hw'; clear hw'; go_simp; (try with_reducible rfl)
      (try simp only [Act.put, List.setIfInBounds_toArray, List.set_cons_zero, List.set_cons_succ])
      refine takeE 9 rfl (by kernel_rfl) (by kernel_rfl) (by kernel_rfl) (fun _ _ _ h => h) rfl (v := ?_) ?_ ?_
      rotate_left
      · intro w' hw'; clear hw'; go_simp; (try with_reducible rfl)
      (try simp only [Act.put, List.setIfInBounds_toArray, List.set_cons_zero, List.set_cons_succ])
      refine takeE 10 rfl (by kernel_rfl) (by kernel_rfl) (by kernel_rfl) (fun _ _ _ h => h) rfl (v := ?_) ?_ ?_
      rotate_left
      · intro w' hw'; clear hw'; go_simp; (try with_reducible rfl)
      (try simp only [Act.put, List.setIfInBounds_toArray, List.set_cons_zero, List.set_cons_succ])
      refine takeE 11 rfl (by kernel_rfl) (by kernel_rfl) (by kernel_rfl) (fun _ _ _ h => h) rfl (v := ?_) ?_ ?_
      rotate_left
      · intro w' hw'; clear hw'; go_simp; (try with_reducible rfl)
      (try simp only [Act.put, List.setIfInBounds_toArray, List.set_cons_zero, List.set_cons_succ])
      refine takeE 12 rfl (by kernel_rfl) (by kernel_rfl) (by kernel_rfl) (fun _ _ _ h => h) rfl (v := ?_) ?_ ?_
      rotate_left
      · intro w' hw'; clear hw'; go_simp; (try with_reducible rfl)
      (try simp only [Act.put, List.setIfInBounds_toArray, List.set_cons_zero, List.set_cons_succ])
      refine takeE 13 rfl (by kernel_rfl) (by kernel_rfl) (by kernel_rfl) (fun _ _ _ h => h) rfl (v := ?_) ?_ ?_
      rotate_left
      · intro w' hw'; refine Eq.trans (exec_load 36 _ rfl w6.heap.size 0 rfl (plT.enc l) _ (VA.all ((H.va 0 rfl).below (grown_none hw'))) Try.underlying36 rfl l.info) ?_; with_reducible rfl
      (try simp only [Act.put, List.setIfInBounds_toArray, List.set_cons_zero, List.set_cons_succ])
      refine takeE 16 rfl (by kernel_rfl) (by kernel_rfl) (by kernel_rfl) (fun _ _ _ h => h) rfl (v := ?_) ?_ ?_
      rotate_left
      · intro w' hw'; clear hw'; go_simp; (try with_reducible rfl)
      (try simp only [Act.put, List.setIfInBounds_toArray, List.set_cons_zero, List.set_cons_succ])
      refine takeE 17 rfl (by kernel_rfl) (by kernel_rfl) (by kernel_rfl) (fun _ _ _ h => h) rfl (v := ?_) ?_ ?_
      rotate_left
      · intro w' hw'; have h := HST.out _ (below_two H.below H.size (grown_none hw')); clear hw'; go_simp; (try with_reducible rfl)
      (try simp only [Act.put, List.setIfInBounds_toArray, List.set_cons_zero, List.set_cons_succ])
      refine stepE 14 rfl (by kernel_rfl) rfl (fun K hK => ?_)
      (go_simp; (with_reducible refine (cN _).mono ?_); rintro e w9 ⟨v9, rfl, ho9, hb⟩; refine K_out hK hb ?_; clear K hK; replace H := H.step hb; clear hb; have qn := ho9.reads; clear ho9)
      (try simp only [Act.put, List.setIfInBounds_toArray, List.set_cons_zero, List.set_cons_succ])
      refine takeE 15 rfl (by kernel_rfl) (by kernel_rfl) (by kernel_rfl) (fun _ _ _ h => h) rfl (v := ?_) ?_ ?_
      rotate_left
      · intro w' hw'; have h := strB (qn.below (grown_none hw')); clear hw'; go_simp; (try with_reducible rfl)
      (try simp only [Act.put, List.setIfInBounds_toArray, List.set_cons_zero, List.set_cons_succ])
      refine takeE 18 rfl (by kernel_rfl) (by kernel_rfl) (by kernel_rfl) (fun _ _ _ h => h) rfl (v := ?_) ?_ ?_
      rotate_left
      · intro w' hw'; clear hw'; go_simp; (try with_reducible rfl)
      (try simp only [Act.put, List.setIfInBounds_toArray, List.set_cons_zero, List.set_cons_succ])
      refine takeE 19 rfl (by kernel_rfl) (by kernel_rfl) (by kernel_rfl) (fun _ _ _ h => h) rfl (v := ?_) ?_ ?_
      rotate_left
      · intro w' hw'; clear hw'; go_simp; (try with_reducible rfl)
      (try simp only [Act.put, List.setIfInBounds_toArray, List.set_cons_zero, List.set_cons_succ])
      refine takeE 20 rfl (by kernel_rfl) (by kernel_rfl) (by kernel_rfl) (fun _ _ _ h => h) rfl (v := ?_) ?_ ?_
      rotate_left
      · intro w' hw'; clear hw'; go_simp; (try with_reducible rfl)
      (try simp only [Act.put, List.setIfInBounds_toArray, List.set_cons_zero, List.set_cons_succ])
      refine takeE 21 rfl (by kernel_rfl) (by kernel_rfl) (by kernel_rfl) (fun _ _ _ h => h) rfl (v := ?_) ?_ ?_
      rotate_left
      · intro w' hw'; clear hw'; go_simp; (try with_reducible rfl)
      (try simp only [Act.put, List.setIfInBounds_toArray, List.set_cons_zero, List.set_cons_succ])
      refine takeE 22 rfl (by kernel_rfl) (by kernel_rfl) (by kernel_rfl) (fun _ _ _ h => h) rfl (v := ?_) ?_ ?_
      rotate_left
      · intro w' hw'; clear hw'; go_simp; (try with_reducible rfl)
      (try simp only [Act.put, List.setIfInBounds_toArray, List.set_cons_zero, List.set_cons_succ])
      refine doneE (by kernel_rfl) ?_
      go_wp2
      go_ret
      exact ⟨rfl, H.below⟩
    · rw [hF3]
      have hbq := HQL.out hln
      have QL' := QL.out
      rw [hbq] at QL'
      have QM := Lib.hid QL'
      clear hF3 hln hbq QL'
      refine startE (none) (by kernel_rfl) ?_
      refine stepE 0 rfl (by kernel_rfl) rfl (fun K hK => ?_)
      (go_simp; refine (alive05_any _).mono ?_; rintro e w8 ⟨rfl, hb⟩; refine K_out hK hb ?_; clear K hK; replace H := H.step hb; clear hb)
      (try simp only [Act.put, List.setIfInBounds_toArray, List.set_cons_zero, List.set_cons_succ])
      refine takeE 1 rfl (by kernel_rfl) (by kernel_rfl) (by kernel_rfl) (fun _ _ _ h => h) rfl (v := ?_) ?_ ?_
      rotate_left
      · intro w' hw'; clear hw'; go_simp; (try with_reducible rfl)
      (try simp only [Act.put, List.setIfInBounds_toArray, List.set_cons_zero, List.set_cons_succ])
      refine takeE 2 rfl (by kernel_rfl) (by kernel_rfl) (by kernel_rfl) (fun _ _ _ h => h) rfl (v := ?_) ?_ ?_
      rotate_left
      · intro w' hw'; clear hw'; go_simp; (try with_reducible rfl)
      (try simp only [Act.put, List.setIfInBounds_toArray, List.set_cons_zero, List.set_cons_succ])
      refine takeE 3 rfl (by kernel_rfl) (by kernel_rfl) (by kernel_rfl) (fun _ _ _ h => h) rfl (v := ?_) ?_ ?_
      rotate_left
      · intro w' hw'; clear hw'; go_simp; (try with_reducible rfl)
      (try simp only [Act.put, List.setIfInBounds_toArray, List.set_cons_zero, List.set_cons_succ])
      refine takeE 4 rfl (by kernel_rfl) (by kernel_rfl) (by kernel_rfl) (fun _ _ _ h => h) rfl (v := ?_) ?_ ?_
      rotate_left
      · intro w' hw'; clear hw'; go_simp; (try with_reducible rfl)
      (try simp only [Act.put, List.setIfInBounds_toArray, List.set_cons_zero, List.set_cons_succ])
      refine takeE 5 rfl (by kernel_rfl) (by kernel_rfl) (by kernel_rfl) (fun _ _ _ h => h) rfl (v := ?_) ?_ ?_
      rotate_left
      · intro w' hw'; refine Eq.trans (exec_load 36 _ rfl w6.heap.size 0 rfl (plT.enc l) _ (VA.all ((H.va 0 rfl).below (grown_none hw'))) Try.underlying36 rfl l.info) ?_; with_reducible rfl
      (try simp only [Act.put, List.setIfInBounds_toArray, List.set_cons_zero, List.set_cons_succ])
      refine takeE 6 rfl (by kernel_rfl) (by kernel_rfl) (by kernel_rfl) (fun _ _ _ h => h) rfl (v := ?_) ?_ ?_
      rotate_left
      · intro w' hw'; refine Eq.trans (exec_zero 36 rfl (plT.enc plT.zero) pl_zero) ?_; with_reducible rfl
      (try simp only [Act.put, List.setIfInBounds_toArray, List.set_cons_zero, List.set_cons_succ])
      refine takeE 7 rfl (by kernel_rfl) (by kernel_rfl) (by kernel_rfl) (fun _ _ _ h => h) rfl (v := ?_) ?_ ?_
      rotate_left
      · intro w' hw'; refine Eq.trans (exec_eql 36 _ _ _ rfl _ _ rfl rfl pl_guard _ (QM.out _)) ?_; with_reducible rfl
      (try simp only [Act.put, List.setIfInBounds_toArray, List.set_cons_zero, List.set_cons_succ])
      refine takeE 8 rfl (by kernel_rfl) (by kernel_rfl) (by kernel_rfl) (fun _ _ _ h => h) rfl (v := ?_) ?_ ?_
      rotate_left
      · intro w' hw'; clear hw'; go_simp; (try with_reducible rfl)
      (try simp only [Act.put, List.setIfInBounds_toArray, List.set_cons_zero, List.set_cons_succ])
      refine takeE 9 rfl (by kernel_rfl) (by kernel_rfl) (by kernel_rfl) (fun _ _ _ h => h) rfl (v := ?_) ?_ ?_
      rotate_left
      · intro w' hw'; clear hw'; go_simp; (try with_reducible rfl)
      (try simp only [Act.put, List.setIfInBounds_toArray, List.set_cons_zero, List.set_cons_succ])
      refine skipE 10 rfl (by kernel_rfl) (by kernel_rfl) (by kernel_rfl) (fun _ _ _ h => h) rfl ?_
      (try simp only [Act.put, List.setIfInBounds_toArray, List.set_cons_zero, List.set_cons_succ])
      refine skipE 11 rfl (by kernel_rfl) (by kernel_rfl) (by kernel_rfl) (fun _ _ _ h => h) rfl ?_
      (try simp only [Act.put, List.setIfInBounds_toArray, List.set_cons_zero, List.set_cons_succ])
      refine skipE 12 rfl (by kernel_rfl) (by kernel_rfl) (by kernel_rfl) (fun _ _ _ h => h) rfl ?_
      (try simp only [Act.put, List.setIfInBounds_toArray, List.set_cons_zero, List.set_cons_succ])
      refine skipE 13 rfl (by kernel_rfl) (by kernel_rfl) (by kernel_rfl) (fun _ _ _ h => h) rfl ?_
      (try simp only [Act.put, List.setIfInBounds_toArray, List.set_cons_zero, List.set_cons_succ])
      refine skipE 14 rfl (by kernel_rfl) (by kernel_rfl) (by kernel_rfl) (fun _ _ _ h => h) rfl ?_
      (try simp only [Act.put, List.setIfInBounds_toArray, List.set_cons_zero, List.set_cons_succ])
      refine skipE 15 rfl (by kernel_rfl) (by kernel_rfl) (by kernel_rfl) (fun _ _ _ h => h) rfl ?_
      (try simp only [Act.put, List.setIfInBounds_toArray, List.set_cons_zero, List.set_cons_succ])
      refine skipE 16 rfl (by kernel_rfl) (by kernel_rfl) (by kernel_rfl) (fun _ _ _ h => h) rfl ?_
      (try simp only [Act.put, List.setIfInBounds_toArray, List.set_cons_zero, List.set_cons_succ])
      refine skipE 17 rfl (by kernel_rfl) (by kernel_rfl) (by kernel_rfl) (fun _ _ _ h => h) rfl ?_
      (try simp only [Act.put, List.setIfInBounds_toArray, List.set_cons_zero, List.set_cons_succ])
      refine skipE 18 rfl (by kernel_rfl) (by kernel_rfl) (by kernel_rfl) (fun _ _ _ h => h) rfl ?_
      (try simp only [Act.put, List.setIfInBounds_toArray, List.set_cons_zero, List.set_cons_succ])
      refine skipE 19 rfl (by kernel_rfl) (by kernel_rfl) (by kernel_rfl) (fun _ _ _ h => h) rfl ?_
      (try simp only [Act.put, List.setIfInBounds_toArray, List.set_cons_zero, List.set_cons_succ])
      refine takeE 20 rfl (by kernel_rfl) (by kernel_rfl) (by kernel_rfl) (fun _ _ _ h => h) rfl (v := ?_) ?_ ?_
      rotate_left
      · intro w' hw'; clear hw'; go_simp; (try with_reducible rfl)
      (try simp only [Act.put, List.setIfInBounds_toArray, List.set_cons_zero, List.set_cons_succ])
      refine takeE 21 rfl (by kernel_rfl) (by kernel_rfl) (by kernel_rfl) (fun _ _ _ h => h) rfl (v := ?_) ?_ ?_
      rotate_left
      · intro w' hw'; clear hw'; go_simp; (try with_reducible rfl)
      (try simp only [Act.put, List.setIfInBounds_toArray, List.set_cons_zero, List.set_cons_succ])
      refine takeE 22 rfl (by kernel_rfl) (by kernel_rfl) (by kernel_rfl) (fun _ _ _ h => h) rfl (v := ?_) ?_ ?_
      rotate_left
      · intro w' hw'; clear hw'; go_simp; (try with_reducible rfl)
      (try simp only [Act.put, List.setIfInBounds_toArray, List.set_cons_zero, List.set_cons_succ])
      refine doneE (by kernel_rfl) ?_
      go_wp2
      go_ret
      exact ⟨rfl, H.below⟩

set_option maxHeartbeats 3200000 in
set_option maxRecDepth 100000 in
theorem PtrBack_any (l : PL) (w : World) :
    Calls Try.prog 5 #[l.val] w fun e w' => e = .returned (.bool true) ∧ Below w.heap.size w w' := by
  have H := SH.start Nil w
  have hll := PL.len l
  have HLL := Lib.hid hll
  clear hll
  unfold PL.val
  go_enter Try.func5, Try.ntmps5
  go_wp2_with (first
    | (refine wBox plT l H _ rfl rfl rfl ?_; clear H; intro w1 H))
  go_loopw [3, 4] (fun v3 v4 wr => ∃ (k : Nat), v4 = .int .i64 (k : Int) ∧ k ≤ 4 ∧ v3 = .bool ((l.1.take k).all PT.may) ∧ SH Nil w wr [.blk w.heap.size 36 (plT.enc l)]) (fun _ i _ => 4 - (intOf i).toNat)
  case atStart => exact ⟨0, rfl, by omega, rfl, H⟩
  case round =>
    obtain ⟨k, rfl, hk, rfl, HS⟩ := hrel
    clear H
    by_cases h4 : k < 4
    · have hki : (k : Int) < 4 := by omega
      have hkl : k < l.1.length := by rw [l.2]; omega
      have hpt : ((plT.enc l).drop (k * 35)).take 35 = l.1[k].cells := flatMap_at PT.len l.1 k hkl
      have htk : (l.1.take (k + 1)).all PT.may = ((l.1.take k).all PT.may && l.1[k].may) := by
        rw [List.take_succ_eq_append_getElem hkl, List.all_append]; simp
      obtain ⟨p, hp⟩ : ∃ p, p = l.1[k] := ⟨_, rfl⟩
      rw [← hp] at hpt htk
      have hel := encL_length p
      have HEL := Lib.hid hel
      have cE : ∀ W, Calls Try.prog 15 #[.agg (ptT.enc p).toArray] W fun e w' => e = .returned (.agg (a44.enc (enc44 p)).toArray) ∧ Below W.heap.size W w' := fun W => Encode_any p W
      have cM : ∀ W, Calls Try.prog 16 #[.agg (ptT.enc p).toArray] W fun e w' => e = .returned (.bool p.may) ∧ Below W.heap.size W w' := fun W => May_any p W
      have cD : ∀ W v, RB W v (encL p) → Calls Try.prog 11 #[v] W fun e w' => e = .returned (.tuple #[.agg (ptT.enc (decP (encL p))).toArray, .int .i64 (decE (encL p) : Int)]) ∧ Below W.heap.size W w' := fun W v h => Decode_any v _ W h (by rw [hel]; omega)
      generalize hA : (l.1.take k).all PT.may = A at htk
      have HT := Lib.hid htk
      have HPT := Lib.hid hpt
      clear htk hpt hp hel hkl hA
      cases hm : p.may with
      | true =>
        obtain ⟨h1, h2⟩ := dec_may p hm
        rw [h1, h2] at cD
        rw [hm] at cM
        have HM := Lib.hid hm
        have qp : ∀ W, (binOp .eql 33 (.agg (ptT.enc p).toArray) (.agg (ptT.enc p).toArray)).run Try.prog W = .ok (.bool true) W := fun W => by
          have := ptr_eqlA p p W
          rw [show (p == p) = true by simp] at this
          exact this
        have QP := Lib.hid qp
        clear h1 h2 hm qp
        cases A
        all_goals
          go_wp2_with (first
            | (refine wLoad ptT p HS 0 (off := k * 35) rfl HPT.out _ rfl rfl rfl ?_)
            | (go_at_call 15; (with_reducible refine (cE _).mono ?_); rintro e w4 ⟨rfl, hb4⟩; replace HS := HS.step hb4; clear hb4)
            | (refine wVar a44 (enc44 p) (HS : SH Nil w _ [_]) rfl 5 _ rfl rfl rfl rfl rfl ?_; clear HS; intro w5 HS)
            | (go_at_call 11; (with_reducible refine (cD _ _ (HS.rb 0 rfl 44 HEL.out (by decide))).mono ?_); rintro e w6 ⟨rfl, hb6⟩; replace HS := HS.step hb6; clear hb6)
            | (refine wVar ptT p (HS : SH Nil w _ [_, _]) rfl 6 _ rfl rfl rfl rfl rfl ?_; clear HS; intro w7 HS))
          have H2 := HS.drew
          refine startE (none) (by kernel_rfl) ?_
          refine takeE 0 rfl (by kernel_rfl) (by kernel_rfl) (by kernel_rfl) (fun _ _ _ h => h) rfl (v := ?_) ?_ ?_
          rotate_left
          · intro w' hw'; clear hw'; go_simp; (try with_reducible rfl)
          (try simp only [Act.put, List.setIfInBounds_toArray, List.set_cons_zero, List.set_cons_succ])
          refine takeE 1 rfl (by kernel_rfl) (by kernel_rfl) (by kernel_rfl) (fun _ _ _ h => h) rfl (v := ?_) ?_ ?_
          rotate_left
          · intro w' hw'; clear hw'; go_simp; (try with_reducible rfl)
          (try simp only [Act.put, List.setIfInBounds_toArray, List.set_cons_zero, List.set_cons_succ])
          refine takeE 2 rfl (by kernel_rfl) (by kernel_rfl) (by kernel_rfl) (fun _ _ _ h => h) rfl (v := ?_) ?_ ?_
          rotate_left
          · intro w' hw'; clear hw'; go_simp; (try with_reducible rfl)
          (try simp only [Act.put, List.setIfInBounds_toArray, List.set_cons_zero, List.set_cons_succ])
          refine takeE 3 rfl (by kernel_rfl) (by kernel_rfl) (by kernel_rfl) (fun _ _ _ h => h) rfl (v := ?_) ?_ ?_
          rotate_left
          · intro w' hw'; refine Eq.trans (exec_load 33 _ rfl w6.heap.size 0 rfl (ptT.enc p) _ (VA.all ((H2.va 0 rfl).below (grown_none hw'))) Try.underlying33 rfl p.info) ?_; with_reducible rfl
          (try simp only [Act.put, List.setIfInBounds_toArray, List.set_cons_zero, List.set_cons_succ])
          refine takeE 4 rfl (by kernel_rfl) (by kernel_rfl) (by kernel_rfl) (fun _ _ _ h => h) rfl (v := ?_) ?_ ?_
          rotate_left
          · intro w' hw'; clear hw'; go_simp; (try with_reducible rfl)
          (try simp only [Act.put, List.setIfInBounds_toArray, List.set_cons_zero, List.set_cons_succ])
          refine takeE 5 rfl (by kernel_rfl) (by kernel_rfl) (by kernel_rfl) (fun _ _ _ h => h) rfl (v := ?_) ?_ ?_
          rotate_left
          · intro w' hw'; clear hw'; go_simp; (try with_reducible rfl)
          (try simp only [Act.put, List.setIfInBounds_toArray, List.set_cons_zero, List.set_cons_succ])
          refine takeE 6 rfl (by kernel_rfl) (by kernel_rfl) (by kernel_rfl) (fun _ _ _ h => h) rfl (v := ?_) ?_ ?_
          rotate_left
          · intro w' hw'; refine Eq.trans (exec_load 33 _ rfl w.heap.size (k * 35) rfl (ptT.enc p) _ (VA.range ((H2.va 2 rfl).below (grown_none hw')) (k * 35) _ (by rw [ptT.len]; exact HPT.out)) Try.underlying33 rfl p.info) ?_; with_reducible rfl
          (try simp only [Act.put, List.setIfInBounds_toArray, List.set_cons_zero, List.set_cons_succ])
          refine takeE 7 rfl (by kernel_rfl) (by kernel_rfl) (by kernel_rfl) (fun _ _ _ h => h) rfl (v := ?_) ?_ ?_
          rotate_left
          · intro w' hw'; refine Eq.trans (exec_eql 33 _ _ _ rfl _ _ rfl rfl ptr_guard _ (QP.out _)) ?_; with_reducible rfl
          (try simp only [Act.put, List.setIfInBounds_toArray, List.set_cons_zero, List.set_cons_succ])
          refine takeE 8 rfl (by kernel_rfl) (by kernel_rfl) (by kernel_rfl) (fun _ _ _ h => h) rfl (v := ?_) ?_ ?_
          rotate_left
          · intro w' hw'; clear hw'; go_simp; (try with_reducible rfl)
          (try simp only [Act.put, List.setIfInBounds_toArray, List.set_cons_zero, List.set_cons_succ])
          refine takeE 9 rfl (by kernel_rfl) (by kernel_rfl) (by kernel_rfl) (fun _ _ _ h => h) rfl (v := ?_) ?_ ?_
          rotate_left
          · intro w' hw'; clear hw'; go_simp; (try with_reducible rfl)
          (try simp only [Act.put, List.setIfInBounds_toArray, List.set_cons_zero, List.set_cons_succ])
          refine doneE (by kernel_rfl) ?_
          clear HS
          go_wp2_with (first
            | (refine wLoad ptT p H2 2 (off := k * 35) rfl HPT.out _ rfl rfl rfl ?_)
            | (go_at_call 16; (with_reducible refine (cM _).mono ?_); rintro e w8 ⟨rfl, hb8⟩; replace H2 := H2.step hb8; clear hb8))
          go_roundw
          case rel => exact ⟨k + 1, by go_num, by omega, by rw [HT.out, HM.out]; rfl, H2.tail.tail⟩
          case measure => simp [intOf] <;> omega
      | false =>
        obtain ⟨h1, h2⟩ := dec_not p hm
        rw [h1, h2] at cD
        rw [hm] at cM
        have HM := Lib.hid hm
        have qp : ∀ W, (binOp .eql 33 (.agg (ptT.enc PT.hole).toArray) (.agg (ptT.enc ptT.zero).toArray)).run Try.prog W = .ok (.bool true) W := fun W => by
          have := ptr_eqlA PT.hole PT.hole W
          rw [show (PT.hole == PT.hole) = true by simp] at this
          exact this
        have QP := Lib.hid qp
        clear h1 h2 hm qp
        cases A
        all_goals
          go_wp2_with (first
            | (refine wLoad ptT p HS 0 (off := k * 35) rfl HPT.out _ rfl rfl rfl ?_)
            | (go_at_call 15; (with_reducible refine (cE _).mono ?_); rintro e w4 ⟨rfl, hb4⟩; replace HS := HS.step hb4; clear hb4)
            | (refine wVar a44 (enc44 p) (HS : SH Nil w _ [_]) rfl 5 _ rfl rfl rfl rfl rfl ?_; clear HS; intro w5 HS)
            | (go_at_call 11; (with_reducible refine (cD _ _ (HS.rb 0 rfl 44 HEL.out (by decide))).mono ?_); rintro e w6 ⟨rfl, hb6⟩; replace HS := HS.step hb6; clear hb6)
            | (refine wVar ptT PT.hole (HS : SH Nil w _ [_, _]) rfl 6 _ rfl rfl rfl rfl rfl ?_; clear HS; intro w7 HS))
          have H2 := HS.drew
          refine startE (none) (by kernel_rfl) ?_
          refine takeE 0 rfl (by kernel_rfl) (by kernel_rfl) (by kernel_rfl) (fun _ _ _ h => h) rfl (v := ?_) ?_ ?_
          rotate_left
          · intro w' hw'; clear hw'; go_simp; (try with_reducible rfl)
          (try simp only [Act.put, List.setIfInBounds_toArray, List.set_cons_zero, List.set_cons_succ])
          refine takeE 1 rfl (by kernel_rfl) (by kernel_rfl) (by kernel_rfl) (fun _ _ _ h => h) rfl (v := ?_) ?_ ?_
          rotate_left
          · intro w' hw'; clear hw'; go_simp; (try with_reducible rfl)
          (try simp only [Act.put, List.setIfInBounds_toArray, List.set_cons_zero, List.set_cons_succ])
          refine takeE 2 rfl (by kernel_rfl) (by kernel_rfl) (by kernel_rfl) (fun _ _ _ h => h) rfl (v := ?_) ?_ ?_
          rotate_left
          · intro w' hw'; clear hw'; go_simp; (try with_reducible rfl)
          (try simp only [Act.put, List.setIfInBounds_toArray, List.set_cons_zero, List.set_cons_succ])
          refine skipE 3 rfl (by kernel_rfl) (by kernel_rfl) (by kernel_rfl) (fun _ _ _ h => h) rfl ?_
          (try simp only [Act.put, List.setIfInBounds_toArray, List.set_cons_zero, List.set_cons_succ])
          refine skipE 4 rfl (by kernel_rfl) (by kernel_rfl) (by kernel_rfl) (fun _ _ _ h => h) rfl ?_
          (try simp only [Act.put, List.setIfInBounds_toArray, List.set_cons_zero, List.set_cons_succ])
          refine skipE 5 rfl (by kernel_rfl) (by kernel_rfl) (by kernel_rfl) (fun _ _ _ h => h) rfl ?_
          (try simp only [Act.put, List.setIfInBounds_toArray, List.set_cons_zero, List.set_cons_succ])
          refine skipE 6 rfl (by kernel_rfl) (by kernel_rfl) (by kernel_rfl) (fun _ _ _ h => h) rfl ?_
          (try simp only [Act.put, List.setIfInBounds_toArray, List.set_cons_zero, List.set_cons_succ])
          refine skipE 7 rfl (by kernel_rfl) (by kernel_rfl) (by kernel_rfl) (fun _ _ _ h => h) rfl ?_
          (try simp only [Act.put, List.setIfInBounds_toArray, List.set_cons_zero, List.set_cons_succ])
          refine takeE 8 rfl (by kernel_rfl) (by kernel_rfl) (by kernel_rfl) (fun _ _ _ h => h) rfl (v := ?_) ?_ ?_
          rotate_left
          · intro w' hw'; clear hw'; go_simp; (try with_reducible rfl)
          (try simp only [Act.put, List.setIfInBounds_toArray, List.set_cons_zero, List.set_cons_succ])
          refine takeE 9 rfl (by kernel_rfl) (by kernel_rfl) (by kernel_rfl) (fun _ _ _ h => h) rfl (v := ?_) ?_ ?_
          rotate_left
          · intro w' hw'; clear hw'; go_simp; (try with_reducible rfl)
          (try simp only [Act.put, List.setIfInBounds_toArray, List.set_cons_zero, List.set_cons_succ])
          refine doneE (by kernel_rfl) ?_
          clear HS
          go_wp2_with (first
            | (refine wLoad ptT p H2 2 (off := k * 35) rfl HPT.out _ rfl rfl rfl ?_)
            | (refine wLoad ptT PT.hole H2 0 rfl (List.take_of_length_le (by rw [List.drop_zero]; exact Nat.le_of_eq PT.hole.len)) _ rfl rfl rfl ?_)
            | (refine wZero ptT rfl rfl ?_)
            | (refine stepV (exec_neq 33 _ _ _ rfl _ _ rfl rfl ptr_guard _ (QP.out _)) rfl ?_)
            | (go_at_call 16; (with_reducible refine (cM _).mono ?_); rintro e w8 ⟨rfl, hb8⟩; replace H2 := H2.step hb8; clear hb8))
          go_roundw
          case rel => exact ⟨k + 1, by go_num, by omega, by rw [HT.out, HM.out]; rfl, H2.tail.tail⟩
          case measure => simp [intOf] <;> omega
    · obtain rfl : k = 4 := by omega
      have hta : l.1.take 4 = l.1 := List.take_of_length_le (by rw [l.2]; omega)
      rw [hta]
      have hrn := rd_node l
      have hrl := rd_node_l l
      have hE : (rdE (nodeL l) : Int) = if l.1.all PT.may = true then 0 else 3 := by
        rw [rdE, hrn]; split <;> rfl
      have hnl := nodeL_length l
      have cN : ∀ W, Calls Try.prog 17 #[.agg (plT.enc l).toArray] W fun e w' => ∃ v, e = .returned v ∧ OB w' W.heap.size v (nodeL l) ∧ Below W.heap.size W w' := fun W => Node_any l W
      have cR : ∀ W v, RB W v (nodeL l) → Calls Try.prog 13 #[v] W fun e w' => e = .returned (.tuple #[.agg (plT.enc (rdL (nodeL l))).toArray, .int .i64 (rdE (nodeL l) : Int)]) ∧ Below W.heap.size W w' := fun W v h => Read_any v _ W h (by rw [hnl]; omega)
      have ql : ∀ W, (binOp .eql 36 (.agg (plT.enc l).toArray) (.agg (plT.enc l).toArray)).run Try.prog W = .ok (.bool true) W := fun W => by
        have := pl_eql l l W
        rw [show (l == l) = true by simp] at this
        exact this
      rw [hE] at cR
      have QL := Lib.hid ql
      have HPL := Lib.hid (show List.take 140 (List.drop 0 (plT.enc l)) = plT.enc l from List.take_of_length_le (by rw [List.drop_zero]; exact Nat.le_of_eq l.len))
      generalize nodeL l = ND at cN cR hrl
      generalize hm : rdL ND = m at cR hrl
      clear hE hnl hta hk h4 hrn ql hm
      cases hA : l.1.all PT.may with
      | true =>
        rw [hA] at cR
        obtain rfl := hrl hA
        simp only [↓reduceIte] at cR
        clear hA hrl
        go_wp2_with (first
          | (refine wLoad plT m (HS : SH Nil w _ [_]) 0 rfl HPL.out _ rfl rfl rfl ?_)
          | (go_at_call 17; (with_reducible refine (cN _).mono ?_); rintro e w4 ⟨v4, rfl, ho4, hb4⟩; replace HS := HS.step hb4; clear hb4)
          | (go_at_call 13; (with_reducible refine (cR _ _ ho4.reads).mono ?_); rintro e w5 ⟨rfl, hb5⟩; replace HS := HS.step hb5; clear hb5 ho4)
          | (refine wVar plT m (HS : SH Nil w _ [_]) rfl 9 _ rfl rfl rfl rfl rfl ?_; clear HS; intro w6 HS)
          | (go_at_call 10; refine (alive05_any _).mono ?_; rintro e w10 ⟨rfl, hb10⟩; replace HS := HS.step hb10; clear hb10)
          | (refine wLoad plT m (HS : SH Nil w _ [_, _]) 0 rfl HPL.out _ rfl rfl rfl ?_)
          | (refine wLoad plT m (HS : SH Nil w _ [_, _]) 1 rfl HPL.out _ rfl rfl rfl ?_)
          | (refine stepV (exec_eql 36 _ _ _ rfl _ _ rfl rfl pl_guard _ (QL.out _)) rfl ?_))
        go_ret
        exact ⟨rfl, HS.below⟩
      | false =>
        rw [hA] at cR
        simp only [Bool.false_eq_true, ↓reduceIte] at cR
        clear hA hrl
        go_wp2_with (first
          | (refine wLoad plT l (HS : SH Nil w _ [_]) 0 rfl HPL.out _ rfl rfl rfl ?_)
          | (go_at_call 17; (with_reducible refine (cN _).mono ?_); rintro e w4 ⟨v4, rfl, ho4, hb4⟩; replace HS := HS.step hb4; clear hb4)
          | (go_at_call 13; (with_reducible refine (cR _ _ ho4.reads).mono ?_); rintro e w5 ⟨rfl, hb5⟩; replace HS := HS.step hb5; clear hb5 ho4)
          | (refine wVar plT m (HS : SH Nil w _ [_]) rfl 9 _ rfl rfl rfl rfl rfl ?_; clear HS; intro w6 HS)
          | (go_at_call 10; refine (alive05_any _).mono ?_; rintro e w10 ⟨rfl, hb10⟩; replace HS := HS.step hb10; clear hb10))
        go_ret
        exact ⟨rfl, HS.below⟩
end Go.Proofs.Ythogefehainmdab
