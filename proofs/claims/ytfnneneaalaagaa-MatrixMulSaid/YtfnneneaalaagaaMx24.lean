/- Layer 26: products, asked of both. -/
import Derived.Test.YtfnneneaalaagaaMx23
namespace Go.Proofs.Ytfnneneaalaagaa
open Go.RowKit
set_option linter.unusedSimpArgs false
set_option linter.unusedVariables false

set_option maxHeartbeats 1600000 in
set_option maxRecDepth 100000 in
theorem rApply_of (r c : Int) (n : Nat) (A A2 : Option Addr) (cp n2 cp2 : Nat) (w : World) (r' c' : Int) (l' : List UInt8) (E : Int)
    (hM : ∀ W, Below w.heap.size w W → Calls Try.prog 34 #[.agg (rxT.enc (r, c, A, n, cp)).toArray, .agg (rxT.enc ((n2 : Int), 1, A2, n2, cp2)).toArray] W fun e w' => GivesP rxT W r' c' l' E e w') :
    Calls Try.prog 36 #[.agg (rxT.enc (r, c, A, n, cp)).toArray, .slice A2 n2 cp2] w fun e w' => GivesV w l' E e w' := by
  have H := SH.start Nil w
  have cM : ∀ W, Below w.heap.size w W → Calls Try.prog 34 #[.agg (rxT.enc (r, c, A, n, cp)).toArray, .agg #[.int .i64 (n2 : Int), .int .i64 1, .slice A2 n2 cp2]] W fun e w' => GivesP rxT W r' c' l' E e w' := hM
  clear hM
  go_enter Try.func36, Try.ntmps36
  go_wp2_with (first
    | ((with_reducible refine gDst 2 ?_); refine aBox H _ rfl rfl rfl ?_; clear H; intro b2 w2 H)
    | ((with_reducible refine gDst 6 ?_); refine aAlloc H rfl rfl ?_; clear H; intro b6 w6 H)
    | ((with_reducible refine gLoad ?_); first | (refine aLoad1 H _ rfl rfl (by first | rfl | (simp [List.getElem?_append]; done)) rfl ?_) | (refine aLoadC _ rfl rfl (by assumption) rfl ?_) | (refine aLoad H _ rfl rfl (by first | exact part_all (by first | rfl | simp []) | (simp only [List.drop_succ_cons, List.drop_zero, List.take_succ_cons, List.take_zero]; rfl) | (simp [List.drop_append, List.take_append]; rfl)) (by first | rfl | simp []) rfl ?_))
    | ((with_reducible refine gStore ?_); (first | (refine aStore H _ _ rfl rfl rfl (by (first | exact ⟨rfl, rfl⟩ | exact ⟨by decide, rfl⟩ | (simp []; done) | (constructor <;> simp [] <;> omega))) (by first | rfl | simp [List.all_append, one_all]) rfl ?_) | (refine aLay H _ _ rfl rfl rfl (by (first | exact ⟨rfl, rfl⟩ | exact ⟨by decide, rfl⟩ | (simp []; done) | (constructor <;> simp [] <;> omega))) (by first | rfl | simp [List.all_append, one_all]) (by simp only [lay, List.take_succ_cons, List.take_zero, List.drop_succ_cons, List.drop_zero, List.nil_append, List.cons_append, List.length_cons, List.length_nil, Nat.zero_add, Nat.reduceAdd]; rfl) rfl ?_)); clear H; intro w' H; try dsimp only at H)
    | (go_at_call 34; (with_reducible refine (cM _ H.below).mono ?_); rintro e w' ⟨A5, cp5, rfl, ho, hb⟩; replace H := H.pushRow hb ho; clear hb ho))
  go_ret2
  exact ⟨A5, cp5, rfl, H.ow _, H.below⟩
/-- Both products tell the same. -/
theorem Mul_pair (la lb : List UInt8) (ra ca rb cb : Int) (Aa Ab : Option Addr) (pa pb : Nat) (hpa : la.length ≤ pa) (hpb : lb.length ≤ pb) : ∃ r c l E,
    (∀ w, RB w (.slice Aa la.length pa) la → RB w (.slice Ab lb.length pb) lb → Calls Try.prog 33 #[.agg (mxT.enc (ra, ca, Aa, la.length, pa)).toArray, .agg (mxT.enc (rb, cb, Ab, lb.length, pb)).toArray] w fun e w' => GivesP mxT w r c l E e w') ∧
    (∀ w, RB w (.slice Aa la.length pa) la → RB w (.slice Ab lb.length pb) lb → Calls Try.prog 34 #[.agg (rxT.enc (ra, ca, Aa, la.length, pa)).toArray, .agg (rxT.enc (rb, cb, Ab, lb.length, pb)).toArray] w fun e w' => GivesP rxT w r c l E e w') := by
  by_cases hbad : mulBad ra ca la.length rb cb lb.length
  · exact ⟨0, 0, [], 1, fun w _ _ => Mul_bad _ _ _ _ _ _ _ _ _ _ w hbad, fun w _ _ => rMul_bad _ _ _ _ _ _ _ _ _ _ w hbad⟩
  · unfold mulBad at hbad
    cases h1 : mayB ra ca la.length with
    | false => exact absurd (Or.inl h1) hbad
    | true =>
      cases h2 : mayB rb cb lb.length with
      | false => exact absurd (Or.inr (Or.inl ⟨h1, h2⟩)) hbad
      | true =>
        cases h3 : (ca == rb) with
        | false => exact absurd (Or.inr (Or.inr ⟨h1, h2, h3⟩)) hbad
        | true =>
          obtain rfl := beq_iff_eq.1 h3
          obtain ⟨a, b, rfl, rfl, _⟩ := mayB_ok h1
          obtain ⟨a', b', e1, rfl, _⟩ := mayB_ok h2
          exact ⟨a, b', _, 0, fun w ha hb => Mul_ok la lb a b b' Aa Ab pa pb w ha hb h1 h2 hpa hpb, fun w ha hb => rMul_ok la lb a b b' Aa Ab pa pb w ha hb h1 h2⟩
theorem Apply_pair (la lb : List UInt8) (ra ca : Int) (Aa Ab : Option Addr) (pa pb : Nat) (hpa : la.length ≤ pa) (hpb : lb.length ≤ pb) : ∃ l E,
    (∀ w, RB w (.slice Aa la.length pa) la → RB w (.slice Ab lb.length pb) lb → Calls Try.prog 35 #[.agg (mxT.enc (ra, ca, Aa, la.length, pa)).toArray, .slice Ab lb.length pb] w fun e w' => GivesV w l E e w') ∧
    (∀ w, RB w (.slice Aa la.length pa) la → RB w (.slice Ab lb.length pb) lb → Calls Try.prog 36 #[.agg (rxT.enc (ra, ca, Aa, la.length, pa)).toArray, .slice Ab lb.length pb] w fun e w' => GivesV w l E e w') := by
  obtain ⟨r, c, l, E, h1, h2⟩ := Mul_pair la lb ra ca lb.length 1 Aa Ab pa pb hpa hpb
  exact ⟨l, E, fun w ha hb => Apply_of _ _ _ _ _ _ _ _ _ r c l E fun W h => h1 W (ha.below h) (hb.below h), fun w ha hb => rApply_of _ _ _ _ _ _ _ _ _ r c l E fun W h => h2 W (ha.below h) (hb.below h)⟩
end Go.Proofs.Ytfnneneaalaagaa
