/- Layer 26: the program's product of matrices, and with a column. -/
import Derived.Test.YtfnneneaalaagaaMx20
import Derived.Test.YtfnneneaalaagaaMx17
namespace Go.Proofs.Ytfnneneaalaagaa
open Go.RowKit
set_option linter.unusedSimpArgs false
set_option linter.unusedVariables false

theorem enter_mul1 : ∀ args W, (callFunc 64 args).run Try.prog W = .ok (.enter 64 args) W := fun args W => Go.MuLone.run_callFunc_enter Try.func64 (by kernel_rfl) rfl args W
/-- What a product's refusal is. -/
def mulBad (r c : Int) (n : Nat) (r2 c2 : Int) (n2 : Nat) : Prop := mayB r c n = false ∨ (mayB r c n = true ∧ mayB r2 c2 n2 = false) ∨ (mayB r c n = true ∧ mayB r2 c2 n2 = true ∧ (c == r2) = false)
set_option maxHeartbeats 1600000 in
set_option maxRecDepth 100000 in
theorem Mul_bad (r c r2 c2 : Int) (n n2 : Nat) (A A2 : Option Addr) (cp cp2 : Nat) (w : World) (hbad : mulBad r c n r2 c2 n2) :
    Calls Try.prog 33 #[.agg (mxT.enc (r, c, A, n, cp)).toArray, .agg (mxT.enc (r2, c2, A2, n2, cp2)).toArray] w fun e w' => GivesP mxT w 0 0 [] 1 e w' := by
  have H := SH.start Nil w
  have cM : ∀ W, Calls Try.prog 37 #[.agg (mxT.enc (r, c, A, n, cp)).toArray] W fun e w' => e = .returned (.bool (mayB r c n)) ∧ Below W.heap.size W w' := fun W => MMay_any _ _ _ _ _ W
  have cM2 : ∀ W, Calls Try.prog 37 #[.agg (mxT.enc (r2, c2, A2, n2, cp2)).toArray] W fun e w' => e = .returned (.bool (mayB r2 c2 n2)) ∧ Below W.heap.size W w' := fun W => MMay_any _ _ _ _ _ W
  rcases hbad with h1 | ⟨h1, h2⟩ | ⟨h1, h2, h3⟩
  all_goals
    rw [h1] at cM
    try rw [h2] at cM2
    clear h1
    try clear h2
    go_enter Try.func33, Try.ntmps33
    go_wp2_with (first
      | ((with_reducible refine gDst 2 ?_); refine aBox H _ rfl rfl rfl ?_; clear H; intro b2 w2 H)
      | ((with_reducible refine gDst 3 ?_); refine aBox H _ rfl rfl rfl ?_; clear H; intro b3 w3 H)
      | ((with_reducible refine gDst 4 ?_); refine aAlloc H rfl rfl ?_; clear H; intro b4 w4 H)
      | ((with_reducible refine gLoad ?_); first | (refine aLoad1 H _ rfl rfl (by first | rfl | (simp [List.getElem?_append]; done)) rfl ?_) | (refine aLoadC _ rfl rfl (by assumption) rfl ?_) | (refine aLoad H _ rfl rfl (by first | exact part_all (by first | rfl | simp []) | (simp only [List.drop_succ_cons, List.drop_zero, List.take_succ_cons, List.take_zero]; rfl) | (simp [List.drop_append, List.take_append]; rfl)) (by first | rfl | simp []) rfl ?_))
      | ((with_reducible refine gBuild ?_); refine aZero rfl rfl ?_)
      | ((with_reducible refine gStore ?_); (first | (refine aStore H _ _ rfl rfl rfl (by (first | exact ⟨rfl, rfl⟩ | exact ⟨by decide, rfl⟩ | (simp []; done) | (constructor <;> simp [] <;> omega))) (by first | rfl | simp [List.all_append, one_all]) rfl ?_) | (refine aLay H _ _ rfl rfl rfl (by (first | exact ⟨rfl, rfl⟩ | exact ⟨by decide, rfl⟩ | (simp []; done) | (constructor <;> simp [] <;> omega))) (by first | rfl | simp [List.all_append, one_all]) (by simp only [lay, List.take_succ_cons, List.take_zero, List.drop_succ_cons, List.drop_zero, List.nil_append, List.cons_append, List.length_cons, List.length_nil, Nat.zero_add, Nat.reduceAdd]; rfl) rfl ?_)); clear H; intro w' H; try dsimp only at H)
      | (go_at_call 37; (with_reducible refine (cM _).mono ?_); rintro e w' ⟨rfl, hb⟩; replace H := H.step hb; clear hb)
      | (go_at_call 37; (with_reducible refine (cM2 _).mono ?_); rintro e w' ⟨rfl, hb⟩; replace H := H.step hb; clear hb))
    refine bodyPost_ret (res_cell_tmp rfl _ H.hold rfl rfl) rfl ?_
    exact .zero rfl ⟨rfl, H.below⟩
set_option maxHeartbeats 1600000 in
set_option maxRecDepth 100000 in
theorem Mul_ok (la lb : List UInt8) (ra c cb : Nat) (Aa Ab : Option Addr) (pa pb : Nat) (w : World)
    (ha : RB w (.slice Aa la.length pa) la) (hb : RB w (.slice Ab lb.length pb) lb) (hma : mayB ra c la.length = true) (hmb : mayB c cb lb.length = true) (hpa : la.length ≤ pa) (hpb : lb.length ≤ pb) :
    Calls Try.prog 33 #[.agg (mxT.enc ((ra : Int), (c : Int), Aa, la.length, pa)).toArray, .agg (mxT.enc ((c : Int), (cb : Int), Ab, lb.length, pb)).toArray] w fun e w' => GivesP mxT w ra cb (fillL ra cb (mulE la c lb cb)) 0 e w' := by
  have H := SH.start Nil w
  have cM : ∀ W, Calls Try.prog 37 #[.agg (mxT.enc (ra, c, Aa, la.length, pa)).toArray] W fun e w' => e = .returned (.bool (mayB ra c la.length)) ∧ Below W.heap.size W w' := fun W => MMay_any _ _ _ _ _ W
  have cM2 : ∀ W, Calls Try.prog 37 #[.agg (mxT.enc (c, cb, Ab, lb.length, pb)).toArray] W fun e w' => e = .returned (.bool (mayB c cb lb.length)) ∧ Below W.heap.size W w' := fun W => MMay_any _ _ _ _ _ W
  obtain ⟨x1, x2, e1, e2, h1, h2, h3, h4, hla⟩ := mayB_ok hma
  obtain ⟨x3, x4, e3, e4, h5, h6, h7, h8, hlb⟩ := mayB_ok hmb
  rw [show x1 = ra by omega, show x2 = c by omega] at hla
  rw [show x3 = c by omega, show x4 = cb by omega] at hlb
  rw [hma] at cM
  rw [hmb] at cM2
  have cF := fun (W : World) (ba bb : Nat) (RO : HOLD [.blk ba 32 (mxT.enc ((ra : Int), (c : Int), Aa, la.length, pa)), .blk bb 32 (mxT.enc ((c : Int), (cb : Int), Ab, lb.length, pb))] W) (hB : Below w.heap.size w W) => filled_any ra cb 64 #[.pointer (some ⟨ba, 0, none⟩), .pointer (some ⟨bb, 0, none⟩)] (mulE la c lb cb) W (by omega) (by omega) enter_mul1 (fun W2 h2 i j hi hj => Mul1_any la lb ra c cb i j ba bb Aa Ab pa pb W2 (RO.below h2) ((ha.below hB).below h2) ((hb.below hB).below h2) hla hlb hpa hpb (by omega) (by omega) (by omega) (by omega) hi hj)
  have CF := Lib.hid cF
  clear cF hma hmb ha hb hla hlb e1 e2 e3 e4 h1 h2 h3 h4 h5 h6 h7 h8
  have hcc : ((c : Int) != (c : Int)) = false := by simp
  go_enter Try.func33, Try.ntmps33
  go_wp2_with (first
    | ((with_reducible refine gDst 2 ?_); refine aBox H _ rfl rfl rfl ?_; clear H; intro b2 w2 H)
    | ((with_reducible refine gDst 3 ?_); refine aBox H _ rfl rfl rfl ?_; clear H; intro b3 w3 H)
    | ((with_reducible refine gDst 4 ?_); refine aAlloc H rfl rfl ?_; clear H; intro b4 w4 H)
    | ((with_reducible refine gLoad ?_); first | (refine aLoad1 H _ rfl rfl (by first | rfl | (simp [List.getElem?_append]; done)) rfl ?_) | (refine aLoadC _ rfl rfl (by assumption) rfl ?_) | (refine aLoad H _ rfl rfl (by first | exact part_all (by first | rfl | simp []) | (simp only [List.drop_succ_cons, List.drop_zero, List.take_succ_cons, List.take_zero]; rfl) | (simp [List.drop_append, List.take_append]; rfl)) (by first | rfl | simp []) rfl ?_))
    | ((with_reducible refine gBuild ?_); refine aZero rfl rfl ?_)
    | ((with_reducible refine gStore ?_); (first | (refine aStore H _ _ rfl rfl rfl (by (first | exact ⟨rfl, rfl⟩ | exact ⟨by decide, rfl⟩ | (simp []; done) | (constructor <;> simp [] <;> omega))) (by first | rfl | simp [List.all_append, one_all]) rfl ?_) | (refine aLay H _ _ rfl rfl rfl (by (first | exact ⟨rfl, rfl⟩ | exact ⟨by decide, rfl⟩ | (simp []; done) | (constructor <;> simp [] <;> omega))) (by first | rfl | simp [List.all_append, one_all]) (by simp only [lay, List.take_succ_cons, List.take_zero, List.drop_succ_cons, List.drop_zero, List.nil_append, List.cons_append, List.length_cons, List.length_nil, Nat.zero_add, Nat.reduceAdd]; rfl) rfl ?_)); clear H; intro w' H; try dsimp only at H)
    | (go_at_call 37; (with_reducible refine (cM _).mono ?_); rintro e w' ⟨rfl, hb⟩; replace H := H.step hb; clear hb)
    | (go_at_call 37; (with_reducible refine (cM2 _).mono ?_); rintro e w' ⟨rfl, hb⟩; replace H := H.step hb; clear hb)
    | (go_at_call 53; (with_reducible refine (CF.out _ b2 b3 (HOLD.cons H.hold.va (.one H.hold.va)) H.below).mono ?_); rintro e w' ⟨A, cp, rfl, ho, hb⟩; replace H := H.pushRow hb ho; clear hb ho))
  refine bodyPost_ret (res_cell_tmp rfl _ H.hold rfl rfl) rfl ?_
  exact ⟨A, cp, rfl, H.ow _, H.below⟩
end Go.Proofs.Ytfnneneaalaagaa
