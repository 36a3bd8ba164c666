/- Layer 26: a product with a column. -/
import Derived.Test.YtfnneneaalaagaaMx21
namespace Go.Proofs.Ytfnneneaalaagaa
open Go.RowKit
set_option linter.unusedSimpArgs false
set_option linter.unusedVariables false

/-- A product's answer, in both. -/
def GivesV (w : World) (l : List UInt8) (E : Int) (e : Ending) (w' : World) : Prop := ∃ A cp, e = .returned (.tuple #[.slice A l.length cp, .int .i64 E]) ∧ OB w' w.heap.size (.slice A l.length cp) l ∧ Below w.heap.size w w'
set_option maxHeartbeats 1600000 in
set_option maxRecDepth 100000 in
theorem Apply_of (r c : Int) (n : Nat) (A A2 : Option Addr) (cp n2 cp2 : Nat) (w : World) (r' c' : Int) (l' : List UInt8) (E : Int)
    (hM : ∀ W, Below w.heap.size w W → Calls Try.prog 33 #[.agg (mxT.enc (r, c, A, n, cp)).toArray, .agg (mxT.enc ((n2 : Int), 1, A2, n2, cp2)).toArray] W fun e w' => GivesP mxT W r' c' l' E e w') :
    Calls Try.prog 35 #[.agg (mxT.enc (r, c, A, n, cp)).toArray, .slice A2 n2 cp2] w fun e w' => GivesV w l' E e w' := by
  have H := SH.start Nil w
  have cM : ∀ W, Below w.heap.size w W → Calls Try.prog 33 #[.agg (mxT.enc (r, c, A, n, cp)).toArray, .agg #[.int .i64 (n2 : Int), .int .i64 1, .slice A2 n2 cp2]] W fun e w' => GivesP mxT W r' c' l' E e w' := hM
  clear hM
  go_enter Try.func35, Try.ntmps35
  go_wp2_with (first
    | ((with_reducible refine gDst 2 ?_); refine aBox H _ rfl rfl rfl ?_; clear H; intro b2 w2 H)
    | ((with_reducible refine gDst 6 ?_); refine aAlloc H rfl rfl ?_; clear H; intro b6 w6 H)
    | ((with_reducible refine gLoad ?_); first | (refine aLoad1 H _ rfl rfl (by first | rfl | (simp [List.getElem?_append]; done)) rfl ?_) | (refine aLoadC _ rfl rfl (by assumption) rfl ?_) | (refine aLoad H _ rfl rfl (by first | exact part_all (by first | rfl | simp []) | (simp only [List.drop_succ_cons, List.drop_zero, List.take_succ_cons, List.take_zero]; rfl) | (simp [List.drop_append, List.take_append]; rfl)) (by first | rfl | simp []) rfl ?_))
    | ((with_reducible refine gStore ?_); (first | (refine aStore H _ _ rfl rfl rfl (by (first | exact ⟨rfl, rfl⟩ | exact ⟨by decide, rfl⟩ | (simp []; done) | (constructor <;> simp [] <;> omega))) (by first | rfl | simp [List.all_append, one_all]) rfl ?_) | (refine aLay H _ _ rfl rfl rfl (by (first | exact ⟨rfl, rfl⟩ | exact ⟨by decide, rfl⟩ | (simp []; done) | (constructor <;> simp [] <;> omega))) (by first | rfl | simp [List.all_append, one_all]) (by simp only [lay, List.take_succ_cons, List.take_zero, List.drop_succ_cons, List.drop_zero, List.nil_append, List.cons_append, List.length_cons, List.length_nil, Nat.zero_add, Nat.reduceAdd]; rfl) rfl ?_)); clear H; intro w' H; try dsimp only at H)
    | (go_at_call 33; (with_reducible refine (cM _ H.below).mono ?_); rintro e w' ⟨A5, cp5, rfl, ho, hb⟩; replace H := H.pushRow hb ho; clear hb ho))
  go_ret2
  exact ⟨A5, cp5, rfl, H.ow _, H.below⟩
end Go.Proofs.Ytfnneneaalaagaa
