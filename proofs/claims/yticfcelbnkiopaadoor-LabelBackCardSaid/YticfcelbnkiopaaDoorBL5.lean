/- Ground of the statements LabelDecode, LabelBack, part 5: Lb5, Lb6, Sha18, Man1, Man2, Dk1, Dk2, Dk3, Dk4, Dk5, Dk6, Dk7, Dk8, Dk9, Lb7. -/
import Derived.RangeFuncFrom
import Derived.RangeFuncLeaves
import Derived.Conc.MuLone
import Derived.RangeFuncNested
import Derived.RangeFuncBound
import Derived.RangeFuncCalls
import Derived.Shelf.Abstract
import Derived.Shelf.RegionOpen
import Derived.OwnWalkIn
import Derived.TacticsInMore
import Derived.LoopNIn
import Derived.LoopIn
import Derived.Test.YticfcelbnkiopaaDoorBL4
namespace Go.Proofs.YticfcelbnkiopaaDoor
set_option maxRecDepth 100000
open Go.RowKit
set_option linter.unusedSimpArgs false
set_option linter.unusedVariables false

theorem xStrRB {P : Program} {ρ : Operand → Value} {o : Oper} {w : World} {A : Option Addr} {n c : Nat} {xs : List UInt8} (y : Operand) (ho : o.op = .convert 22 9 y) (hx : ρ y = .slice A n c) (h : RB w (.slice A n c) xs) : (execOp ρ o).run Tryd.prog w = .ok (.value (.string (str xs))) w := by
  have := RR.string (P := Tryd.prog) h Tryd.underlying22 Tryd.underlying5 Tryd.underlying9
  unfold execOp
  simp only [ho, hx, this, Sem.run_bind, Sem.run_pure, Result.andThen_ok]
def relLE (pre : List UInt8) (L : List Own) (w : World) (v4 : Value) (wr : World) : Prop := ∃ (k n : Nat) (A : Option Addr) (c : Nat), v4 = .slice A n c ∧ n = pre.length + k ∧ n ≤ 224 ∧ SH Nil w wr (.row B8 (.slice A n c) (pre ++ List.replicate k 0) :: L)
set_option maxHeartbeats 3200000 in
theorem rlabEncode_any (u : UInt32) (p : PT) (A : Option Addr) (c : Nat) (xs : List UInt8) (w : World) (hv : RB w (.slice A xs.length c) xs) :
    Calls Tryd.prog 37 #[.agg (lbC u p (.slice A xs.length c)).toArray] w fun e w' => ∃ v, e = .returned (.tuple #[v, .int .i64 (labE p xs)]) ∧ OB w' w.heap.size v (labL u p xs) ∧ Below w.heap.size w w' := by
  have H := SH.start Nil w
  have RO := HOLD.rdOne hv
  have HLR := Lib.hid (lbC_root u p (.slice A xs.length c))
  have HLM := Lib.hid (lbC_map u p (.slice A xs.length c))
  have HPL := Lib.hid p.len
  have cM : ∀ W, Calls Tryd.prog 86 #[.agg p.cells.toArray] W fun e w' => e = .returned (.bool p.may) ∧ Below W.heap.size W w' := fun W => rMay_any p W
  have cE : ∀ W, Calls Tryd.prog 88 #[.agg p.cells.toArray] W fun e w' => ∃ A c, e = .returned (.slice A 44 c) ∧ OB w' W.heap.size (.slice A 44 c) (encL p) ∧ Below W.heap.size W w' := fun W => slice_at (encL_length p) (rEncode_any p W)
  unfold labL labE
  rcases labOk_cases p xs with ⟨h1, h2⟩ | ⟨h1, h2, h3⟩ | ⟨h1, h2, h3⟩
  · rw [h1, if_neg (by decide), if_neg (by decide)]
    rw [h2] at cM
    clear h1 h2
    go_enter Tryd.func37, Tryd.ntmps37
    go_wp2_with (first
      | ((with_reducible refine gDst 7 ?_); refine aLoad H _ rfl rfl HLR.out HPL.out rfl ?_)
      | (go_at_call 86; (with_reducible refine (cM _).mono ?_); rintro e w' ⟨rfl, hb⟩; replace H := H.step hb; clear hb)
      | ((with_reducible refine gDst 1 ?_); refine aBox H _ rfl rfl rfl ?_; clear H; intro b1 w1 H)
      | ((with_reducible refine gDst 5 ?_); refine aAlloc H rfl rfl ?_; clear H; intro b5 w5 H)
      | ((with_reducible refine gLoad ?_); first | (refine aLoad1 H _ rfl rfl (by first | exact (rfl : _ = some (Value.int _ _)) | exact (rfl : _ = some (Value.slice _ _ _)) | exact (rfl : _ = some (Value.bool _)) | exact (rfl : _ = some (Value.string _)) | exact (rfl : _ = some (Value.pointer _)) | rfl | (simp [List.getElem?_append]; done)) rfl ?_) | (refine aLoadC _ rfl rfl (by assumption) rfl ?_) | (refine aLoad H _ rfl rfl (by first | exact part_all (by first | rfl | simp []) | (simp only [List.drop_succ_cons, List.drop_zero, List.take_succ_cons, List.take_zero]; rfl) | (simp [List.drop_append, List.take_append]; rfl)) (by first | rfl | simp []) rfl ?_))
      | ((with_reducible refine gStore ?_); (first | (refine aStore H _ _ rfl rfl rfl (by (first | exact ⟨rfl, rfl⟩ | exact ⟨by decide, rfl⟩ | (simp []; done) | (constructor <;> simp [] <;> omega))) (by first | rfl | simp [List.all_append, one_all]) rfl ?_) | (refine aLay H _ _ rfl rfl rfl (by (first | exact ⟨rfl, rfl⟩ | exact ⟨by decide, rfl⟩ | (simp []; done) | (constructor <;> simp [] <;> omega))) (by first | rfl | simp [List.all_append, one_all]) (by simp only [lay, List.take_succ_cons, List.take_zero, List.drop_succ_cons, List.drop_zero, List.nil_append, List.cons_append, List.length_cons, List.length_nil, Nat.zero_add, Nat.reduceAdd]; rfl) rfl ?_)); clear H; intro w' H; try dsimp only at H)
      | ((with_reducible refine gConv ?_); first | (refine aStr H _ rfl rfl rfl ?_))
      | (at_builtin; refine aAppB1 _ H _ _ rfl rfl rfl (by first | omega | (have := HCL.out; omega)) rfl ?_; clear H; intro v' w' ys HY H; (try dsimp only at H); obtain ⟨A', c', rfl, hc'⟩ := (H.hold.rr v').len))
    go_ret2
    exact ⟨_, rfl, OB.none _ _, H.below⟩
  · rw [h1, if_neg (by decide), if_neg (by decide)]
    rw [h2] at cM
    clear h1 h2
    have hne : ((xs.length : Int) != 64) = true := by simp; omega
    have hne1 : ((xs.length : Int) == 64) = false := beq_eq_false_iff_ne.mpr (by omega)
    go_enter Tryd.func37, Tryd.ntmps37
    go_wp2_with (first
      | ((with_reducible refine gDst 7 ?_); refine aLoad H _ rfl rfl HLR.out HPL.out rfl ?_)
      | ((with_reducible refine gDst 12 ?_); refine aLoad1 H _ rfl rfl HLM.out rfl ?_)
      | (go_at_call 86; (with_reducible refine (cM _).mono ?_); rintro e w' ⟨rfl, hb⟩; replace H := H.step hb; clear hb)
      | ((with_reducible refine gDst 1 ?_); refine aBox H _ rfl rfl rfl ?_; clear H; intro b1 w1 H)
      | ((with_reducible refine gDst 5 ?_); refine aAlloc H rfl rfl ?_; clear H; intro b5 w5 H)
      | ((with_reducible refine gLoad ?_); first | (refine aLoad1 H _ rfl rfl (by first | exact (rfl : _ = some (Value.int _ _)) | exact (rfl : _ = some (Value.slice _ _ _)) | exact (rfl : _ = some (Value.bool _)) | exact (rfl : _ = some (Value.string _)) | exact (rfl : _ = some (Value.pointer _)) | rfl | (simp [List.getElem?_append]; done)) rfl ?_) | (refine aLoadC _ rfl rfl (by assumption) rfl ?_) | (refine aLoad H _ rfl rfl (by first | exact part_all (by first | rfl | simp []) | (simp only [List.drop_succ_cons, List.drop_zero, List.take_succ_cons, List.take_zero]; rfl) | (simp [List.drop_append, List.take_append]; rfl)) (by first | rfl | simp []) rfl ?_))
      | ((with_reducible refine gStore ?_); (first | (refine aStore H _ _ rfl rfl rfl (by (first | exact ⟨rfl, rfl⟩ | exact ⟨by decide, rfl⟩ | (simp []; done) | (constructor <;> simp [] <;> omega))) (by first | rfl | simp [List.all_append, one_all]) rfl ?_) | (refine aLay H _ _ rfl rfl rfl (by (first | exact ⟨rfl, rfl⟩ | exact ⟨by decide, rfl⟩ | (simp []; done) | (constructor <;> simp [] <;> omega))) (by first | rfl | simp [List.all_append, one_all]) (by simp only [lay, List.take_succ_cons, List.take_zero, List.drop_succ_cons, List.drop_zero, List.nil_append, List.cons_append, List.length_cons, List.length_nil, Nat.zero_add, Nat.reduceAdd]; rfl) rfl ?_)); clear H; intro w' H; try dsimp only at H)
      | ((with_reducible refine gConv ?_); first | (refine aStr H _ rfl rfl rfl ?_))
      | (at_builtin; refine aAppB1 _ H _ _ rfl rfl rfl (by first | omega | (have := HCL.out; omega)) rfl ?_; clear H; intro v' w' ys HY H; (try dsimp only at H); obtain ⟨A', c', rfl, hc'⟩ := (H.hold.rr v').len))
    go_ret2
    exact ⟨_, rfl, OB.none _ _, H.below⟩
  · rw [h1, if_pos rfl, if_pos rfl]
    rw [h2] at cM
    clear h1 h2
    have HX := Lib.hid h3
    have HEL := Lib.hid (encL_length p)
    have cP : ∀ v W, RB W v [67, 65, 85, 84] → Calls Tryd.prog 87 #[v, .int .u32 (u.toNat : Int)] W fun e w' => ∃ A c, e = .returned (.slice A 8 c) ∧ OB w' W.heap.size (.slice A 8 c) ([67, 65, 85, 84] ++ put32L u.toNat) ∧ Below W.heap.size W w' := fun v W h => slice_at rfl (rPut32_any v _ u.toNat W h (by decide) u.toNat_lt)
    have HP := Lib.hid cP
    have hl8 : ([67, 65, 85, 84] ++ put32L u.toNat).length = 8 := rfl
    have HLP := Lib.hid (show labP u p = [67, 65, 85, 84] ++ put32L u.toNat ++ encL p from rfl)
    have HW := Lib.hid (show labW u p xs = (labP u p ++ xs ++ List.replicate 108 0) ++ shaL (labP u p ++ xs ++ List.replicate 108 0) from rfl)
    have HL1 := Lib.hid (labP_len u p)
    clear cP
    rw [h3] at hv RO HLR HLM ⊢
    clear h3
    generalize put32L u.toNat = t at *
    generalize labP u p = pre at *
    go_enter Tryd.func37, Tryd.ntmps37
    go_wp2_with (first
      | ((with_reducible refine gDst 7 ?_); refine aLoad H _ rfl rfl HLR.out HPL.out rfl ?_)
      | ((with_reducible refine gDst 12 ?_); refine aLoad1 H _ rfl rfl HLM.out rfl ?_)
      | ((with_reducible refine gDst 17 ?_); refine aConst [67, 65, 85, 84] 4 rfl rfl (by decide) H _ rfl rfl rfl ?_; clear H; intro A17 w17 H; (try dsimp only at H))
      | (go_at_call 87; (with_reducible refine (HP.out _ _ (H.hold.rd _)).mono ?_); rintro e w' ⟨A20, c20, rfl, ho, hb⟩; replace H := H.pushRow hb ho; clear hb ho)
      | ((with_reducible refine gDst 23 ?_); refine aLoad H _ rfl rfl HLR.out HPL.out rfl ?_)
      | (go_at_call 86; (with_reducible refine (cM _).mono ?_); rintro e w' ⟨rfl, hb⟩; replace H := H.step hb; clear hb)
      | (go_at_call 88; (with_reducible refine (cE _).mono ?_); rintro e w' ⟨A24, c24, rfl, ho, hb⟩; replace H := H.pushRow hb ho; clear hb ho)
      | ((with_reducible refine gDst 25 ?_); refine aAppBs H _ _ rfl rfl rfl (H.hold.rr (.slice A24 44 c24)) ⟨by rw [hl8]; decide, by rw [HEL.out]; decide⟩ rfl ?_; clear H; intro v25 w25 ys1 HY1 H; (try dsimp only at H); obtain ⟨A25, c25, rfl, hc25⟩ := (H.hold.rr v25).len; have h52 := Lib.hid (show ys1.length = 52 by rw [HY1.out, List.length_append, HEL.out, hl8]); rw [h52.out] at H ⊢)
      | ((with_reducible refine gDst 28 ?_); refine aLoad1 H _ rfl rfl HLM.out rfl ?_)
      | ((with_reducible refine gDst 29 ?_); refine aAppBs H _ _ rfl rfl rfl ((H.old RO).rd (.slice A 64 c)) ⟨by rw [h52.out]; decide, by rw [HX.out]; decide⟩ rfl ?_; clear H; intro v29 w29 ys2 HY2 H; (try dsimp only at H); obtain ⟨A29, c29, rfl, hc29⟩ := (H.hold.rr v29).len; have h116 := Lib.hid (show ys2.length = 116 by rw [HY2.out, List.length_append, h52.out, HX.out]); rw [h116.out] at H ⊢)
      | ((with_reducible refine gDst 1 ?_); refine aBox H _ rfl rfl rfl ?_; clear H; intro b1 w1 H)
      | ((with_reducible refine gDst 5 ?_); refine aAlloc H rfl rfl ?_; clear H; intro b5 w5 H)
      | ((with_reducible refine gLoad ?_); first | (refine aLoad1 H _ rfl rfl (by first | exact (rfl : _ = some (Value.int _ _)) | exact (rfl : _ = some (Value.slice _ _ _)) | exact (rfl : _ = some (Value.bool _)) | exact (rfl : _ = some (Value.string _)) | exact (rfl : _ = some (Value.pointer _)) | rfl | (simp [List.getElem?_append]; done)) rfl ?_) | (refine aLoadC _ rfl rfl (by assumption) rfl ?_) | (refine aLoad H _ rfl rfl (by first | exact part_all (by first | rfl | simp []) | (simp only [List.drop_succ_cons, List.drop_zero, List.take_succ_cons, List.take_zero]; rfl) | (simp [List.drop_append, List.take_append]; rfl)) (by first | rfl | simp []) rfl ?_))
      | ((with_reducible refine gStore ?_); (first | (refine aStore H _ _ rfl rfl rfl (by (first | exact ⟨rfl, rfl⟩ | exact ⟨by decide, rfl⟩ | (simp []; done) | (constructor <;> simp [] <;> omega))) (by first | rfl | simp [List.all_append, one_all]) rfl ?_) | (refine aLay H _ _ rfl rfl rfl (by (first | exact ⟨rfl, rfl⟩ | exact ⟨by decide, rfl⟩ | (simp []; done) | (constructor <;> simp [] <;> omega))) (by first | rfl | simp [List.all_append, one_all]) (by simp only [lay, List.take_succ_cons, List.take_zero, List.drop_succ_cons, List.drop_zero, List.nil_append, List.cons_append, List.length_cons, List.length_nil, Nat.zero_add, Nat.reduceAdd]; rfl) rfl ?_)); clear H; intro w' H; try dsimp only at H)
      | ((with_reducible refine gConv ?_); first | (refine aStr H _ rfl rfl rfl ?_))
      | (at_builtin; refine aAppB1 _ H _ _ rfl rfl rfl (by first | omega | (have := HCL.out; omega)) rfl ?_; clear H; intro v' w' ys HY H; (try dsimp only at H); obtain ⟨A', c', rfl, hc'⟩ := (H.hold.rr v').len))
    have hpre : pre ++ xs = ys2 := by rw [HY2.out, HY1.out, HLP.out]
    rw [hpre] at HW
    obtain ⟨L, hL⟩ : ∃ L, SH Nil w w29 (.row B8 (.slice A29 116 c29) ys2 :: L) := ⟨_, H.bring 1 rfl⟩
    clear H HY1 HY2 HLR HLM cM cE HP hpre
    go_loopw [4] (fun v4 wr => relLE ys2 L w v4 wr) (fun v _ => 224 - lenOf v)
    case atStart => exact ⟨0, 116, _, _, rfl, by rw [h116.out], by omega, by rw [List.replicate_zero, List.append_nil]; exact hL⟩
    case round =>
      obtain ⟨k, n, A4, c4, rfl, hn, hn2, HS⟩ := hrel
      clear hL
      have H := HS
      clear HS
      have hln : (ys2 ++ List.replicate k (0 : UInt8)).length = n := by rw [List.length_append, List.length_replicate]; omega
      have HLN := Lib.hid hln
      clear hln
      by_cases h224 : n < 224
      · have hi : (n : Int) < 224 := by omega
        have HN := Lib.hid hn
        go_wp2_with (first
          | ((with_reducible refine gDst 35 ?_); refine aAppB1 0 H _ _ rfl rfl rfl (by rw [HLN.out]; omega) rfl ?_; clear H; intro v' w' ys HY H; (try dsimp only at H); obtain ⟨A', c', rfl, hc'⟩ := (H.hold.rr v').len))
        have hy : ys = ys2 ++ List.replicate (k + 1) 0 := by rw [HY.out, List.append_assoc, List.replicate_succ']
        have hyn : ys.length = n + 1 := by rw [HY.out, List.length_append, HLN.out]; rfl
        rw [hyn, hy] at H
        rw [hyn]
        go_roundw
        case rel => first | exact ⟨k + 1, n + 1, A', c', rfl, by omega, by omega, H⟩ | exact ⟨_, ⟨k + 1, n + 1, A', c', rfl, by omega, by omega, H⟩, rfl⟩ | exact ⟨_, _, ⟨k + 1, n + 1, A', c', rfl, by omega, by omega, H⟩, rfl, rfl⟩ | exact ⟨_, _, _, ⟨k + 1, n + 1, A', c', rfl, by omega, by omega, H⟩, rfl, rfl, rfl⟩ | exact ⟨_, _, _, _, ⟨k + 1, n + 1, A', c', rfl, by omega, by omega, H⟩, rfl, rfl, rfl, rfl⟩ | exact ⟨_, _, _, _, _, ⟨k + 1, n + 1, A', c', rfl, by omega, by omega, H⟩, rfl, rfl, rfl, rfl, rfl⟩ | ((repeat (apply Exists.intro)); exact ⟨⟨k + 1, n + 1, A', c', rfl, by omega, by omega, H⟩, rfl⟩)
        case measure => show 224 - (n + 1) < 224 - n; omega
      · obtain rfl : n = 224 := by omega
        obtain rfl : k = 108 := by have := h116.out; omega
        have HLB := Lib.hid HLN.out
        generalize hz : ys2 ++ List.replicate 108 (0 : UInt8) = z at *
        have hz5 : z.length ≤ 500000000 := by rw [HLB.out]; decide
        clear hn hn2
        go_wp2_with (first
          | (go_at_call 89; (with_reducible refine (rSum_any _ z _ (H.hold.rr _) hz5).mono ?_); rintro e w' ⟨rfl, hb⟩; replace H := H.step hb; clear hb)
          | ((with_reducible refine gSto (.tmp 5) (.tmp 37) ?_); refine aStore H _ _ rfl rfl rfl ⟨by rfl, by rw [List.length_map, shaL_len]⟩ (one_all _) rfl ?_; clear H; intro w' H; (try dsimp only at H))
          | ((with_reducible refine gDst 40 ?_); refine aAppBs H _ _ rfl rfl rfl ((H.hold.va (b := b5)).rbn 32 (shaL_len _) (by decide)) ⟨by rw [HLB.out]; decide, by rw [shaL_len]; decide⟩ rfl ?_; clear H; intro v' w' ys3 HY3 H; (try dsimp only at H))
          | ((with_reducible refine gDst 1 ?_); refine aBox H _ rfl rfl rfl ?_; clear H; intro b1 w1 H)
          | ((with_reducible refine gDst 5 ?_); refine aAlloc H rfl rfl ?_; clear H; intro b5 w5 H)
          | ((with_reducible refine gLoad ?_); first | (refine aLoad1 H _ rfl rfl (by first | exact (rfl : _ = some (Value.int _ _)) | exact (rfl : _ = some (Value.slice _ _ _)) | exact (rfl : _ = some (Value.bool _)) | exact (rfl : _ = some (Value.string _)) | exact (rfl : _ = some (Value.pointer _)) | rfl | (simp [List.getElem?_append]; done)) rfl ?_) | (refine aLoadC _ rfl rfl (by assumption) rfl ?_) | (refine aLoad H _ rfl rfl (by first | exact part_all (by first | rfl | simp []) | (simp only [List.drop_succ_cons, List.drop_zero, List.take_succ_cons, List.take_zero]; rfl) | (simp [List.drop_append, List.take_append]; rfl)) (by first | rfl | simp []) rfl ?_))
          | ((with_reducible refine gStore ?_); (first | (refine aStore H _ _ rfl rfl rfl (by (first | exact ⟨rfl, rfl⟩ | exact ⟨by decide, rfl⟩ | (simp []; done) | (constructor <;> simp [] <;> omega))) (by first | rfl | simp [List.all_append, one_all]) rfl ?_) | (refine aLay H _ _ rfl rfl rfl (by (first | exact ⟨rfl, rfl⟩ | exact ⟨by decide, rfl⟩ | (simp []; done) | (constructor <;> simp [] <;> omega))) (by first | rfl | simp [List.all_append, one_all]) (by simp only [lay, List.take_succ_cons, List.take_zero, List.drop_succ_cons, List.drop_zero, List.nil_append, List.cons_append, List.length_cons, List.length_nil, Nat.zero_add, Nat.reduceAdd]; rfl) rfl ?_)); clear H; intro w' H; try dsimp only at H)
          | ((with_reducible refine gConv ?_); first | (refine aStr H _ rfl rfl rfl ?_))
          | (at_builtin; refine aAppB1 _ H _ _ rfl rfl rfl (by first | omega | (have := HCL.out; omega)) rfl ?_; clear H; intro v' w' ys HY H; (try dsimp only at H); obtain ⟨A', c', rfl, hc'⟩ := (H.hold.rr v').len))
        go_ret2
        have hys : ys3 = labW u p xs := by rw [HW.out, HY3.out]
        subst hys
        exact ⟨v', rfl, H.ow _, H.below⟩
end Go.Proofs.YticfcelbnkiopaaDoor

namespace Go.Proofs.YticfcelbnkiopaaDoor
set_option maxRecDepth 100000
open Go.RowKit
set_option linter.unusedSimpArgs false
set_option linter.unusedVariables false

theorem HOLD.rdC {w : World} {v : Value} {xs : List UInt8} {L : List Own} (h : RB w v xs) (hl : HOLD L w) : HOLD (.rd B8 v xs :: L) w := HOLD.rdCons h hl
theorem all_zero_rep {l : List UInt8} (h : l.all (· == 0) = true) : l = List.replicate l.length 0 :=
  List.eq_replicate_iff.2 ⟨rfl, fun b hb => by simpa using List.all_eq_true.1 h b hb⟩
/-- What is right, encoded again, is the bytes. -/
theorem lab_again (b : List UInt8) (h : b.length = 256) (hs : (shaL (b.take 224) == b.drop 224) = true) (hd : decE (lbRoot b) = 0) : (labL (lbTxg b) (decP (lbRoot b)) (lbMap b) == b) = lbGood b := by
  obtain ⟨p1, p2, p3, p4, p5, p6⟩ := pieces b h
  obtain ⟨-, e2, e3⟩ := enc_dec (lbRoot b) hd
  have hm : (decP (lbRoot b)).may = true := by
    rw [decE, if_neg (by omega)] at hd
    rw [e2]
    by_cases hq : 44 < (lbRoot b).length ∨ (rawP (lbRoot b)).may = false
    · rw [if_pos hq] at hd; cases hd
    · cases hw : (rawP (lbRoot b)).may with
      | true => rfl
      | false => exact absurd (.inr hw) hq
  have hok : labOk (decP (lbRoot b)) (lbMap b) = true := by rw [labOk, hm, p3]; rfl
  have h4 : put32L (lbTxg b).toNat = (b.drop 4).take 4 := by
    rw [lbTxg, u32n]
    have h5 := put32_get (b.drop 4) (by omega)
    have h6 := congrArg (List.take 4) h5
    rw [List.take_append_of_le_length (by rw [put32L_len]; exact Nat.le_refl _), List.take_of_length_le (by rw [put32L_len]; exact Nat.le_refl _)] at h6
    exact h6
  have hb : b = b.take 4 ++ (b.drop 4).take 4 ++ lbRoot b ++ lbMap b ++ lbZero b ++ b.drop 224 := by
    have k1 : b.take 4 ++ (b.drop 4).take 4 = b.take 8 := by rw [← List.take_add]
    have k2 : b.take 8 ++ lbRoot b = b.take 52 := by
      rw [lbRoot]
      have := List.take_append_drop 8 (b.take 52)
      rwa [List.take_take] at this
    have k3 : b.take 52 ++ lbMap b = b.take 116 := by
      rw [lbMap]
      have := List.take_append_drop 52 (b.take 116)
      rwa [List.take_take] at this
    have k4 : b.take 116 ++ lbZero b = b.take 224 := by
      rw [lbZero]
      have := List.take_append_drop 116 (b.take 224)
      rwa [List.take_take] at this
    rw [k1, k2, k3, k4, List.take_append_drop]
  have hlab : labB (lbTxg b) (decP (lbRoot b)) (lbMap b) = [67, 65, 85, 84] ++ (b.drop 4).take 4 ++ lbRoot b ++ lbMap b ++ List.replicate 108 0 := by rw [labB, h4, e3]
  have hpre : b.take 224 = b.take 4 ++ (b.drop 4).take 4 ++ lbRoot b ++ lbMap b ++ lbZero b := by
    have := congrArg (List.take 224) hb
    rwa [List.take_left' (by simp only [List.length_append, List.length_take, List.length_drop, p2, p3, p4, h]; rfl)] at this
  rw [labL, if_pos hok, labW, lbGood, hd]
  rw [Bool.eq_iff_iff, beq_iff_eq]
  simp only [Bool.and_eq_true, beq_iff_eq, and_true, beq_self_eq_true]
  constructor
  · intro he
    have hx := congrArg (List.take 224) he
    rw [List.take_left' (labB_len _ _ _ p3), hlab, hpre] at hx
    have l1 : ([67, 65, 85, 84] : List UInt8).length = (b.take 4).length := by rw [List.length_take, h]; rfl
    simp only [List.append_assoc] at hx
    obtain ⟨y1, y2⟩ := List.append_inj hx l1
    rw [← y1] at *
    refine ⟨rfl, ?_⟩
    have y3 := List.append_cancel_left (List.append_cancel_left (List.append_cancel_left y2))
    rw [← y3]
    simp
  · rintro ⟨g1, g3⟩
    have hz : lbZero b = List.replicate 108 0 := by rw [← p4]; exact all_zero_rep g3
    rw [beq_iff_eq] at hs
    have : labB (lbTxg b) (decP (lbRoot b)) (lbMap b) = b.take 224 := by rw [hlab, hpre, g1, hz]
    rw [this, hs, List.take_append_drop]
theorem lab_notgood (b : List UInt8) (hd : decE (lbRoot b) ≠ 0) : lbGood b = false := by
  rw [lbGood, beq_eq_false_iff_ne.2 hd]; simp
set_option maxHeartbeats 3200000 in
theorem rlabDecode_any (A : Option Addr) (n c : Nat) (b : List UInt8) (w : World) (hv : RB w (.slice A n c) b) :
    Calls Tryd.prog 41 #[.slice A n c] w fun e w' => LabTold b (fun v => RB w' v (decLM b)) e ∧ Below w.heap.size w w' := by
  have H := SH.start Nil w
  obtain ⟨_, _, e1, hle⟩ := hv.len
  injection e1 with ea e1 e3
  subst ea e1 e3
  rcases lb_cases b with h | ⟨h, hs⟩ | ⟨h, hs, hg⟩ | ⟨h, hs, hg⟩
  · have RO := HOLD.rdOne hv
    have hne : ((b.length : Int) != 256) = true := by simp; omega
    have hne1 : ((b.length : Int) == 256) = false := beq_eq_false_iff_ne.mpr (by omega)
    have hE := lb_short h
    have HB := Lib.hid (fun w' : World => LabTold.bad (b := b) (P := fun v => RB w' v (decLM b)) (by rw [hE]; decide) (by rw [decLM_bad (by rw [hE]; decide)]; exact RR.nil _))
    rw [hE] at HB
    clear hE hv
    go_enter Tryd.func41, Tryd.ntmps41
    go_wp2_with (first
      | ((with_reducible refine gDst 2 ?_); refine aAlloc H rfl rfl ?_; clear H; intro b2 w2 H)
      | ((with_reducible refine gDst 4 ?_); refine aAlloc H rfl rfl ?_; clear H; intro b4 w4 H)
      | ((with_reducible refine gDst 8 ?_); refine aAlloc H rfl rfl ?_; clear H; intro b8 w8 H)
      | ((with_reducible refine gLoad ?_); first | (refine aLoad H _ rfl rfl (by first | exact part_all (by first | rfl | simp []) | (simp only [List.drop_succ_cons, List.drop_zero, List.take_succ_cons, List.take_zero]; rfl) | (simp [List.drop_append, List.take_append]; rfl)) (by first | rfl | simp []) rfl ?_) | (refine aLoadR RO H _ rfl rfl (by first | exact part_all (by first | rfl | simp []) | (simp only [List.drop_succ_cons, List.drop_zero, List.take_succ_cons, List.take_zero]; rfl) | (simp [List.drop_append, List.take_append]; rfl)) (by first | rfl | simp []) rfl ?_))
      | ((with_reducible refine gBuild ?_); refine aZero rfl rfl ?_)
      | ((with_reducible refine gStore ?_); (first | (refine aStore H _ _ rfl rfl rfl (by (first | exact ⟨rfl, rfl⟩ | exact ⟨by decide, rfl⟩ | (simp []; done) | (constructor <;> simp [] <;> omega))) (by first | rfl | simp [List.all_append, one_all]) rfl ?_) | (refine aLay H _ _ rfl rfl rfl (by (first | exact ⟨rfl, rfl⟩ | exact ⟨by decide, rfl⟩ | (simp []; done) | (constructor <;> simp [] <;> omega))) (by first | rfl | simp [List.all_append, one_all]) (by simp only [lay, List.take_succ_cons, List.take_zero, List.drop_succ_cons, List.drop_zero, List.nil_append, List.cons_append, List.length_cons, List.length_nil, Nat.zero_add, Nat.reduceAdd]; rfl) rfl ?_)); clear H; intro w' H; try dsimp only at H)
      | ((with_reducible refine gConv ?_); first | (refine aStr H _ rfl rfl rfl ?_) | (refine aStrR RO H _ rfl rfl rfl ?_)))
    refine bodyPost_ret (res_cell_tmp rfl _ H.hold rfl rfl) rfl ?_
    exact ⟨HB.out _, H.below⟩
  all_goals
    obtain ⟨p1, p2, p3, p4, p5, p6⟩ := pieces b h
    obtain ⟨A1, -, -, k1, r1⟩ := cutB A c b 0 224 (by omega) (by omega) hle
    obtain ⟨A2, -, k2, -, r2⟩ := cutB A c b 224 b.length (by omega) (Nat.le_refl _) hle
    obtain ⟨A3, k3, -, -, r3⟩ := cutB A c b 8 52 (by omega) (by omega) hle
    obtain ⟨A4, -, k4, -, r4⟩ := cutB A c b 4 b.length (by omega) (Nat.le_refl _) hle
    obtain ⟨A5, k5, -, -, r5⟩ := cutB A c b 52 116 (by omega) (by omega) hle
    have k1' := fun (kl : IntKind) (W : World) => k1 kl W rfl
    have k2' := fun (kl : IntKind) (W : World) => k2 kl W rfl
    have k4' := fun (kl : IntKind) (W : World) => k4 kl W rfl
    rw [List.take_length] at r2 r4
    rw [h] at k1' k2' k3 k4' k5 r1 r2 r3 r4 r5 hv
    simp only [Nat.reduceSub, Nat.sub_zero, List.drop_zero] at k1' k2' k3 k4' k5 r1 r2 r3 r4 r5
    push_cast at k1' k2' k3 k4' k5
    change ∀ w, _ → RB w _ (lbRoot b) at r3
    change ∀ w, _ → RB w _ (lbMap b) at r5
    have RO := HOLD.rdC hv (HOLD.rdC (r1 w hv) (HOLD.rdC (r2 w hv) (HOLD.rdC (r3 w hv) (HOLD.rdC (r4 w hv) (HOLD.rdOne (r5 w hv))))))
    have HS := Lib.hid (fun W (h : RB W (.slice A1 224 c) (b.take 224)) => rSum_any (.slice A1 224 c) (b.take 224) W h (by rw [p1]; decide))
    have HSL := Lib.hid (show ((shaL (b.take 224)).map cb).length = 32 by rw [List.length_map, shaL_len])
    have HSN := Lib.hid (shaL_len (b.take 224))
    rw [h]
    clear k1 k2 k4 r1 r2 r3 r4 hv
  · have hE := lb_sum h hs
    have HB := Lib.hid (fun w' : World => LabTold.bad (b := b) (P := fun v => RB w' v (decLM b)) (by rw [hE]; decide) (by rw [decLM_bad (by rw [hE]; decide)]; exact RR.nil _))
    rw [hE] at HB
    have hs2 : (shaL (b.take 224) != b.drop 224) = true := by rw [bne, hs]; rfl
    clear hE r5 h hle k3 k4' k5 hs2
    go_enter Tryd.func41, Tryd.ntmps41
    go_wp2_with (first
      | ((with_reducible refine gSto (.tmp 4) (.tmp 19) ?_); refine aStore H _ _ rfl rfl rfl ⟨by rfl, HSL.out⟩ (one_all _) rfl ?_; clear H; intro w' H; (try dsimp only at H))
      | (go_at_call 89; (with_reducible refine (HS.out _ ((H.old RO).rd _)).mono ?_); rintro e w' ⟨rfl, hb⟩; replace H := H.step hb; clear hb)
      | ((with_reducible refine gDst 2 ?_); refine aAlloc H rfl rfl ?_; clear H; intro b2 w2 H)
      | ((with_reducible refine gDst 4 ?_); refine aAlloc H rfl rfl ?_; clear H; intro b4 w4 H)
      | ((with_reducible refine gDst 8 ?_); refine aAlloc H rfl rfl ?_; clear H; intro b8 w8 H)
      | ((with_reducible refine gLoad ?_); first | (refine aLoad H _ rfl rfl (by first | exact part_all (by first | rfl | simp []) | (simp only [List.drop_succ_cons, List.drop_zero, List.take_succ_cons, List.take_zero]; rfl) | (simp [List.drop_append, List.take_append]; rfl)) (by first | rfl | simp []) rfl ?_) | (refine aLoadR RO H _ rfl rfl (by first | exact part_all (by first | rfl | simp []) | (simp only [List.drop_succ_cons, List.drop_zero, List.take_succ_cons, List.take_zero]; rfl) | (simp [List.drop_append, List.take_append]; rfl)) (by first | rfl | simp []) rfl ?_))
      | ((with_reducible refine gBuild ?_); refine aZero rfl rfl ?_)
      | ((with_reducible refine gStore ?_); (first | (refine aStore H _ _ rfl rfl rfl (by (first | exact ⟨rfl, rfl⟩ | exact ⟨by decide, rfl⟩ | (simp []; done) | (constructor <;> simp [] <;> omega))) (by first | rfl | simp [List.all_append, one_all]) rfl ?_) | (refine aLay H _ _ rfl rfl rfl (by (first | exact ⟨rfl, rfl⟩ | exact ⟨by decide, rfl⟩ | (simp []; done) | (constructor <;> simp [] <;> omega))) (by first | rfl | simp [List.all_append, one_all]) (by simp only [lay, List.take_succ_cons, List.take_zero, List.drop_succ_cons, List.drop_zero, List.nil_append, List.cons_append, List.length_cons, List.length_nil, Nat.zero_add, Nat.reduceAdd]; rfl) rfl ?_)); clear H; intro w' H; try dsimp only at H)
      | ((with_reducible refine gConv ?_); first | (refine aStr H _ rfl rfl rfl ?_) | (refine aStrR RO H _ rfl rfl rfl ?_)))
    refine startA (fun i => false) (by kernel_rfl) (fun wS hS => ?_)
    replace H := H.drew
    rw [← hS] at H
    have HH := H.hold
    have HR := H.old RO
    have HS0 : Below wS.heap.size wS wS := Below.refl _ _
    clear hS
    refine takeP 0 rfl (by kernel_rfl) (by kernel_rfl) (by kernel_rfl) (by kernel_rfl) (fun _ _ _ h => h) rfl (v := ?_) ?_ ?_
    rotate_left
    · intro w'; go_simp; (try with_reducible rfl)
    (try simp only [Act.put, List.setIfInBounds_toArray, List.set_cons_zero, List.set_cons_succ])
    refine takeL 1 HS0 rfl (by kernel_rfl) (by kernel_rfl) (by kernel_rfl) (by kernel_rfl) (by kernel_rfl) (fun _ _ _ h => h) rfl (v := ?_) ?_ ?_
    rotate_left
    · intro w' hw'; refine Eq.trans (xStrRB (P := Tryd.prog) _ rfl rfl (((HH.below hw').va (b := b4)).rbn 32 HSN.out (by decide))) ?_; with_reducible rfl
    (try simp only [Act.put, List.setIfInBounds_toArray, List.set_cons_zero, List.set_cons_succ])
    refine takeP 2 rfl (by kernel_rfl) (by kernel_rfl) (by kernel_rfl) (by kernel_rfl) (fun _ _ _ h => h) rfl (v := ?_) ?_ ?_
    rotate_left
    · intro w'; go_simp; (try with_reducible rfl)
    (try simp only [Act.put, List.setIfInBounds_toArray, List.set_cons_zero, List.set_cons_succ])
    refine takeP 3 rfl (by kernel_rfl) (by kernel_rfl) (by kernel_rfl) (by kernel_rfl) (fun _ _ _ h => h) rfl (v := ?_) ?_ ?_
    rotate_left
    · intro w'; go_simp; (try with_reducible rfl)
    (try simp only [Act.put, List.setIfInBounds_toArray, List.set_cons_zero, List.set_cons_succ])
    refine takeL 4 HS0 rfl (by kernel_rfl) (by kernel_rfl) (by kernel_rfl) (by kernel_rfl) (by kernel_rfl) (fun _ _ _ h => h) rfl (v := ?_) ?_ ?_
    rotate_left
    · intro w' hw'; first | (refine Eq.trans (xStr _ rfl rfl (HR.below hw')) ?_; with_reducible rfl) | (refine Eq.trans (xStr _ rfl rfl (HH.below hw')) ?_; with_reducible rfl)
    (try simp only [Act.put, List.setIfInBounds_toArray, List.set_cons_zero, List.set_cons_succ])
    refine takeP 5 rfl (by kernel_rfl) (by kernel_rfl) (by kernel_rfl) (by kernel_rfl) (fun _ _ _ h => h) rfl (v := ?_) ?_ ?_
    rotate_left
    · intro w'; go_simp; (try with_reducible rfl)
    (try simp only [Act.put, List.setIfInBounds_toArray, List.set_cons_zero, List.set_cons_succ])
    refine doneL (by kernel_rfl) ?_
    go_wp2_with (first
      | ((with_reducible refine gDst 2 ?_); refine aAlloc H rfl rfl ?_; clear H; intro b2 w2 H)
      | ((with_reducible refine gDst 4 ?_); refine aAlloc H rfl rfl ?_; clear H; intro b4 w4 H)
      | ((with_reducible refine gDst 8 ?_); refine aAlloc H rfl rfl ?_; clear H; intro b8 w8 H)
      | ((with_reducible refine gLoad ?_); first | (refine aLoad H _ rfl rfl (by first | exact part_all (by first | rfl | simp []) | (simp only [List.drop_succ_cons, List.drop_zero, List.take_succ_cons, List.take_zero]; rfl) | (simp [List.drop_append, List.take_append]; rfl)) (by first | rfl | simp []) rfl ?_) | (refine aLoadR RO H _ rfl rfl (by first | exact part_all (by first | rfl | simp []) | (simp only [List.drop_succ_cons, List.drop_zero, List.take_succ_cons, List.take_zero]; rfl) | (simp [List.drop_append, List.take_append]; rfl)) (by first | rfl | simp []) rfl ?_))
      | ((with_reducible refine gBuild ?_); refine aZero rfl rfl ?_)
      | ((with_reducible refine gStore ?_); (first | (refine aStore H _ _ rfl rfl rfl (by (first | exact ⟨rfl, rfl⟩ | exact ⟨by decide, rfl⟩ | (simp []; done) | (constructor <;> simp [] <;> omega))) (by first | rfl | simp [List.all_append, one_all]) rfl ?_) | (refine aLay H _ _ rfl rfl rfl (by (first | exact ⟨rfl, rfl⟩ | exact ⟨by decide, rfl⟩ | (simp []; done) | (constructor <;> simp [] <;> omega))) (by first | rfl | simp [List.all_append, one_all]) (by simp only [lay, List.take_succ_cons, List.take_zero, List.drop_succ_cons, List.drop_zero, List.nil_append, List.cons_append, List.length_cons, List.length_nil, Nat.zero_add, Nat.reduceAdd]; rfl) rfl ?_)); clear H; intro w' H; try dsimp only at H)
      | ((with_reducible refine gConv ?_); first | (refine aStr H _ rfl rfl rfl ?_) | (refine aStrR RO H _ rfl rfl rfl ?_)))
    refine bodyPost_ret (res_cell_tmp rfl _ H.hold rfl rfl) rfl ?_
    exact ⟨HB.out _, H.below⟩
  all_goals
    have hs2 : (shaL (b.take 224) != b.drop 224) = false := by rw [bne, hs]; rfl
    have hg2 : (((decE (lbRoot b) : Int) != 0) = true ∧ lbGood b = false) ∨ (((decE (lbRoot b) : Int) != 0) = false ∧ (labL (lbTxg b) (decP (lbRoot b)) (lbMap b) == b) = lbGood b) := by
      by_cases hd : decE (lbRoot b) = 0
      · exact .inr ⟨by rw [hd]; rfl, lab_again b h hs hd⟩
      · exact .inl ⟨by simp; omega, lab_notgood b hd⟩
    have hdp : ∀ W, RB W (.slice A3 44 (c - 8)) (lbRoot b) → Calls Tryd.prog 96 #[.slice A3 44 (c - 8)] W fun e w' => e = .returned (.tuple #[.agg (decP (lbRoot b)).cells.toArray, .int .i64 (decE (lbRoot b) : Int)]) ∧ Below W.heap.size W w' := fun W h => rDecode_any (.slice A3 44 (c - 8)) (lbRoot b) W h (by rw [p2]; decide)
    have htk : ∀ W, RB W (.slice A4 252 (c - 4)) (b.drop 4) → Calls Tryd.prog 95 #[.slice A4 252 (c - 4)] W fun e w' => ∃ v', e = .returned (.tuple #[u32 (lbTxg b), v', .int .i64 0]) ∧ Below W.heap.size W w' := fun W h => by
      refine (rTake32_any (.slice A4 252 (c - 4)) (b.drop 4) W h).mono ?_
      rintro e w' ⟨v', rfl, -, hb⟩
      rw [if_pos (by rw [p6]; decide), if_pos (by rw [p6]; decide), ← g32]
      exact ⟨v', rfl, hb⟩
    have hre : ∀ W, RB W (.slice A5 64 (c - 52)) (lbMap b) → Calls Tryd.prog 37 #[.agg (lbC (lbTxg b) (decP (lbRoot b)) (.slice A5 64 (c - 52))).toArray] W fun e w' => ∃ A c', e = .returned (.tuple #[.slice A (labL (lbTxg b) (decP (lbRoot b)) (lbMap b)).length c', .int .i64 (labE (decP (lbRoot b)) (lbMap b))]) ∧ OB w' W.heap.size (.slice A (labL (lbTxg b) (decP (lbRoot b)) (lbMap b)).length c') (labL (lbTxg b) (decP (lbRoot b)) (lbMap b)) ∧ Below W.heap.size W w' := fun W h => by
      have := rlabEncode_any (lbTxg b) (decP (lbRoot b)) A5 (c - 52) (lbMap b) W (by rw [p3]; exact h)
      rw [p3] at this
      refine this.mono ?_
      rintro e w' ⟨v, rfl, ho, hb⟩
      obtain ⟨A', c', rfl, -⟩ := ho.reads.len
      exact ⟨A', c', rfl, ho, hb⟩
    have HP := Lib.hid hdp
    have HT := Lib.hid htk
    have HRE := Lib.hid hre
    have HPL := Lib.hid (decP (lbRoot b)).len
    have HPO := Lib.hid (PT.one (decP (lbRoot b)))
    have HLB := Lib.hid (lab_built (lbTxg b) (decP (lbRoot b)))
    have HLL := Lib.hid (lbC_len (lbTxg b) (decP (lbRoot b)))
    have HLO := Lib.hid (fun A n c => lbC_one (lbTxg b) (decP (lbRoot b)) (.slice A n c) rfl)
    clear hdp htk hre
  · have hE := lb_bad h hs hg
    have HB := Lib.hid (fun w' : World => LabTold.bad (b := b) (P := fun v => RB w' v (decLM b)) (by rw [hE]; decide) (by rw [decLM_bad (by rw [hE]; decide)]; exact RR.nil _))
    rw [hE] at HB
    rw [hg] at hg2
    generalize labL (lbTxg b) (decP (lbRoot b)) (lbMap b) = ys at *
    generalize labE (decP (lbRoot b)) (lbMap b) = yE at *
    generalize (decE (lbRoot b) : Int) = de at *
    generalize decP (lbRoot b) = p at *
    generalize lbTxg b = u at *
    clear hE r5 h hle hg hs2
    rcases hg2 with ⟨g1, -⟩ | ⟨g1, g2⟩
    all_goals
      go_enter Tryd.func41, Tryd.ntmps41
      go_wp2_with (first
        | ((with_reducible refine gSto (.tmp 4) (.tmp 19) ?_); refine aStore H _ _ rfl rfl rfl ⟨by rfl, HSL.out⟩ (one_all _) rfl ?_; clear H; intro w' H; (try dsimp only at H))
        | (go_at_call 89; (with_reducible refine (HS.out _ ((H.old RO).rd _)).mono ?_); rintro e w' ⟨rfl, hb⟩; replace H := H.step hb; clear hb)
        | ((with_reducible refine gDst 2 ?_); refine aAlloc H rfl rfl ?_; clear H; intro b2 w2 H)
        | ((with_reducible refine gDst 4 ?_); refine aAlloc H rfl rfl ?_; clear H; intro b4 w4 H)
        | ((with_reducible refine gDst 8 ?_); refine aAlloc H rfl rfl ?_; clear H; intro b8 w8 H)
        | ((with_reducible refine gLoad ?_); first | (refine aLoad H _ rfl rfl (by first | exact part_all (by first | rfl | simp []) | (simp only [List.drop_succ_cons, List.drop_zero, List.take_succ_cons, List.take_zero]; rfl) | (simp [List.drop_append, List.take_append]; rfl)) (by first | rfl | simp []) rfl ?_) | (refine aLoadR RO H _ rfl rfl (by first | exact part_all (by first | rfl | simp []) | (simp only [List.drop_succ_cons, List.drop_zero, List.take_succ_cons, List.take_zero]; rfl) | (simp [List.drop_append, List.take_append]; rfl)) (by first | rfl | simp []) rfl ?_))
        | ((with_reducible refine gBuild ?_); refine aZero rfl rfl ?_)
        | ((with_reducible refine gStore ?_); (first | (refine aStore H _ _ rfl rfl rfl (by (first | exact ⟨rfl, rfl⟩ | exact ⟨by decide, rfl⟩ | (simp []; done) | (constructor <;> simp [] <;> omega))) (by first | rfl | simp [List.all_append, one_all]) rfl ?_) | (refine aLay H _ _ rfl rfl rfl (by (first | exact ⟨rfl, rfl⟩ | exact ⟨by decide, rfl⟩ | (simp []; done) | (constructor <;> simp [] <;> omega))) (by first | rfl | simp [List.all_append, one_all]) (by simp only [lay, List.take_succ_cons, List.take_zero, List.drop_succ_cons, List.drop_zero, List.nil_append, List.cons_append, List.length_cons, List.length_nil, Nat.zero_add, Nat.reduceAdd]; rfl) rfl ?_)); clear H; intro w' H; try dsimp only at H)
        | ((with_reducible refine gConv ?_); first | (refine aStr H _ rfl rfl rfl ?_) | (refine aStrR RO H _ rfl rfl rfl ?_)))
      refine startA (fun i => false) (by kernel_rfl) (fun wS hS => ?_)
      replace H := H.drew
      rw [← hS] at H
      have HH := H.hold
      have HR := H.old RO
      have HS0 : Below wS.heap.size wS wS := Below.refl _ _
      clear hS
      refine takeP 0 rfl (by kernel_rfl) (by kernel_rfl) (by kernel_rfl) (by kernel_rfl) (fun _ _ _ h => h) rfl (v := ?_) ?_ ?_
      rotate_left
      · intro w'; go_simp; (try with_reducible rfl)
      (try simp only [Act.put, List.setIfInBounds_toArray, List.set_cons_zero, List.set_cons_succ])
      refine takeL 1 HS0 rfl (by kernel_rfl) (by kernel_rfl) (by kernel_rfl) (by kernel_rfl) (by kernel_rfl) (fun _ _ _ h => h) rfl (v := ?_) ?_ ?_
      rotate_left
      · intro w' hw'; refine Eq.trans (xStrRB (P := Tryd.prog) _ rfl rfl (((HH.below hw').va (b := b4)).rbn 32 HSN.out (by decide))) ?_; with_reducible rfl
      (try simp only [Act.put, List.setIfInBounds_toArray, List.set_cons_zero, List.set_cons_succ])
      refine takeP 2 rfl (by kernel_rfl) (by kernel_rfl) (by kernel_rfl) (by kernel_rfl) (fun _ _ _ h => h) rfl (v := ?_) ?_ ?_
      rotate_left
      · intro w'; go_simp; (try with_reducible rfl)
      (try simp only [Act.put, List.setIfInBounds_toArray, List.set_cons_zero, List.set_cons_succ])
      refine takeP 3 rfl (by kernel_rfl) (by kernel_rfl) (by kernel_rfl) (by kernel_rfl) (fun _ _ _ h => h) rfl (v := ?_) ?_ ?_
      rotate_left
      · intro w'; go_simp; (try with_reducible rfl)
      (try simp only [Act.put, List.setIfInBounds_toArray, List.set_cons_zero, List.set_cons_succ])
      refine takeL 4 HS0 rfl (by kernel_rfl) (by kernel_rfl) (by kernel_rfl) (by kernel_rfl) (by kernel_rfl) (fun _ _ _ h => h) rfl (v := ?_) ?_ ?_
      rotate_left
      · intro w' hw'; first | (refine Eq.trans (xStr _ rfl rfl (HR.below hw')) ?_; with_reducible rfl) | (refine Eq.trans (xStr _ rfl rfl (HH.below hw')) ?_; with_reducible rfl)
      (try simp only [Act.put, List.setIfInBounds_toArray, List.set_cons_zero, List.set_cons_succ])
      refine takeP 5 rfl (by kernel_rfl) (by kernel_rfl) (by kernel_rfl) (by kernel_rfl) (fun _ _ _ h => h) rfl (v := ?_) ?_ ?_
      rotate_left
      · intro w'; go_simp; (try with_reducible rfl)
      (try simp only [Act.put, List.setIfInBounds_toArray, List.set_cons_zero, List.set_cons_succ])
      refine doneL (by kernel_rfl) ?_
      go_wp2_with (first
        | ((with_reducible refine gSto (.tmp 8) (.tmp 38) ?_); refine aStore H _ _ rfl rfl rfl ⟨by rfl, HPL.out⟩ (List.all_eq_true.2 HPO.out) rfl ?_; clear H; intro w' H; (try dsimp only at H))
        | (go_at_call 95; (with_reducible refine (HT.out _ ((H.old RO).rd _)).mono ?_); rintro e w' ⟨v27, rfl, hb⟩; replace H := H.step hb; clear hb)
        | (go_at_call 96; (with_reducible refine (HP.out _ ((H.old RO).rd _)).mono ?_); rintro e w' ⟨rfl, hb⟩; replace H := H.step hb; clear hb)
        | ((with_reducible refine gDst 2 ?_); refine aAlloc H rfl rfl ?_; clear H; intro b2 w2 H)
        | ((with_reducible refine gDst 4 ?_); refine aAlloc H rfl rfl ?_; clear H; intro b4 w4 H)
        | ((with_reducible refine gDst 8 ?_); refine aAlloc H rfl rfl ?_; clear H; intro b8 w8 H)
        | ((with_reducible refine gLoad ?_); first | (refine aLoad H _ rfl rfl (by first | exact part_all (by first | rfl | simp []) | (simp only [List.drop_succ_cons, List.drop_zero, List.take_succ_cons, List.take_zero]; rfl) | (simp [List.drop_append, List.take_append]; rfl)) (by first | rfl | simp []) rfl ?_) | (refine aLoadR RO H _ rfl rfl (by first | exact part_all (by first | rfl | simp []) | (simp only [List.drop_succ_cons, List.drop_zero, List.take_succ_cons, List.take_zero]; rfl) | (simp [List.drop_append, List.take_append]; rfl)) (by first | rfl | simp []) rfl ?_))
        | ((with_reducible refine gBuild ?_); refine aZero rfl rfl ?_)
        | ((with_reducible refine gStore ?_); (first | (refine aStore H _ _ rfl rfl rfl (by (first | exact ⟨rfl, rfl⟩ | exact ⟨by decide, rfl⟩ | (simp []; done) | (constructor <;> simp [] <;> omega))) (by first | rfl | simp [List.all_append, one_all]) rfl ?_) | (refine aLay H _ _ rfl rfl rfl (by (first | exact ⟨rfl, rfl⟩ | exact ⟨by decide, rfl⟩ | (simp []; done) | (constructor <;> simp [] <;> omega))) (by first | rfl | simp [List.all_append, one_all]) (by simp only [lay, List.take_succ_cons, List.take_zero, List.drop_succ_cons, List.drop_zero, List.nil_append, List.cons_append, List.length_cons, List.length_nil, Nat.zero_add, Nat.reduceAdd]; rfl) rfl ?_)); clear H; intro w' H; try dsimp only at H)
        | ((with_reducible refine gConv ?_); first | (refine aStr H _ rfl rfl rfl ?_) | (refine aStrR RO H _ rfl rfl rfl ?_)))
      refine startA (fun i => i == 6) (by kernel_rfl) (fun wS hS => ?_)
      replace H := H.drew
      rw [← hS] at H
      have HH := H.hold
      have HR := H.old RO
      have HS0 : Below wS.heap.size wS wS := Below.refl _ _
      clear hS
      refine takeP 0 rfl (by kernel_rfl) (by kernel_rfl) (by kernel_rfl) (by kernel_rfl) (fun _ _ _ h => h) rfl (v := ?_) ?_ ?_
      rotate_left
      · intro w'; go_simp; (try with_reducible rfl)
      (try simp only [Act.put, List.setIfInBounds_toArray, List.set_cons_zero, List.set_cons_succ])
      refine takeL 1 HS0 rfl (by kernel_rfl) (by kernel_rfl) (by kernel_rfl) (by kernel_rfl) (by kernel_rfl) (fun _ _ _ h => h) rfl (v := ?_) ?_ ?_
      rotate_left
      · intro w' hw'; refine Eq.trans (xLoad (HH.below hw') _ rfl rfl (part_all HPL.out) HPL.out) ?_; with_reducible rfl
      (try simp only [Act.put, List.setIfInBounds_toArray, List.set_cons_zero, List.set_cons_succ])
      refine takeP 2 rfl (by kernel_rfl) (by kernel_rfl) (by kernel_rfl) (by kernel_rfl) (fun _ _ _ h => h) rfl (v := ?_) ?_ ?_
      rotate_left
      · intro w'; go_simp; (try with_reducible rfl)
      (try simp only [Act.put, List.setIfInBounds_toArray, List.set_cons_zero, List.set_cons_succ])
      refine takeP 3 rfl (by kernel_rfl) (by kernel_rfl) (by kernel_rfl) (by kernel_rfl) (fun _ _ _ h => h) rfl (v := ?_) ?_ ?_
      rotate_left
      · intro w'; go_simp; (try with_reducible rfl)
      (try simp only [Act.put, List.setIfInBounds_toArray, List.set_cons_zero, List.set_cons_succ])
      refine takeL 4 HS0 rfl (by kernel_rfl) (by kernel_rfl) (by kernel_rfl) (by kernel_rfl) (by kernel_rfl) (fun _ _ _ h => h) rfl (v := ?_) ?_ ?_
      rotate_left
      · intro w' hw'; refine Eq.trans (exec_buildL 80 [(0, .tmp 40), (1, .tmp 41), (2, .tmp 43)] rfl [(0, u32 u), (1, .agg p.cells.toArray), (2, .slice A5 64 (c - 52))] rfl _ (HLB.out A5 64 (c - 52))) ?_; with_reducible rfl
      (try simp only [Act.put, List.setIfInBounds_toArray, List.set_cons_zero, List.set_cons_succ])
      refine stepL 5 rfl (by kernel_rfl) rfl (fun K hK => ?_)
      refine oAlloc H rfl ?_; clear H; intro b10 w10 hb H; replace HS0 := below_two HS0 HS0.size hb; clear hb; refine hK.out _ _ (fun _ _ => HS0) ?_; clear K hK
      (try simp only [Act.put, List.setIfInBounds_toArray, List.set_cons_zero, List.set_cons_succ])
      refine stepL 6 rfl (by kernel_rfl) rfl (fun K hK => ?_)
      (refine oStore H _ _ rfl rfl rfl ⟨by rfl, HLL.out _⟩ (HLO.out _ _ _) ?_; clear H; intro w' H; (try dsimp only at H); refine hK.out _ _ (fun h => by cases h) ?_; clear K hK HS0)
      (try simp only [Act.put, List.setIfInBounds_toArray, List.set_cons_zero, List.set_cons_succ])
      refine doneL (by kernel_rfl) ?_
      all_goals
        go_wp2_with (first
          | ((with_reducible refine gDst 46 ?_); refine aLoad H _ rfl rfl (part_all (HLL.out _)) (HLL.out _) rfl ?_)
          | ((with_reducible refine gDst 60 ?_); refine aLoad H _ rfl rfl (part_all (HLL.out _)) (HLL.out _) rfl ?_)
          | ((with_reducible refine gSto (.tmp 2) (.tmp 60) ?_); refine aStore H _ _ rfl rfl rfl ⟨by rfl, HLL.out _⟩ (HLO.out _ _ _) rfl ?_; clear H; intro w' H; (try dsimp only at H))
          | (go_at_call 37; (with_reducible refine (HRE.out _ ((H.old RO).rd _)).mono ?_); rintro e w' ⟨A47, c47, rfl, ho, hb⟩; replace H := H.pushRow hb ho; clear hb ho)
          | ((with_reducible refine gDst 2 ?_); refine aAlloc H rfl rfl ?_; clear H; intro b2 w2 H)
          | ((with_reducible refine gDst 4 ?_); refine aAlloc H rfl rfl ?_; clear H; intro b4 w4 H)
          | ((with_reducible refine gDst 8 ?_); refine aAlloc H rfl rfl ?_; clear H; intro b8 w8 H)
          | ((with_reducible refine gLoad ?_); first | (refine aLoad H _ rfl rfl (by first | exact part_all (by first | rfl | simp []) | (simp only [List.drop_succ_cons, List.drop_zero, List.take_succ_cons, List.take_zero]; rfl) | (simp [List.drop_append, List.take_append]; rfl)) (by first | rfl | simp []) rfl ?_) | (refine aLoadR RO H _ rfl rfl (by first | exact part_all (by first | rfl | simp []) | (simp only [List.drop_succ_cons, List.drop_zero, List.take_succ_cons, List.take_zero]; rfl) | (simp [List.drop_append, List.take_append]; rfl)) (by first | rfl | simp []) rfl ?_))
          | ((with_reducible refine gBuild ?_); refine aZero rfl rfl ?_)
          | ((with_reducible refine gStore ?_); (first | (refine aStore H _ _ rfl rfl rfl (by (first | exact ⟨rfl, rfl⟩ | exact ⟨by decide, rfl⟩ | (simp []; done) | (constructor <;> simp [] <;> omega))) (by first | rfl | simp [List.all_append, one_all]) rfl ?_) | (refine aLay H _ _ rfl rfl rfl (by (first | exact ⟨rfl, rfl⟩ | exact ⟨by decide, rfl⟩ | (simp []; done) | (constructor <;> simp [] <;> omega))) (by first | rfl | simp [List.all_append, one_all]) (by simp only [lay, List.take_succ_cons, List.take_zero, List.drop_succ_cons, List.drop_zero, List.nil_append, List.cons_append, List.length_cons, List.length_nil, Nat.zero_add, Nat.reduceAdd]; rfl) rfl ?_)); clear H; intro w' H; try dsimp only at H)
          | ((with_reducible refine gConv ?_); first | (refine aStr H _ rfl rfl rfl ?_) | (refine aStrR RO H _ rfl rfl rfl ?_)))
      refine bodyPost_ret (res_cell_tmp rfl _ H.hold rfl rfl) rfl ?_
      exact ⟨HB.out _, H.below⟩
  · have hE := lb_good h hs hg
    have e1 : decLU b = lbTxg b := if_pos hE
    have e2 : decLP b = decP (lbRoot b) := if_pos hE
    have e3 : decLM b = lbMap b := if_pos hE
    unfold LabTold
    rw [hE, e1, e2, e3, p3]
    rw [hg] at hg2
    generalize labL (lbTxg b) (decP (lbRoot b)) (lbMap b) = ys at *
    generalize labE (decP (lbRoot b)) (lbMap b) = yE at *
    generalize (decE (lbRoot b) : Int) = de at *
    generalize decP (lbRoot b) = p at *
    generalize lbTxg b = u at *
    clear hE r5 h hle hg e1 e2 e3 hs2
    rcases hg2 with ⟨-, g1⟩ | ⟨g1, g2⟩
    · cases g1
    go_enter Tryd.func41, Tryd.ntmps41
    go_wp2_with (first
      | ((with_reducible refine gSto (.tmp 4) (.tmp 19) ?_); refine aStore H _ _ rfl rfl rfl ⟨by rfl, HSL.out⟩ (one_all _) rfl ?_; clear H; intro w' H; (try dsimp only at H))
      | (go_at_call 89; (with_reducible refine (HS.out _ ((H.old RO).rd _)).mono ?_); rintro e w' ⟨rfl, hb⟩; replace H := H.step hb; clear hb)
      | ((with_reducible refine gDst 2 ?_); refine aAlloc H rfl rfl ?_; clear H; intro b2 w2 H)
      | ((with_reducible refine gDst 4 ?_); refine aAlloc H rfl rfl ?_; clear H; intro b4 w4 H)
      | ((with_reducible refine gDst 8 ?_); refine aAlloc H rfl rfl ?_; clear H; intro b8 w8 H)
      | ((with_reducible refine gLoad ?_); first | (refine aLoad H _ rfl rfl (by first | exact part_all (by first | rfl | simp []) | (simp only [List.drop_succ_cons, List.drop_zero, List.take_succ_cons, List.take_zero]; rfl) | (simp [List.drop_append, List.take_append]; rfl)) (by first | rfl | simp []) rfl ?_) | (refine aLoadR RO H _ rfl rfl (by first | exact part_all (by first | rfl | simp []) | (simp only [List.drop_succ_cons, List.drop_zero, List.take_succ_cons, List.take_zero]; rfl) | (simp [List.drop_append, List.take_append]; rfl)) (by first | rfl | simp []) rfl ?_))
      | ((with_reducible refine gBuild ?_); refine aZero rfl rfl ?_)
      | ((with_reducible refine gStore ?_); (first | (refine aStore H _ _ rfl rfl rfl (by (first | exact ⟨rfl, rfl⟩ | exact ⟨by decide, rfl⟩ | (simp []; done) | (constructor <;> simp [] <;> omega))) (by first | rfl | simp [List.all_append, one_all]) rfl ?_) | (refine aLay H _ _ rfl rfl rfl (by (first | exact ⟨rfl, rfl⟩ | exact ⟨by decide, rfl⟩ | (simp []; done) | (constructor <;> simp [] <;> omega))) (by first | rfl | simp [List.all_append, one_all]) (by simp only [lay, List.take_succ_cons, List.take_zero, List.drop_succ_cons, List.drop_zero, List.nil_append, List.cons_append, List.length_cons, List.length_nil, Nat.zero_add, Nat.reduceAdd]; rfl) rfl ?_)); clear H; intro w' H; try dsimp only at H)
      | ((with_reducible refine gConv ?_); first | (refine aStr H _ rfl rfl rfl ?_) | (refine aStrR RO H _ rfl rfl rfl ?_)))
    refine startA (fun i => false) (by kernel_rfl) (fun wS hS => ?_)
    replace H := H.drew
    rw [← hS] at H
    have HH := H.hold
    have HR := H.old RO
    have HS0 : Below wS.heap.size wS wS := Below.refl _ _
    clear hS
    refine takeP 0 rfl (by kernel_rfl) (by kernel_rfl) (by kernel_rfl) (by kernel_rfl) (fun _ _ _ h => h) rfl (v := ?_) ?_ ?_
    rotate_left
    · intro w'; go_simp; (try with_reducible rfl)
    (try simp only [Act.put, List.setIfInBounds_toArray, List.set_cons_zero, List.set_cons_succ])
    refine takeL 1 HS0 rfl (by kernel_rfl) (by kernel_rfl) (by kernel_rfl) (by kernel_rfl) (by kernel_rfl) (fun _ _ _ h => h) rfl (v := ?_) ?_ ?_
    rotate_left
    · intro w' hw'; refine Eq.trans (xStrRB (P := Tryd.prog) _ rfl rfl (((HH.below hw').va (b := b4)).rbn 32 HSN.out (by decide))) ?_; with_reducible rfl
    (try simp only [Act.put, List.setIfInBounds_toArray, List.set_cons_zero, List.set_cons_succ])
    refine takeP 2 rfl (by kernel_rfl) (by kernel_rfl) (by kernel_rfl) (by kernel_rfl) (fun _ _ _ h => h) rfl (v := ?_) ?_ ?_
    rotate_left
    · intro w'; go_simp; (try with_reducible rfl)
    (try simp only [Act.put, List.setIfInBounds_toArray, List.set_cons_zero, List.set_cons_succ])
    refine takeP 3 rfl (by kernel_rfl) (by kernel_rfl) (by kernel_rfl) (by kernel_rfl) (fun _ _ _ h => h) rfl (v := ?_) ?_ ?_
    rotate_left
    · intro w'; go_simp; (try with_reducible rfl)
    (try simp only [Act.put, List.setIfInBounds_toArray, List.set_cons_zero, List.set_cons_succ])
    refine takeL 4 HS0 rfl (by kernel_rfl) (by kernel_rfl) (by kernel_rfl) (by kernel_rfl) (by kernel_rfl) (fun _ _ _ h => h) rfl (v := ?_) ?_ ?_
    rotate_left
    · intro w' hw'; first | (refine Eq.trans (xStr _ rfl rfl (HR.below hw')) ?_; with_reducible rfl) | (refine Eq.trans (xStr _ rfl rfl (HH.below hw')) ?_; with_reducible rfl)
    (try simp only [Act.put, List.setIfInBounds_toArray, List.set_cons_zero, List.set_cons_succ])
    refine takeP 5 rfl (by kernel_rfl) (by kernel_rfl) (by kernel_rfl) (by kernel_rfl) (fun _ _ _ h => h) rfl (v := ?_) ?_ ?_
    rotate_left
    · intro w'; go_simp; (try with_reducible rfl)
    (try simp only [Act.put, List.setIfInBounds_toArray, List.set_cons_zero, List.set_cons_succ])
    refine doneL (by kernel_rfl) ?_
    go_wp2_with (first
      | ((with_reducible refine gSto (.tmp 8) (.tmp 38) ?_); refine aStore H _ _ rfl rfl rfl ⟨by rfl, HPL.out⟩ (List.all_eq_true.2 HPO.out) rfl ?_; clear H; intro w' H; (try dsimp only at H))
      | (go_at_call 95; (with_reducible refine (HT.out _ ((H.old RO).rd _)).mono ?_); rintro e w' ⟨v27, rfl, hb⟩; replace H := H.step hb; clear hb)
      | (go_at_call 96; (with_reducible refine (HP.out _ ((H.old RO).rd _)).mono ?_); rintro e w' ⟨rfl, hb⟩; replace H := H.step hb; clear hb)
      | ((with_reducible refine gDst 2 ?_); refine aAlloc H rfl rfl ?_; clear H; intro b2 w2 H)
      | ((with_reducible refine gDst 4 ?_); refine aAlloc H rfl rfl ?_; clear H; intro b4 w4 H)
      | ((with_reducible refine gDst 8 ?_); refine aAlloc H rfl rfl ?_; clear H; intro b8 w8 H)
      | ((with_reducible refine gLoad ?_); first | (refine aLoad H _ rfl rfl (by first | exact part_all (by first | rfl | simp []) | (simp only [List.drop_succ_cons, List.drop_zero, List.take_succ_cons, List.take_zero]; rfl) | (simp [List.drop_append, List.take_append]; rfl)) (by first | rfl | simp []) rfl ?_) | (refine aLoadR RO H _ rfl rfl (by first | exact part_all (by first | rfl | simp []) | (simp only [List.drop_succ_cons, List.drop_zero, List.take_succ_cons, List.take_zero]; rfl) | (simp [List.drop_append, List.take_append]; rfl)) (by first | rfl | simp []) rfl ?_))
      | ((with_reducible refine gBuild ?_); refine aZero rfl rfl ?_)
      | ((with_reducible refine gStore ?_); (first | (refine aStore H _ _ rfl rfl rfl (by (first | exact ⟨rfl, rfl⟩ | exact ⟨by decide, rfl⟩ | (simp []; done) | (constructor <;> simp [] <;> omega))) (by first | rfl | simp [List.all_append, one_all]) rfl ?_) | (refine aLay H _ _ rfl rfl rfl (by (first | exact ⟨rfl, rfl⟩ | exact ⟨by decide, rfl⟩ | (simp []; done) | (constructor <;> simp [] <;> omega))) (by first | rfl | simp [List.all_append, one_all]) (by simp only [lay, List.take_succ_cons, List.take_zero, List.drop_succ_cons, List.drop_zero, List.nil_append, List.cons_append, List.length_cons, List.length_nil, Nat.zero_add, Nat.reduceAdd]; rfl) rfl ?_)); clear H; intro w' H; try dsimp only at H)
      | ((with_reducible refine gConv ?_); first | (refine aStr H _ rfl rfl rfl ?_) | (refine aStrR RO H _ rfl rfl rfl ?_)))
    refine startA (fun i => i == 6) (by kernel_rfl) (fun wS hS => ?_)
    replace H := H.drew
    rw [← hS] at H
    have HH := H.hold
    have HR := H.old RO
    have HS0 : Below wS.heap.size wS wS := Below.refl _ _
    clear hS
    refine takeP 0 rfl (by kernel_rfl) (by kernel_rfl) (by kernel_rfl) (by kernel_rfl) (fun _ _ _ h => h) rfl (v := ?_) ?_ ?_
    rotate_left
    · intro w'; go_simp; (try with_reducible rfl)
    (try simp only [Act.put, List.setIfInBounds_toArray, List.set_cons_zero, List.set_cons_succ])
    refine takeL 1 HS0 rfl (by kernel_rfl) (by kernel_rfl) (by kernel_rfl) (by kernel_rfl) (by kernel_rfl) (fun _ _ _ h => h) rfl (v := ?_) ?_ ?_
    rotate_left
    · intro w' hw'; refine Eq.trans (xLoad (HH.below hw') _ rfl rfl (part_all HPL.out) HPL.out) ?_; with_reducible rfl
    (try simp only [Act.put, List.setIfInBounds_toArray, List.set_cons_zero, List.set_cons_succ])
    refine takeP 2 rfl (by kernel_rfl) (by kernel_rfl) (by kernel_rfl) (by kernel_rfl) (fun _ _ _ h => h) rfl (v := ?_) ?_ ?_
    rotate_left
    · intro w'; go_simp; (try with_reducible rfl)
    (try simp only [Act.put, List.setIfInBounds_toArray, List.set_cons_zero, List.set_cons_succ])
    refine takeP 3 rfl (by kernel_rfl) (by kernel_rfl) (by kernel_rfl) (by kernel_rfl) (fun _ _ _ h => h) rfl (v := ?_) ?_ ?_
    rotate_left
    · intro w'; go_simp; (try with_reducible rfl)
    (try simp only [Act.put, List.setIfInBounds_toArray, List.set_cons_zero, List.set_cons_succ])
    refine takeL 4 HS0 rfl (by kernel_rfl) (by kernel_rfl) (by kernel_rfl) (by kernel_rfl) (by kernel_rfl) (fun _ _ _ h => h) rfl (v := ?_) ?_ ?_
    rotate_left
    · intro w' hw'; refine Eq.trans (exec_buildL 80 [(0, .tmp 40), (1, .tmp 41), (2, .tmp 43)] rfl [(0, u32 u), (1, .agg p.cells.toArray), (2, .slice A5 64 (c - 52))] rfl _ (HLB.out A5 64 (c - 52))) ?_; with_reducible rfl
    (try simp only [Act.put, List.setIfInBounds_toArray, List.set_cons_zero, List.set_cons_succ])
    refine stepL 5 rfl (by kernel_rfl) rfl (fun K hK => ?_)
    refine oAlloc H rfl ?_; clear H; intro b10 w10 hb H; replace HS0 := below_two HS0 HS0.size hb; clear hb; refine hK.out _ _ (fun _ _ => HS0) ?_; clear K hK
    (try simp only [Act.put, List.setIfInBounds_toArray, List.set_cons_zero, List.set_cons_succ])
    refine stepL 6 rfl (by kernel_rfl) rfl (fun K hK => ?_)
    (refine oStore H _ _ rfl rfl rfl ⟨by rfl, HLL.out _⟩ (HLO.out _ _ _) ?_; clear H; intro w' H; (try dsimp only at H); refine hK.out _ _ (fun h => by cases h) ?_; clear K hK HS0)
    (try simp only [Act.put, List.setIfInBounds_toArray, List.set_cons_zero, List.set_cons_succ])
    refine doneL (by kernel_rfl) ?_
    all_goals
      go_wp2_with (first
        | ((with_reducible refine gDst 46 ?_); refine aLoad H _ rfl rfl (part_all (HLL.out _)) (HLL.out _) rfl ?_)
        | ((with_reducible refine gDst 60 ?_); refine aLoad H _ rfl rfl (part_all (HLL.out _)) (HLL.out _) rfl ?_)
        | ((with_reducible refine gSto (.tmp 2) (.tmp 60) ?_); refine aStore H _ _ rfl rfl rfl ⟨by rfl, HLL.out _⟩ (HLO.out _ _ _) rfl ?_; clear H; intro w' H; (try dsimp only at H))
        | (go_at_call 37; (with_reducible refine (HRE.out _ ((H.old RO).rd _)).mono ?_); rintro e w' ⟨A47, c47, rfl, ho, hb⟩; replace H := H.pushRow hb ho; clear hb ho)
        | ((with_reducible refine gDst 2 ?_); refine aAlloc H rfl rfl ?_; clear H; intro b2 w2 H)
        | ((with_reducible refine gDst 4 ?_); refine aAlloc H rfl rfl ?_; clear H; intro b4 w4 H)
        | ((with_reducible refine gDst 8 ?_); refine aAlloc H rfl rfl ?_; clear H; intro b8 w8 H)
        | ((with_reducible refine gLoad ?_); first | (refine aLoad H _ rfl rfl (by first | exact part_all (by first | rfl | simp []) | (simp only [List.drop_succ_cons, List.drop_zero, List.take_succ_cons, List.take_zero]; rfl) | (simp [List.drop_append, List.take_append]; rfl)) (by first | rfl | simp []) rfl ?_) | (refine aLoadR RO H _ rfl rfl (by first | exact part_all (by first | rfl | simp []) | (simp only [List.drop_succ_cons, List.drop_zero, List.take_succ_cons, List.take_zero]; rfl) | (simp [List.drop_append, List.take_append]; rfl)) (by first | rfl | simp []) rfl ?_))
        | ((with_reducible refine gBuild ?_); refine aZero rfl rfl ?_)
        | ((with_reducible refine gStore ?_); (first | (refine aStore H _ _ rfl rfl rfl (by (first | exact ⟨rfl, rfl⟩ | exact ⟨by decide, rfl⟩ | (simp []; done) | (constructor <;> simp [] <;> omega))) (by first | rfl | simp [List.all_append, one_all]) rfl ?_) | (refine aLay H _ _ rfl rfl rfl (by (first | exact ⟨rfl, rfl⟩ | exact ⟨by decide, rfl⟩ | (simp []; done) | (constructor <;> simp [] <;> omega))) (by first | rfl | simp [List.all_append, one_all]) (by simp only [lay, List.take_succ_cons, List.take_zero, List.drop_succ_cons, List.drop_zero, List.nil_append, List.cons_append, List.length_cons, List.length_nil, Nat.zero_add, Nat.reduceAdd]; rfl) rfl ?_)); clear H; intro w' H; try dsimp only at H)
        | ((with_reducible refine gConv ?_); first | (refine aStr H _ rfl rfl rfl ?_) | (refine aStrR RO H _ rfl rfl rfl ?_)))
    refine bodyPost_ret (res_cell_tmp rfl _ H.hold rfl (HLL.out _)) rfl ?_
    exact ⟨⟨A5, c - 52, rfl, (H.old RO).rd _⟩, H.below⟩
end Go.Proofs.YticfcelbnkiopaaDoor

namespace Go.Proofs.YticfcelbnkiopaaDoor
set_option maxRecDepth 100000
open Go.RowKit
set_option linter.unusedSimpArgs false
set_option linter.unusedVariables false

/-- The hash of two hashes. -/
theorem All_two {b4 b5 : Nat} {t4 t5 : TypeId} {x1 x2 : List UInt8} (l1 : x1.length = 32) (l2 : x2.length = 32) (W : World) (h4 : VA W b4 t4 (x1.map cb)) (h5 : VA W b5 t5 (x2.map cb)) :
    Calls Tryd.prog 75 #[.slice (some ⟨W.heap.size, 0, none⟩) 2 2] (W.alloc (.cells #[.slice (some ⟨b4, 0, none⟩) 32 32, .slice (some ⟨b5, 0, none⟩) 32 32] 22)) fun e w' => e = .returned (.agg ((shaL (x1 ++ x2)).map cb).toArray) ∧ Below W.heap.size W w' := by
  have hr := RR.lit SVT W [(some ⟨b4, 0, none⟩, 32, 32), (some ⟨b5, 0, none⟩, 32, 32)] #[.slice (some ⟨b4, 0, none⟩) 32 32, .slice (some ⟨b5, 0, none⟩) 32 32] rfl (by simp)
  have hb := alloc_belowAt W (.cells #[.slice (some ⟨b4, 0, none⟩) 32 32, .slice (some ⟨b5, 0, none⟩) 32 32] 22)
  have hL : LB (W.alloc (.cells #[.slice (some ⟨b4, 0, none⟩) 32 32, .slice (some ⟨b5, 0, none⟩) 32 32] 22)) [(some ⟨b4, 0, none⟩, 32, 32), (some ⟨b5, 0, none⟩, 32, 32)] [x1, x2] :=
    ⟨rfl, fun i hi => by
      rcases i with _ | _ | i
      · exact (h4.rbn 32 l1 (by omega)).below hb
      · exact (h5.rbn 32 l2 (by omega)).below hb
      · exact absurd hi (by simp)⟩
  have h := All_any _ _ [x1, x2] _ hr hL (by simp [l1, l2])
  rw [show [x1, x2].flatten = x1 ++ x2 by simp] at h
  exact h.mono fun e w' ⟨h1, h2⟩ => ⟨h1, below_two hb hb.size h2⟩
end Go.Proofs.YticfcelbnkiopaaDoor

namespace Go.Proofs.YticfcelbnkiopaaDoor
set_option maxRecDepth 100000
open Go.RowKit
set_option linter.unusedSimpArgs false
set_option linter.unusedVariables false

section
variable {ops : Array Oper} {rest : List Oper} {o : Oper} {a : Act} {Q : Exit → Act → World → Prop} {F : Nat → Prop} {w0 w : World} {L : List Own}
/-- make([]byte, n). -/
theorem exec_makeB {ρ : Operand → Value} (n : Nat) (hn : n ≤ 1000000) (l c : Operand) (ho : o.op = .makeSlice 22 l c) (hl : ρ l = .int .i64 (n : Int)) (hc : ρ c = .int .i64 (n : Int)) :
    (execOp ρ o).run Tryd.prog w = .ok (.value (.slice (some ⟨w.heap.size, 0, none⟩) n n)) (w.alloc (.cells ((List.replicate n (0 : UInt8)).map cb).toArray 5)) := by
  obtain ⟨i0, hi, hz0, hz1, hz2⟩ := info_parts Tryd.info_u8
  have h := run_make (P := Tryd.prog) w 22 5 i0 (.int .u8 0) Tryd.underlying22 hi hz0 .i64 .i64 (n : Int) (n : Int) (by omega) (by omega) (by rw [hz2]; omega) (by omega)
  have e1 : (madeCells #[.int .u8 0] n) = ((List.replicate n (0 : UInt8)).map cb).toArray := by
    apply Array.toList_inj.mp
    rw [toList_madeCells_one]
    simp [cb]
  have e2 : ((n : Int)).toNat = n := by omega
  rw [hz1, Nat.mul_one, e2] at h
  unfold execOp
  simp only [ho, hl, hc, h, Sem.run_bind, Sem.run_pure, Result.andThen_ok]
  rw [show (Value.int IntKind.u8 0).cells = #[.int .u8 0] from rfl, e1]
theorem madeB (H : SH F w0 w L) (n : Nat) (hn : n ≤ 1000000) : SH F w0 (w.alloc (.cells ((List.replicate n (0 : UInt8)).map cb).toArray 5)) (.row B8 (.slice (some ⟨w.heap.size, 0, none⟩) n n) (List.replicate n 0) :: L) :=
  H.pushRow (alloc_belowAt w _) (by
    have h := OB.ofVA (base := w.heap.size) (xs := List.replicate n 0) (VA.new w ((List.replicate n (0 : UInt8)).map cb) 5) (Nat.le_refl _) (by simp; omega)
    rw [List.length_replicate] at h
    exact h)
theorem aMakeB (n : Nat) (hn : n ≤ 1000000) (H : SH F w0 w L) (l c : Operand) (ho : o.op = .makeSlice 22 l c) (hl : a.eval l = .int .i64 (n : Int)) (hc : a.eval c = .int .i64 (n : Int)) (hw : Region.wanted o (yielded ops a.tmps) = true)
    (h : ∀ b w', SH F w0 w' (.row B8 (.slice (some ⟨b, 0, none⟩) n n) (List.replicate n 0) :: L) → wpList Tryd.prog ops Q rest (a.put o.dst (.slice (some ⟨b, 0, none⟩) n n)) w') : wpList Tryd.prog ops Q (o :: rest) a w :=
  stepV (exec_makeB n hn l c ho hl hc) hw (h _ _ (madeB H n hn))
end
/-- A disk, nothing waiting, no fuse. -/
def dC (ad : Addr) (N : Nat) : List Value := [.slice (some ad) N N, .slice none 0 0, .int .i64 (-1), .bool false]
set_option maxHeartbeats 1600000 in
theorem diskNew_any (n : Nat) (h1 : 16 ≤ n) (h2 : n ≤ 512) (w : World) : Calls Tryd.prog 43 #[.int .i64 (n : Int)] w fun e w' => ∃ bd bo, e = .returned (.tuple #[.pointer (some ⟨bd, 0, none⟩), .int .i64 0]) ∧ SH Nil w w' [.blk bd 142 (dC ⟨bo, 0, none⟩ (n * 256)), .row B8 (.slice (some ⟨bo, 0, none⟩) (n * 256) (n * 256)) (List.replicate (n * 256) 0)] := by
  have H := SH.start Nil w
  have i1 : ((n : Int) < 16) = False := eq_false (by omega)
  have i2 : ((512 : Int) < (n : Int)) = False := eq_false (by omega)
  obtain ⟨N, hN⟩ : ∃ N, N = n * 256 := ⟨_, rfl⟩
  have hm : (n : Int) * 256 = (N : Int) := by omega
  have hw : IntKind.i64.wrap (N : Int) = (N : Int) := i64w _ (by omega) (by omega)
  rw [← hN]
  have hNl : N ≤ 1000000 := by omega
  have HN := Lib.hid hN
  clear hN
  go_enter Tryd.func43, Tryd.ntmps43
  go_wp2_with (first
    | ((with_reducible refine gDst 12 ?_); refine aMakeB N hNl H _ _ rfl rfl rfl rfl ?_; clear H; intro b12 w12 H; (try dsimp only at H))
    | ((with_reducible refine gDst 13 ?_); refine aBuildC _ _ rfl (dC ⟨b12, 0, none⟩ N) (by rfl) rfl ?_)
    | ((with_reducible refine gDst 14 ?_); refine aBox H _ rfl rfl rfl ?_; clear H; intro b14 w14 H))
  go_ret2
  exact ⟨_, _, rfl, H⟩
set_option maxHeartbeats 1600000 in
theorem diskLen_any (bd : Nat) (ad : Addr) (n N : Nat) (hN : N = n * 256) (hn : n ≤ 512) (w : World) (hv : VA w bd 142 (dC ad N)) : Calls Tryd.prog 116 #[.pointer (some ⟨bd, 0, none⟩)] w fun e w' => e = .returned (.int .i64 (n : Int)) ∧ w = w' := by
  have hc := hv.cell 0
  have hq : (N : Int).tdiv 256 = (n : Int) := by rw [Int.tdiv_eq_ediv_of_nonneg (by omega)]; omega
  have hNb : (N : Int) ≤ 131072 := by omega
  have HV := Lib.hid hv
  have HN := Lib.hid hN
  clear hv hN
  change _ = some (Value.slice (some ad) N N) at hc
  go_enter Tryd.func116, Tryd.ntmps116
  go_wp2_with (first
    | ((with_reducible refine gDst 8 ?_); refine aLoadC _ rfl rfl hc rfl ?_))
  go_ret
  exact ⟨rfl, rfl⟩
set_option maxHeartbeats 1600000 in
theorem diskHas_any (bd : Nat) (ad : Addr) (n N : Nat) (hN : N = n * 256) (hn : n ≤ 512) (i : Nat) (hi : i < n) (w : World) (hv : VA w bd 142 (dC ad N)) : Calls Tryd.prog 72 #[.pointer (some ⟨bd, 0, none⟩), .int .i64 (i : Int)] w fun e w' => e = .returned (.bool true) ∧ w = w' := by
  have hii : (i : Int) < (n : Int) := by omega
  have HC := Lib.hid (diskLen_any bd ad n N hN hn w hv)
  clear hv hN
  go_enter Tryd.func72, Tryd.ntmps72
  go_wp2_with (first
    | (go_at_call 116; refine HC.out.mono ?_; rintro e w' ⟨rfl, rfl⟩))
  go_ret
  exact ⟨rfl, rfl⟩
set_option maxHeartbeats 1600000 in
theorem diskSector_any (bd : Nat) (ad : Addr) (n N : Nat) (hN : N = n * 256) (hn : n ≤ 512) (i : Nat) (hi : i < n) (on : List UInt8) (hon : on.length = N) (w : World) (hv : VA w bd 142 (dC ad N)) (hr : RB w (.slice (some ad) N N) on) :
    Calls Tryd.prog 71 #[.pointer (some ⟨bd, 0, none⟩), .int .i64 (i : Int)] w fun e w' => ∃ A c, e = .returned (.slice A 256 c) ∧ RB w (.slice A 256 c) ((on.drop (i * 256)).take 256) ∧ w = w' := by
  have hc := hv.cell 0
  change _ = some (Value.slice (some ad) N N) at hc
  obtain ⟨u, hu⟩ : ∃ u, u = i * 256 := ⟨_, rfl⟩
  obtain ⟨e, he⟩ : ∃ e, e = u + 256 := ⟨_, rfl⟩
  have heN : e ≤ N := by omega
  obtain ⟨A1, s1, -, -, s4⟩ := cutB (some ad) N on u e (by omega) (by rw [hon]; exact heN) (by omega)
  rw [hon] at s1 s4
  have heu : e - u = 256 := by omega
  have hcut : (on.take e).drop u = (on.drop (i * 256)).take 256 := by rw [List.drop_take, heu, hu]
  rw [heu] at s1 s4
  rw [hcut] at s4
  have S4 := Lib.hid (s4 w hr)
  have m1 : (i : Int) * 256 = (u : Int) := by omega
  have m2 : ((i : Int) + 1) * 256 = (e : Int) := by omega
  have k1 : IntKind.i64.wrap (u : Int) = (u : Int) := i64w _ (by omega) (by omega)
  have k2 : IntKind.i64.wrap (e : Int) = (e : Int) := i64w _ (by omega) (by omega)
  have hib : (i : Int) ≤ 512 := by omega
  clear hv hr s4 hcut heu hu he heN hN hon
  go_enter Tryd.func71, Tryd.ntmps71
  go_wp2_with (first
    | ((with_reducible refine gDst 8 ?_); refine aLoadC _ rfl rfl hc rfl ?_))
  go_ret
  exact ⟨_, _, rfl, S4.out, rfl⟩
end Go.Proofs.YticfcelbnkiopaaDoor

namespace Go.Proofs.YticfcelbnkiopaaDoor
set_option maxRecDepth 100000
open Go.RowKit
set_option linter.unusedSimpArgs false
set_option linter.unusedVariables false

theorem rangeFunc_none {P : Program} {g : Operand} {gf : Nat} {recv : Array Value} {ps : Array Tmp} {assign body : Code} {Q : Exit → Act → World → Prop} {a : Act} {w : World} (hg : a.eval g = .func (.func gf) recv #[])
    (eg : ∀ args w, (callFunc gf args).run P w = .ok (.enter gf args) w)
    (hc : ∀ (l : Nat) (W : World), Below w.heap.size w W → Calls P gf (recv ++ #[.func (.yield l) #[] #[]]) W fun e W' => (∃ v, e = .returned v) ∧ W = W')
    (hd : ∀ (D : Nat) (W : World), w.heap.size ≤ D → Below w.heap.size w W → W.heap[D]? = some (.deferred (some [])) → Q .normal { a with defers := { target := .collected D, args := #[] } :: a.defers } W) :
    (Code.rangeFunc g ps assign body).wp P Q a w := by
  refine (wpIn_wide (n := 1)).1 (wpIn_rangeFunc ?_)
  intro fn hfn
  obtain ⟨rec, hrec⟩ : ∃ rec : LoopState → Option Code → Loop, rec = fun st pe => { state := st, pending := pe, fn, tmps := a.tmps, params := ps, assign, body, defers := w.heap.size } := ⟨_, rfl⟩
  obtain ⟨W1, hW1⟩ : ∃ W1, (w.alloc (.deferred (some []))).alloc (.loop (rec .ready none)) = W1 := ⟨_, rfl⟩
  have hb1 : Below w.heap.size w W1 := by rw [← hW1]; exact ((Below.refl _ w).alloc (Nat.le_refl _) _).alloc (by simp) _
  have hL1 : W1.heap[w.heap.size + 1]? = some (.loop (rec .ready none)) := by
    rw [← hW1]; have := World.alloc_heap_new (w.alloc (.deferred (some []))) (.loop (rec .ready none)); rwa [World.size_alloc] at this
  have hK1 : W1.heap[w.heap.size]? = some (.deferred (some [])) := by
    rw [← hW1]; exact (Below.heap_alloc _ _ _ (by simp)).trans (World.alloc_heap_new w _)
  refine ⟨w.heap.size + 1, [{ target := .collected w.heap.size, args := #[] }], W1, { target := .fn (.func gf) #[], args := recv ++ #[.func (.yield (w.heap.size + 1)) #[] #[]] }, W1, gf,
    recv ++ #[.func (.yield (w.heap.size + 1)) #[] #[]], W1, ?_, ?_, ?_, ?_, fun _ => Nat.le_refl _, ?_⟩
  · rw [← hW1, hrec]; exact run_enterLoop_outer _ _ _ _ _
  · simp only [resolve, hg]
    simp [go_sem]
  · intro f' hf'; trivial
  · simp [invoke, go_sem, eg]
  · refine (callsIn_wide.2 (hc _ W1 hb1)).mono ?_
    rintro e W2 ⟨⟨v, rfl⟩, rfl⟩
    refine ⟨none, _, by have := run_endLoop (P := P) hL1 (by rw [hrec]; simp); rw [hrec] at this; exact this, hd _ _ (Nat.le_refl _) ?_ ((World.putObj_heap_other (by omega)).trans hK1)⟩
    exact hb1.trans (belowK_b (w := w) (Nat.le_refl _) _ _ _ _ (by omega) hL1 rfl rfl)
/-- An object that is no row of cells. -/
def Own.obj (D : Nat) (o : Obj) : Own where
  foot k := k = D
  holds w := w.heap[D]? = some o
  lt w k h e := by subst e; exact (Array.getElem?_eq_some_iff.1 h).1
  keep w w' h _ hk := (hk D rfl).trans h
theorem SH.setObj {F : Nat → Prop} {w0 w : World} {L : List Own} (h : SH F w0 w L) (i : Nat) {D : Nat} {o : Obj} (hi : L[i]? = some (.obj D o)) (o' : Obj) : SH F w0 (w.putObj D o') (L.set i (.obj D o')) := by
  have hl : w.heap[D]? = some o := h.at_ i hi
  refine h.change i hi (o' := .obj D o') ?_ (World.putObj_heap_same (Array.getElem?_eq_some_iff.1 hl).1) (fun k hk => .inl hk)
  have := chg_grown (grownBy_putObj' w D o')
  exact ⟨this.os, this.tape, this.output, this.size, fun k hk hn => this.block k hk (fun e => hn (by injection e with e; exact e.symm))⟩
/-- A function whose body holds a range over a function. -/
theorem calls_marks {P : Program} {f : FuncId} {fn : Func} {c : Code} {args : Array Value} {w : World} {R : Ending → World → Prop} (hf : P.funcs[f]? = some fn) (hb : fn.body = some c)
    (h : c.wp P (bodyPostM Fence.wide 1 P fn R) { tmps := args ++ Array.replicate (fn.ntmps - args.size) undef, defers := [] } w) : Calls P f args w R :=
  callsIn_wide.1 (callsIn_of_wp_marks (n := 1) hf hb trivial (wpIn_wide.2 h) rfl)
set_option maxHeartbeats 1600000 in
theorem diskNewest_none (bd : Nat) (ad : Addr) (N l : Nat) (w : World) (hv : VA w bd 142 (dC ad N)) : Calls Tryd.prog 133 (#[.pointer (some ⟨bd, 0, none⟩)] ++ #[.func (.yield l) #[] #[]]) w fun e w' => (∃ v, e = .returned v) ∧ w = w' := by
  have hc := hv.cell 1
  change _ = some (Value.slice none 0 0) at hc
  clear hv
  show Calls Tryd.prog 133 #[.pointer (some ⟨bd, 0, none⟩), .func (.yield l) #[] #[]] w _
  go_enter Tryd.func133, Tryd.ntmps133
  go_wp2_with (first
    | ((with_reducible refine gDst 8 ?_); refine aLoadC _ rfl rfl hc rfl ?_))
  go_loopw [4] (fun v4 wr => v4 = .int .i64 (-1) ∧ w = wr) (fun _ _ => 0)
  case atStart => exact ⟨rfl, rfl⟩
  case round =>
    obtain ⟨rfl, rfl⟩ := hrel
    go_wp2
    go_end0
    exact ⟨⟨_, rfl⟩, rfl⟩
theorem res_cells2 {P : Program} {fn : Func} {d e : Tmp} {t1 t2 : TypeId} (hf : fn.results = #[.cell d t1, .cell e t2]) (tmps : Array Value) {w : World} {a1 a2 : Addr} {v1 v2 z1 z2 : Value} (h1 : tmps.getD d undef = .pointer (some a1)) (h2 : tmps.getD e undef = .pointer (some a2)) [TS P t1 z1] [TS P t2 z2] (c1 : w.cell? a1 = some v1) (c2 : w.cell? a2 = some v2) :
    (results fn tmps).run P w = .ok (.tuple #[v1, v2]) w := by
  have e1 : tmps[d]?.getD undef = .pointer (some a1) := by rw [← h1]; simp
  have e2 : tmps[e]?.getD undef = .pointer (some a2) := by rw [← h2]; simp
  simp [results, hf, e1, e2, asAddr, run_loadVar1 (P := P) (t := t1) c1, run_loadVar1 (P := P) (t := t2) c2]
set_option maxHeartbeats 1600000 in
theorem diskRead_none (bd : Nat) (ad : Addr) (n N : Nat) (hN : N = n * 256) (hn : n ≤ 512) (i : Nat) (hi : i < n) (on : List UInt8) (hon : on.length = N) (w : World) (hv : VA w bd 142 (dC ad N)) (hr : RB w (.slice (some ad) N N) on) :
    Calls Tryd.prog 101 #[.pointer (some ⟨bd, 0, none⟩), .int .i64 (i : Int)] w fun e w' => ∃ v, e = .returned (.tuple #[v, .int .i64 0]) ∧ OB w' w.heap.size v ((on.drop (i * 256)).take 256) ∧ Below w.heap.size w w' := by
  have H := SH.start Nil w
  have c3 := hv.cell 3
  change _ = some (Value.bool false) at c3
  have HV := Lib.hid hv
  have HR := Lib.hid hr
  have HH := Lib.hid (fun W (k : VA W bd 142 (dC ad N)) => diskHas_any bd ad n N hN hn i hi W k)
  have hs := (fun W (k : VA W bd 142 (dC ad N)) (kr : RB W (.slice (some ad) N N) on) => diskSector_any bd ad n N hN hn i hi on hon W k kr)
  obtain ⟨X, hX⟩ : ∃ X, X = (on.drop (i * 256)).take 256 := ⟨_, rfl⟩
  have hXl : X.length = 256 := by rw [hX, List.length_take, List.length_drop, hon, hN]; omega
  rw [← hX] at hs ⊢
  have HS := Lib.hid hs
  have HXL := Lib.hid hXl
  clear hv hr hs hX hXl
  refine calls_marks Tryd.func101 rfl ?_
  simp only [Tryd.ntmps101, List.size_toArray, List.length_cons, List.length_nil, Nat.reduceAdd, Nat.reduceSub, Array.replicate_succ, Array.replicate_zero, List.push_toArray, List.append_toArray, List.nil_append, List.cons_append]
  go_wp2_with (first
    | ((with_reducible refine gDst 14 ?_); refine aLoadC _ rfl rfl (cell_below H.below c3) rfl ?_)
    | (go_at_call 72; refine (HH.out _ (HV.out.below H.below)).mono ?_; rintro e w' ⟨rfl, rfl⟩)
    | ((with_reducible refine gDst 3 ?_); refine aBox1 H _ rfl (by first | exact (rfl : _ = Value.int _ _) | exact (rfl : _ = Value.bool _) | exact (rfl : _ = Value.slice _ _ _) | exact (rfl : _ = Value.string _) | exact (rfl : _ = Value.pointer _) | exact (rfl : _ = Value.func _ _ _) | rfl) (by rfl) rfl ?_; clear H; intro b3 w3 H)
    | ((with_reducible refine gDst 4 ?_); refine aAlloc1 H rfl rfl ?_; clear H; intro b4 w4 H)
    | ((with_reducible refine gDst 5 ?_); refine aAlloc1 H rfl rfl ?_; clear H; intro b5 w5 H)
    | ((with_reducible refine gDst 6 ?_); refine aAlloc H rfl rfl ?_; clear H; intro b6 w6 H)
    | ((with_reducible refine gLoad ?_); first | (refine aLoad1 H _ rfl rfl (by first | exact (rfl : _ = some (Value.int _ _)) | exact (rfl : _ = some (Value.slice _ _ _)) | exact (rfl : _ = some (Value.bool _)) | exact (rfl : _ = some (Value.string _)) | exact (rfl : _ = some (Value.pointer _)) | rfl | (simp [List.getElem?_append]; done)) rfl ?_) | (refine aLoadC _ rfl rfl (by assumption) rfl ?_))
    | ((with_reducible refine gStore ?_); (first | (refine aCell H _ _ rfl rfl (by first | exact (rfl : _ = Value.int _ _) | exact (rfl : _ = Value.bool _) | exact (rfl : _ = Value.slice _ _ _) | exact (rfl : _ = Value.string _) | exact (rfl : _ = Value.pointer _) | exact (rfl : _ = Value.func _ _ _) | rfl) (by rfl) (by rfl) (by first | exact of_decide_eq_true rfl | (simp []; done) | (simp []; omega)) (by first | (simp only [List.set_cons_zero, List.set_cons_succ]; rfl) | (simp [List.set_append]; rfl)) rfl ?_) | (refine aStore H _ _ rfl rfl rfl (by (first | exact ⟨rfl, rfl⟩ | exact ⟨by decide, rfl⟩ | (simp []; done) | (constructor <;> simp [] <;> omega))) (by first | rfl | simp [List.all_append, one_all]) rfl ?_) | (refine aLay H _ _ rfl rfl rfl (by (first | exact ⟨rfl, rfl⟩ | exact ⟨by decide, rfl⟩ | (simp []; done) | (constructor <;> simp [] <;> omega))) (by first | rfl | simp [List.all_append, one_all]) (by simp only [lay, List.take_succ_cons, List.take_zero, List.drop_succ_cons, List.drop_zero, List.nil_append, List.cons_append, List.length_cons, List.length_nil, Nat.zero_add, Nat.reduceAdd]; rfl) rfl ?_)); clear H; intro w' H; try dsimp only at H))
  refine rangeFunc_none (gf := 133) (recv := #[.pointer (some ⟨bd, 0, none⟩)]) rfl (fun args W => Go.MuLone.run_callFunc_enter Tryd.func133 (by kernel_rfl) rfl args W) (fun l W hb => diskNewest_none bd ad N l W (HV.out.below (below_two H.below H.below.size hb))) ?_
  intro D W hD hb hK
  replace H := H.push hb (.obj D (.deferred (some []))) hK (fun k hk => by have e : k = D := hk; omega)
  clear hK
  go_wp2_with (first
    | (go_at_call 71; refine (HS.out _ (HV.out.below H.below) (HR.out.below H.below)).mono ?_; rintro e w' ⟨As, cs, rfl, hrs, rfl⟩)
    | (go_at_call 74; refine (Clone_any _ _ _ hrs (by rw [HXL.out]; decide)).mono ?_; rintro e w' ⟨v2, rfl, ho, hb2⟩; replace H := H.pushRow hb2 ho; obtain ⟨A2, c2, rfl, -⟩ := ho.reads.len; clear hb2 ho)
    | ((with_reducible refine gDst 3 ?_); refine aBox1 H _ rfl (by first | exact (rfl : _ = Value.int _ _) | exact (rfl : _ = Value.bool _) | exact (rfl : _ = Value.slice _ _ _) | exact (rfl : _ = Value.string _) | exact (rfl : _ = Value.pointer _) | exact (rfl : _ = Value.func _ _ _) | rfl) (by rfl) rfl ?_; clear H; intro b3 w3 H)
    | ((with_reducible refine gDst 4 ?_); refine aAlloc1 H rfl rfl ?_; clear H; intro b4 w4 H)
    | ((with_reducible refine gDst 5 ?_); refine aAlloc1 H rfl rfl ?_; clear H; intro b5 w5 H)
    | ((with_reducible refine gDst 6 ?_); refine aAlloc H rfl rfl ?_; clear H; intro b6 w6 H)
    | ((with_reducible refine gLoad ?_); first | (refine aLoad1 H _ rfl rfl (by first | exact (rfl : _ = some (Value.int _ _)) | exact (rfl : _ = some (Value.slice _ _ _)) | exact (rfl : _ = some (Value.bool _)) | exact (rfl : _ = some (Value.string _)) | exact (rfl : _ = some (Value.pointer _)) | rfl | (simp [List.getElem?_append]; done)) rfl ?_) | (refine aLoadC _ rfl rfl (by assumption) rfl ?_))
    | ((with_reducible refine gStore ?_); (first | (refine aCell H _ _ rfl rfl (by first | exact (rfl : _ = Value.int _ _) | exact (rfl : _ = Value.bool _) | exact (rfl : _ = Value.slice _ _ _) | exact (rfl : _ = Value.string _) | exact (rfl : _ = Value.pointer _) | exact (rfl : _ = Value.func _ _ _) | rfl) (by rfl) (by rfl) (by first | exact of_decide_eq_true rfl | (simp []; done) | (simp []; omega)) (by first | (simp only [List.set_cons_zero, List.set_cons_succ]; rfl) | (simp [List.set_append]; rfl)) rfl ?_) | (refine aStore H _ _ rfl rfl rfl (by (first | exact ⟨rfl, rfl⟩ | exact ⟨by decide, rfl⟩ | (simp []; done) | (constructor <;> simp [] <;> omega))) (by first | rfl | simp [List.all_append, one_all]) rfl ?_) | (refine aLay H _ _ rfl rfl rfl (by (first | exact ⟨rfl, rfl⟩ | exact ⟨by decide, rfl⟩ | (simp []; done) | (constructor <;> simp [] <;> omega))) (by first | rfl | simp [List.all_append, one_all]) (by simp only [lay, List.take_succ_cons, List.take_zero, List.drop_succ_cons, List.drop_zero, List.nil_append, List.cons_append, List.length_cons, List.length_nil, Nat.zero_add, Nat.reduceAdd]; rfl) rfl ?_)); clear H; intro w' H; try dsimp only at H))
  refine ⟨by simp, .inl ⟨D, _, rfl, run_takeDeferred (H.at_ 1 rfl), ?_⟩⟩
  replace H := H.setObj 1 rfl (.deferred none)
  simp only [List.set_cons_succ, List.set_cons_zero] at H
  refine ⟨_, res_cells2 rfl _ rfl rfl ((H.hold.va (b := b4)).cell 0) ((H.hold.va (b := b5)).cell 0), ?_⟩
  exact ⟨_, rfl, H.ow _, H.below⟩
end Go.Proofs.YticfcelbnkiopaaDoor

namespace Go.Proofs.YticfcelbnkiopaaDoor
set_option maxRecDepth 100000
open Go.RowKit
set_option linter.unusedSimpArgs false
set_option linter.unusedVariables false

/-- All blocks of some things. -/
def feet (D : List Own) : Nat → Prop := fun k => ∃ o ∈ D, o.foot k
theorem SH.subL {F : Nat → Prop} {w0 w : World} {D L : List Own} (h : SH F w0 w (D ++ L)) : SH (feet D) w w D :=
  ⟨Chg.refl _ w, fun o ho => h.holds o (List.mem_append_left _ ho), fun o ho b hb => .inl ⟨o, ho, hb⟩, (List.pairwise_append.1 h.apart).1⟩
/-- A callee that was handed the things of D. -/
theorem SH.viaL {F : Nat → Prop} {w0 w w' : World} {D D' L : List Own} (h : SH F w0 w (D ++ L)) (k : SH (feet D) w w' D') : SH F w0 w' (D' ++ L) := by
  have hap := List.pairwise_append.1 h.apart
  have hD : ∀ b, feet D b → F b ∨ w0.heap.size ≤ b := fun b ⟨o, ho, hb⟩ => h.foot o (List.mem_append_left _ ho) b hb
  have hL : ∀ o ∈ L, ∀ b, o.foot b → b < w.heap.size ∧ ¬ feet D b := fun o ho b hb => ⟨o.lt w b (h.holds o (List.mem_append_right _ ho)) hb, fun ⟨o', ho', hb'⟩ => hap.2.2 o' ho' o ho b hb' hb⟩
  refine ⟨⟨k.chg.os.trans h.chg.os, k.chg.tape.trans h.chg.tape, k.chg.output.trans h.chg.output, Nat.le_trans h.chg.size k.chg.size, fun i hi hn => (k.chg.block i (Nat.lt_of_lt_of_le hi h.chg.size) fun hf => ?_).trans (h.chg.block i hi hn)⟩, fun o ho => ?_, fun o ho b hb => ?_, List.pairwise_append.2 ⟨k.apart, hap.2.1, fun o ho o' ho' b hb hb' => ?_⟩⟩
  · rcases hD i hf with h1 | h1
    · exact hn h1
    · omega
  · rcases List.mem_append.mp ho with ho | ho
    · exact k.holds o ho
    · exact o.keep w w' (h.holds o (List.mem_append_right _ ho)) k.chg.size fun b hb => k.chg.block b (hL o ho b hb).1 (hL o ho b hb).2
  · rcases List.mem_append.mp ho with ho | ho
    · rcases k.foot o ho b hb with h1 | h1
      · exact hD b h1
      · exact .inr (Nat.le_trans h.chg.size h1)
    · exact h.foot o (List.mem_append_right _ ho) b hb
  · have h2 := hL o' ho' b hb'
    rcases k.foot o ho b hb with h1 | h1
    · exact h2.2 h1
    · omega
/-- A write that waits: where, and its bytes' slice. -/
abbrev WV := Int × SVV
def WT : Ty WV := ⟨144, 2, 32, .agg #[.int .i64 0, .slice none 0 0], fun x => [.int .i64 x.1, x.2.val], fun _ => rfl, fun x u hu => by rcases List.mem_cons.mp hu with rfl | hu <;> first | rfl | (rw [List.mem_singleton.mp hu]; rfl), by decide, by decide⟩
abbrev wv0 : WV := (0, sv0)
/-- A disk: its sectors' bytes, its waiting writes, its fuse, its power. -/
structure DS where
  on : List UInt8
  ws : List (Nat × List UInt8)
  lets : Int
  off : Bool
def DS.pairs (st : DS) (ss : List SVV) : List WV := (st.ws.map fun x => (x.1 : Int)).zip ss
def diskL (bd bo : Nat) (vw : Value) (ss : List SVV) (st : DS) : List Own :=
  [.blk bd 142 [.slice (some ⟨bo, 0, none⟩) st.on.length st.on.length, vw, .int .i64 st.lets, .bool st.off], .blk bo 5 (st.on.map cb), .row WT vw (st.pairs ss), .rdAll ss (st.ws.map (·.2))]
/-- What is read of a sector. -/
def DS.sec (st : DS) (i : Nat) : List UInt8 := (st.on.drop (i * 256)).take 256
/-- The newest of the first k waiting writes of a sector, or what is on the disk. -/
def DS.readK (st : DS) (i : Nat) : Nat → List UInt8
  | 0 => st.sec i
  | k + 1 => if (st.ws.getD k (0, [])).1 = i then (st.ws.getD k (0, [])).2 else st.readK i k
def DS.read (st : DS) (i : Nat) : List UInt8 := st.readK i st.ws.length
end Go.Proofs.YticfcelbnkiopaaDoor

namespace Go.Proofs.YticfcelbnkiopaaDoor
set_option maxRecDepth 100000
open Go.RowKit Go.Shelf
set_option linter.unusedSimpArgs false
set_option linter.unusedVariables false
attribute [local go_sem] Oper.semAt_some

theorem run_loadW {w : World} {ad : Addr} {x : WV} (h : ∀ (j : Nat) (v : Value), (WT.enc x)[j]? = some v → w.cell? (ad.add j) = some v) :
    (Instr.loadAt 144 (.pointer (some ad))).run Tryd.prog w = .ok (.agg (WT.enc x).toArray) w :=
  run_loadAt_any w ad 144 (WT.enc x) _ h Tryd.underlying144 rfl (by kernel_rfl)
set_option maxHeartbeats 1600000 in
theorem newest_any (l bd m cp : Nat) (A : Option Addr) (ws : List WV) (hm : ws.length = m) (J Jx : Nat → World → Prop)
    (hread : ∀ k W, J k W → W.cell? ⟨bd, 1, none⟩ = some (.slice A m cp) ∧ RR WT W (.slice A m cp) ws)
    (hY : ∀ k W, J (k + 1) W → k < m → YieldAt Fence.wide 2 Tryd.prog l #[.agg (WT.enc (ws.getD k wv0)).toArray] W fun e W' => (e = .returned (.bool true) ∧ J k W') ∨ (e = .returned (.bool false) ∧ Jx k W'))
    (W : World) (h0 : J m W) :
    CallsIn Fence.wide 3 Tryd.prog 133 (#[.pointer (some ⟨bd, 0, none⟩)] ++ #[.func (.yield l) #[] #[]]) W fun e W' => (∃ v, e = .returned v) ∧ (J 0 W' ∨ ∃ k, k < m ∧ Jx k W') := by
  show CallsIn Fence.wide 3 Tryd.prog 133 #[.pointer (some ⟨bd, 0, none⟩), .func (.yield l) #[] #[]] W _
  refine callsIn_of_wp Tryd.func133 rfl trivial ?_ rfl
  simp only [Tryd.ntmps133, List.size_toArray, List.length_cons, List.length_nil, Nat.reduceAdd, Nat.reduceSub, Array.replicate_succ, Array.replicate_zero, List.push_toArray, List.append_toArray, List.nil_append, List.cons_append]
  have hc := (hread m W h0).1
  have hml : (m : Int) ≤ 9223372036854775807 := by obtain ⟨_, _, _, h1⟩ := (hread m W h0).2; have := h1.2.1; omega
  gi_wp2
  gi_loopw [4] (fun v4 wr => ∃ k : Nat, v4 = .int .i64 ((k : Int) - 1) ∧ k ≤ m ∧ J k wr) (fun v _ => ((intOf v) + 1).toNat)
  case atStart => exact ⟨m, rfl, Nat.le_refl _, h0⟩
  case round =>
    obtain ⟨k, rfl, hk, hJ⟩ := hrel
    clear hc
    cases k with
    | zero =>
      gi_wp2
      go_end0
      exact ⟨⟨_, rfl⟩, .inl hJ⟩
    | succ k =>
      obtain ⟨hc, hR⟩ := hread _ wr hJ
      have hkm : k < m := by omega
      obtain ⟨ad, rfl, hcell⟩ := hR.at_ k (by rw [hm]; exact hkm)
      obtain ⟨fn, tmps, assign, body, hy, hRd⟩ := hY k wr hJ hkm
      have hgk : ws.getD k wv0 = ws[k] := by rw [List.getD_eq_getElem?_getD, List.getElem?_eq_getElem (by omega)]; rfl
      rw [hgk] at hy
      have hc0 : wr.cell? (ad.add (k * 2)) = some (.int .i64 ws[k].1) := hcell 0 _ rfl
      have hc1 : wr.cell? ⟨(ad.add (k * 2)).block, (ad.add (k * 2)).off + 1, none⟩ = some ws[k].2.val := by
        rw [← hcell 1 _ rfl]
        congr 1
        show _ = ad.add (k * 2 + 1)
        unfold Addr.add
        by_cases h1 : k * 2 = 0 <;> simp [h1, Nat.add_assoc]
      change (Instr.yield l #[Value.agg #[Value.int .i64 ws[k].1, ws[k].2.val]]).run Tryd.prog wr = _ at hy
      generalize ws[k].1 = xa at *
      generalize ws[k].2.val = xb at *
      have hki : (k : Int) < (m : Int) := by omega
      have HREAD := Lib.hid hread
      have HYY := Lib.hid hY
      have HR := Lib.hid hR
      have HCELL := Lib.hid hcell
      clear hread hY hR hcell hgk
      gi_wp2
      refine hRd.mono ?_
      rintro e W3 (⟨rfl, hJ3⟩ | ⟨rfl, hJx3⟩)
      · gi_wp2
        go_roundw
        case rel => exact ⟨k, by go_num, by omega, hJ3⟩
        case measure => simp [intOf] <;> omega
      · gi_wp2
        refine bodyPost_ret (results_none rfl _ _ _) rfl ?_
        exact ⟨⟨_, rfl⟩, .inr ⟨k, hkm, hJx3⟩⟩
end Go.Proofs.YticfcelbnkiopaaDoor

namespace Go.Proofs.YticfcelbnkiopaaDoor
set_option maxRecDepth 100000
open Go.RowKit Go.Shelf
set_option linter.unusedSimpArgs false
set_option linter.unusedVariables false

section
variable {G : Fence} {m : Nat} {P : Program} {ops : Array Oper} {rest : List Oper} {o : Oper} {a : Act} {Q : Exit → Act → World → Prop} {F : Nat → Prop} {w0 w w' : World} {L : List Own}
variable {b off n : Nat} {t t2 : TypeId} {cs vs new z : List Value} {v zv : Value} {put : List Value → List Own} {y p : Operand}
theorem stepVIn (hd : ∀ c, o.op ≠ .defer c) (hf : ∀ f, G.fn f) (hr : (execOp a.eval o).run P w = .ok (.value v) w') (hw : Region.wanted o (yielded ops a.tmps) = true) (h : wpListIn G m P ops Q rest (a.put o.dst v) w') : wpListIn G m P ops Q (o :: rest) a w :=
  wpListIn_step fun K hK => by
    rw [if_pos hw]
    refine ⟨fun f _ => hf f, ?_⟩
    rw [Oper.semAt_eq _ _ _ hd, hr]
    exact hK _ _ h
theorem stepSIn (hd : ∀ c, o.op ≠ .defer c) (hf : ∀ f, G.fn f) (hr : (execOp a.eval o).run P w = .ok .skip w') (hw : Region.wanted o (yielded ops a.tmps) = true) (h : wpListIn G m P ops Q rest (a.put o.dst undef) w') : wpListIn G m P ops Q (o :: rest) a w :=
  wpListIn_step fun K hK => by
    rw [if_pos hw]
    refine ⟨fun f _ => hf f, ?_⟩
    rw [Oper.semAt_eq _ _ _ hd, hr]
    exact hK _ _ h
theorem gDstI (k : Nat) {op : Op} {ty : TypeId} {q : String} {af : Array Edge} {gd : Option (Nat × Bool)} (h : wpListIn G m P ops Q (⟨some k, op, ty, q, af, gd⟩ :: rest) a w) : wpListIn G m P ops Q (⟨some k, op, ty, q, af, gd⟩ :: rest) a w := h
theorem gStoI (p y : Operand) {t : TypeId} {d : Option Tmp} {ty : TypeId} {q : String} {af : Array Edge} {gd : Option (Nat × Bool)} (h : wpListIn G m P ops Q (⟨d, .store t p y, ty, q, af, gd⟩ :: rest) a w) : wpListIn G m P ops Q (⟨d, .store t p y, ty, q, af, gd⟩ :: rest) a w := h
theorem iAlloc (hf : ∀ f, G.fn f) (H : SH F w0 w L) (ho : o.op = .alloc t) [T : TI P t n z] (hw : Region.wanted o (yielded ops a.tmps) = true)
    (h : ∀ b w', SH F w0 w' (.blk b t z :: L) → wpListIn G m P ops Q rest (a.put o.dst (.pointer (some ⟨b, 0, none⟩))) w') : wpListIn G m P ops Q (o :: rest) a w :=
  stepVIn (by rw [ho]; exact fun c h => by cases h) hf (exec_alloc t ho _ z T.zinfo rfl) hw (h _ _ (H.new _ _))
theorem iStore (hf : ∀ f, G.fn f) (H : SH F w0 w L) (p y : Operand) (ho : o.op = .store t p y) (hx : a.eval p = .pointer (some ⟨b, 0, none⟩)) (hy : a.eval y = .agg vs.toArray) [HasB L b t cs put] [TI P t n z] (hl : cs.length = n ∧ vs.length = n) (h1 : (vs.all fun u => u.oneCell') = true) (hw : Region.wanted o (yielded ops a.tmps) = true)
    (h : ∀ w', SH F w0 w' (put vs) → wpListIn G m P ops Q rest (a.put o.dst undef) w') : wpListIn G m P ops Q (o :: rest) a w := by
  obtain ⟨w', hr, H'⟩ := xLay (P := P) (ρ := a.eval) (new := vs) H p y ho hx hy (by omega) h1 (lay_whole (by omega))
  exact stepSIn (by rw [ho]; exact fun c h => by cases h) hf hr hw (h w' H')
theorem iCell (hf : ∀ f, G.fn f) (H : SH F w0 w L) (p y : Operand) (ho : o.op = .store t p y) (hx : a.eval p = .pointer (some ⟨b, off, none⟩)) (hy : a.eval y = v) [HasB L b t2 cs put] [TS P t zv] (hc : v.cells = [v].toArray) (h1 : v.oneCell' = true) (hl : off < cs.length) (hn : cs.set off v = new) (hw : Region.wanted o (yielded ops a.tmps) = true)
    (h : ∀ w', SH F w0 w' (put new) → wpListIn G m P ops Q rest (a.put o.dst undef) w') : wpListIn G m P ops Q (o :: rest) a w := by
  obtain ⟨w', hr, H'⟩ := xCell (P := P) (ρ := a.eval) H p y ho hx hy hc h1 hl hn
  exact stepSIn (by rw [ho]; exact fun c h => by cases h) hf hr hw (h w' H')
theorem iLoad1 (hf : ∀ f, G.fn f) (H : SH F w0 w L) (y : Operand) (ho : o.op = .load t y) (hx : a.eval y = .pointer (some ⟨b, off, none⟩)) [HasB L b t2 cs put] [TS P t zv] (hc : cs[off]? = some v) (hw : Region.wanted o (yielded ops a.tmps) = true)
    (h : wpListIn G m P ops Q rest (a.put o.dst v) w) : wpListIn G m P ops Q (o :: rest) a w :=
  stepVIn (by rw [ho]; exact fun c h => by cases h) hf (xLoad1 H.hold y ho hx hc) hw h
end
end Go.Proofs.YticfcelbnkiopaaDoor

namespace Go.Proofs.YticfcelbnkiopaaDoor
set_option maxRecDepth 100000
open Go.RowKit Go.Shelf
set_option linter.unusedSimpArgs false
set_option linter.unusedVariables false

/-- How a round may be left. -/
def roundEnd (F : Nat → Prop) (w0 : World) (L : List Own) (K : Nat → Prop) (X : Nat → List Own → Prop) (l D k : Nat) (rl : Obj) : Exit → Act → World → Prop
  | .normal, _, W => SH F w0 W (.obj l rl :: .obj D (.deferred (some [])) :: L) ∧ K k
  | .ret, _, W => ∃ LL, X k LL ∧ SH F w0 W (.obj l rl :: .obj D (.deferred (some [])) :: LL)
  | _, _, _ => False
theorem rangeFunc_newest {g : Operand} {ps : Array Tmp} {assign body : Code} {Q : Exit → Act → World → Prop} {a : Act} {w w0 : World} {F : Nat → Prop} {L : List Own} (H : SH F w0 w L) {bd : Nat} (hg : a.eval g = .func (.func 133) #[.pointer (some ⟨bd, 0, none⟩)] #[]) (hps : ps.size = 1)
    (m cp : Nat) (A : Option Addr) (ws : List WV) (hm : ws.length = m) (hread : ∀ W L', SH F w0 W L' → W.cell? ⟨bd, 1, none⟩ = some (.slice A m cp) ∧ RR WT W (.slice A m cp) ws)
    (K : Nat → Prop) (hK : K m) (X : Nat → List Own → Prop) (A1 : Nat → Nat → Act) (tm : Nat → Array Value) (htm : ∀ k, (ps.zip #[.agg (WT.enc (ws.getD k wv0)).toArray]).foldl (fun t (p, v) => t.setIfInBounds p v) a.tmps = tm k)
    (hassign : ∀ (l D k : Nat) (rl : Obj) (W : World) (B : Act → World → Prop), k < m → K (k + 1) → SH F w0 W (.obj l rl :: .obj D (.deferred (some [])) :: L) →
      (∀ b W1, SH F w0 W1 (.blk b 144 (WT.enc (ws.getD k wv0)) :: .obj l rl :: .obj D (.deferred (some [])) :: L) → B (A1 k b) W1) →
      assign.wpIn (Fence.wide.inRound l) 2 Tryd.prog (Exit.then B (fun _ _ _ => False)) { tmps := tm k, defers := [] } W)
    (hbody : ∀ (l D k b : Nat) (rl : Obj) (W : World), k < m → K (k + 1) → SH F w0 W (.blk b 144 (WT.enc (ws.getD k wv0)) :: .obj l rl :: .obj D (.deferred (some [])) :: L) →
      body.wpIn (Fence.wide.inRound l) 2 Tryd.prog (roundEnd F w0 L K X l D k rl) (A1 k b) W)
    (hdone : ∀ (D : Nat) (W : World), K 0 → SH F w0 W (.obj D (.deferred (some [])) :: L) → Q .normal { a with defers := { target := .collected D, args := #[] } :: a.defers } W)
    (hstop : ∀ (D k : Nat) (LL : List Own) (W : World), k < m → X k LL → SH F w0 W (.obj D (.deferred (some [])) :: LL) → Code.ret.wp Tryd.prog Q { a with defers := { target := .collected D, args := #[] } :: a.defers } W) :
    (Code.rangeFunc g ps assign body).wp Tryd.prog Q a w := by
  refine (wpIn_wide (n := 4)).1 (wpIn_rangeFunc ?_)
  intro fn hfn
  obtain ⟨rec, hrec⟩ : ∃ rec : LoopState → Option Code → Loop, rec = fun st pe => { state := st, pending := pe, fn, tmps := a.tmps, params := ps, assign, body, defers := w.heap.size } := ⟨_, rfl⟩
  obtain ⟨W1, hW1⟩ : ∃ W1, (w.alloc (.deferred (some []))).alloc (.loop (rec .ready none)) = W1 := ⟨_, rfl⟩
  have H1 : SH F w0 W1 (.obj (w.heap.size + 1) (.loop (rec .ready none)) :: .obj w.heap.size (.deferred (some [])) :: L) := by
    have h1 := H.push (alloc_belowAt w (.deferred (some []))) (.obj w.heap.size (.deferred (some []))) (World.alloc_heap_new w _) (fun k hk => by have e : k = w.heap.size := hk; omega)
    have h2 := h1.push (alloc_belowAt (w.alloc (.deferred (some []))) (.loop (rec .ready none))) (.obj (w.heap.size + 1) (.loop (rec .ready none))) (by have := World.alloc_heap_new (w.alloc (.deferred (some []))) (.loop (rec .ready none)); rwa [World.size_alloc] at this) (fun k hk => by have e : k = w.heap.size + 1 := hk; rw [World.size_alloc]; omega)
    rw [hW1] at h2
    exact h2
  refine ⟨w.heap.size + 1, [{ target := .collected w.heap.size, args := #[] }], W1, { target := .fn (.func 133) #[], args := #[.pointer (some ⟨bd, 0, none⟩)] ++ #[.func (.yield (w.heap.size + 1)) #[] #[]] }, W1, 133,
    #[.pointer (some ⟨bd, 0, none⟩)] ++ #[.func (.yield (w.heap.size + 1)) #[] #[]], W1, ?_, ?_, ?_, ?_, fun _ => by decide, ?_⟩
  · rw [← hW1, hrec]; exact run_enterLoop_outer _ _ _ _ _
  · simp only [resolve, hg]
    simp [go_sem]
  · intro f' hf'; trivial
  · have eg := fun args W => Go.MuLone.run_callFunc_enter Tryd.func133 (by kernel_rfl) rfl args W
    simp [invoke, go_sem, eg]
  · generalize hl : w.heap.size + 1 = l at *
    generalize hD : w.heap.size = D at *
    refine (newest_any l bd m cp A ws hm (fun k W => K k ∧ SH F w0 W (.obj l (.loop (rec .ready none)) :: .obj D (.deferred (some [])) :: L)) (fun k W => ∃ LL, X k LL ∧ SH F w0 W (.obj l (.loop (rec .done (some .ret))) :: .obj D (.deferred (some [])) :: LL))
      (fun k W h => hread W _ h.2) (fun k W h hkm => ?_) W1 ⟨hK, H1⟩).mono ?_
    · obtain ⟨hk1, hs⟩ := h
      have hlt : W.heap[l]? = some (.loop (rec .ready none)) := hs.at_ 0 rfl
      have hy := run_yield (P := Tryd.prog) (args := #[.agg (WT.enc (ws.getD k wv0)).toArray]) hlt (by rw [hrec]; exact hps.symm)
      rw [hrec] at hy
      have hy2 := hy
      simp only [htm k] at hy2
      refine ⟨fn, _, assign, body, hy2, roundIn_of_wpIn hfn (hassign l D k _ W _ hkm hk1 hs fun b W1 hs1 => ?_)⟩
      have hlt1 : W1.heap[l]? = some (.loop (rec .ready none)) := hs1.at_ 1 rfl
      refine ⟨_, run_beginRound hlt1 (by rw [hrec]), ?_⟩
      have hs2 := hs1.setObj 1 rfl (.loop { rec .ready none with state := .busy })
      simp only [List.set_cons_succ, List.set_cons_zero] at hs2
      refine wpIn_mono (hbody l D k b _ _ hkm hk1 hs2) ?_
      have fin : ∀ (jump : Option Code) (W3 : World) (LL : List Own), SH F w0 W3 (.obj l (.loop { rec .ready none with state := .busy }) :: .obj D (.deferred (some [])) :: LL) →
          ∃ W4, (Instr.endRound l jump).run Tryd.prog W3 = .ok (.bool jump.isNone) W4 ∧ SH F w0 W4 (.obj l (.loop (rec (if jump.isNone then .ready else .done) jump)) :: .obj D (.deferred (some [])) :: LL) := fun jump W3 LL h3 => by
        have hl3 : W3.heap[l]? = some (.loop { rec .ready none with state := .busy }) := h3.at_ 0 rfl
        have hr := run_endRound (P := Tryd.prog) jump hl3
        have h4 := h3.setObj 0 rfl (.loop (rec (if jump.isNone then .ready else .done) jump))
        simp only [List.set_cons_zero] at h4
        refine ⟨_, ?_, h4⟩
        rw [hrec] at hr ⊢
        exact hr
      rintro e a3 W3 hp
      cases e with
      | normal =>
        obtain ⟨W4, hr, h4⟩ := fin none W3 _ hp.1
        exact ⟨_, _, hr, .inl ⟨rfl, hp.2, h4⟩⟩
      | ret =>
        obtain ⟨LL, hX, h3⟩ := hp
        obtain ⟨W4, hr, h4⟩ := fin (some .ret) W3 _ h3
        exact ⟨_, _, hr, .inr ⟨rfl, LL, hX, h4⟩⟩
      | exit id => exact hp.elim
      | goto t => exact hp.elim
      | panic ch => exact hp.elim
      | outgrown => exact hp.elim
    · rintro e W2 ⟨⟨v, rfl⟩, (⟨h0, hs⟩ | ⟨k, hkm, LL, hX, hs⟩)⟩
      · have hl2 : W2.heap[l]? = some (.loop (rec .ready none)) := hs.at_ 0 rfl
        have h4 := hs.setObj 0 rfl (.loop { rec .ready none with state := .exhausted })
        simp only [List.set_cons_zero] at h4
        exact ⟨none, _, by have := run_endLoop (P := Tryd.prog) hl2 (by rw [hrec]; simp); rw [hrec] at this ⊢; exact this, hdone D _ h0 h4.tail⟩
      · have hl2 : W2.heap[l]? = some (.loop (rec .done (some .ret))) := hs.at_ 0 rfl
        have h4 := hs.setObj 0 rfl (.loop { rec .done (some .ret) with state := .exhausted })
        simp only [List.set_cons_zero] at h4
        exact ⟨some .ret, _, by have := run_endLoop (P := Tryd.prog) hl2 (by rw [hrec]; simp); rw [hrec] at this ⊢; exact this, wpIn_wide.2 (hstop D k LL _ hkm hX h4.tail)⟩
end Go.Proofs.YticfcelbnkiopaaDoor

namespace Go.Proofs.YticfcelbnkiopaaDoor
set_option maxRecDepth 100000
open Go.RowKit Go.Shelf
set_option linter.unusedSimpArgs false
set_option linter.unusedVariables false
attribute [local go_sem] Oper.semAt_some

/-- A disk as it can be. -/
structure DS.ok (st : DS) (n : Nat) : Prop where
  n1 : 16 ≤ n
  n2 : n ≤ 512
  ol : st.on.length = n * 256
  ws : ∀ k, k < st.ws.length → (st.ws.getD k (0, [])).1 < n ∧ (st.ws.getD k (0, [])).2.length = 256
  wl : st.ws.length ≤ 1000000
theorem DS.sec_len {st : DS} {n : Nat} (h : st.ok n) (i : Nat) (hi : i < n) : (st.sec i).length = 256 := by
  rw [DS.sec, List.length_take, List.length_drop, h.ol]; omega
theorem DS.readK_len {st : DS} {n : Nat} (h : st.ok n) (i : Nat) (hi : i < n) : ∀ k, k ≤ st.ws.length → (st.readK i k).length = 256
  | 0, _ => DS.sec_len h i hi
  | k + 1, hk => by
    rw [DS.readK]
    split
    · exact (h.ws k (by omega)).2
    · exact DS.readK_len h i hi k (by omega)
theorem DS.pairs_len {st : DS} {ss : List SVV} (h : ss.length = st.ws.length) : (st.pairs ss).length = st.ws.length := by
  rw [DS.pairs, List.length_zip, List.length_map, h, Nat.min_self]
theorem DS.pairs_get {st : DS} {ss : List SVV} (h : ss.length = st.ws.length) (k : Nat) (hk : k < st.ws.length) : (st.pairs ss).getD k wv0 = (((st.ws.getD k (0, [])).1 : Int), ss.getD k sv0) := by
  rw [DS.pairs, List.getD_eq_getElem?_getD, List.getElem?_eq_getElem (by rw [List.length_zip, List.length_map, h, Nat.min_self]; exact hk), List.getElem_zip, List.getElem_map]
  rw [List.getD_eq_getElem?_getD, List.getElem?_eq_getElem hk, List.getD_eq_getElem?_getD, List.getElem?_eq_getElem (by omega)]
  rfl
theorem iCloneB (l : Nat) {n : Nat} (v : Value) (xs : List UInt8) (w : World) (hv : RB w v xs) (hl : xs.length = 256) : CallsIn (Fence.wide.inRound l) n Tryd.prog 74 #[v] w fun e w' => ∃ A c, e = .returned (.slice A 256 c) ∧ OB w' w.heap.size (.slice A 256 c) xs ∧ Below w.heap.size w w' := by
  refine (CallsIn.inRound l (callsIn_wide.2 (Clone_any v xs w hv (by rw [hl]; decide)))).mono ?_
  rintro e w' ⟨v', h1, h2, h3⟩
  obtain ⟨A, c, rfl, -⟩ := h2.reads.len
  rw [hl] at h1 h2
  exact ⟨A, c, h1, h2, h3⟩
set_option maxHeartbeats 3200000 in
theorem diskRead_any (bd bo n i : Nat) (vw : Value) (ss : List SVV) (st : DS) (hs : st.ok n) (hoff : st.off = false) (hi : i < n) (w : World) (hD : HOLD (diskL bd bo vw ss st) w)
    (hHas : ∀ W, Below w.heap.size w W → Calls Tryd.prog 72 #[.pointer (some ⟨bd, 0, none⟩), .int .i64 (i : Int)] W fun e w' => e = .returned (.bool true) ∧ W = w')
    (hSec : ∀ W, Below w.heap.size w W → Calls Tryd.prog 71 #[.pointer (some ⟨bd, 0, none⟩), .int .i64 (i : Int)] W fun e w' => ∃ A c, e = .returned (.slice A 256 c) ∧ RB W (.slice A 256 c) (st.sec i) ∧ W = w') :
    Calls Tryd.prog 101 #[.pointer (some ⟨bd, 0, none⟩), .int .i64 (i : Int)] w fun e w' => ∃ v, e = .returned (.tuple #[v, .int .i64 0]) ∧ OB w' w.heap.size v (st.read i) ∧ Below w.heap.size w w' := by
  have H := SH.start Nil w
  unfold diskL at hD
  have hlb : LB w ss (st.ws.map (·.2)) := by
    have h : (Own.rdAll ss (st.ws.map fun x : Nat × List UInt8 => x.2)).holds w := hD _ (by simp)
    exact h
  have hsl : ss.length = st.ws.length := by rw [hlb.1, List.length_map]
  have hpl := DS.pairs_len hsl
  obtain ⟨A, cp, rfl, -⟩ := (hD.rr vw).len
  rw [hpl] at hD
  obtain ⟨m, hm⟩ : ∃ m, m = st.ws.length := ⟨_, rfl⟩
  rw [← hm] at hpl hD
  have c3 : w.cell? ⟨bd, 3, none⟩ = some (Value.bool false) := by
    have := (hD.va (b := bd)).cell 3
    rw [this, hoff]; rfl
  have hread : ∀ W L', SH Nil w W L' → W.cell? ⟨bd, 1, none⟩ = some (.slice A m cp) ∧ RR WT W (.slice A m cp) (st.pairs ss) := fun W L' h => ⟨((hD.below h.below).va (b := bd)).cell 1, (hD.below h.below).rr _⟩
  have HREAD := Lib.hid hread
  have HLB := Lib.hid hlb
  have HHAS := Lib.hid hHas
  have HSEC := Lib.hid hSec
  have HD := Lib.hid hD
  have HS := Lib.hid hs
  have HPL := Lib.hid hpl
  have HSL := Lib.hid hsl
  have HM := Lib.hid hm
  clear hread hlb hHas hSec hD hs hpl hsl hm hoff
  refine calls_marks Tryd.func101 rfl ?_
  simp only [Tryd.ntmps101, List.size_toArray, List.length_cons, List.length_nil, Nat.reduceAdd, Nat.reduceSub, Array.replicate_succ, Array.replicate_zero, List.push_toArray, List.append_toArray, List.nil_append, List.cons_append]
  go_wp2_with (first
    | ((with_reducible refine gDst 14 ?_); refine aLoadC _ rfl rfl (cell_below H.below c3) rfl ?_)
    | (go_at_call 72; refine (HHAS.out _ H.below).mono ?_; rintro e w' ⟨rfl, rfl⟩)
    | ((with_reducible refine gDst 3 ?_); refine aBox1 H _ rfl (by first | exact (rfl : _ = Value.int _ _) | exact (rfl : _ = Value.bool _) | exact (rfl : _ = Value.slice _ _ _) | exact (rfl : _ = Value.string _) | exact (rfl : _ = Value.pointer _) | exact (rfl : _ = Value.func _ _ _) | rfl) (by rfl) rfl ?_; clear H; intro b3 w3 H)
    | ((with_reducible refine gDst 4 ?_); refine aAlloc1 H rfl rfl ?_; clear H; intro b4 w4 H)
    | ((with_reducible refine gDst 5 ?_); refine aAlloc1 H rfl rfl ?_; clear H; intro b5 w5 H)
    | ((with_reducible refine gDst 6 ?_); refine aAlloc H rfl rfl ?_; clear H; intro b6 w6 H)
    | ((with_reducible refine gLoad ?_); first | (refine aLoad1 H _ rfl rfl (by first | exact (rfl : _ = some (Value.int _ _)) | exact (rfl : _ = some (Value.slice _ _ _)) | exact (rfl : _ = some (Value.bool _)) | exact (rfl : _ = some (Value.string _)) | exact (rfl : _ = some (Value.pointer _)) | rfl | (simp [List.getElem?_append]; done)) rfl ?_) | (refine aLoadC _ rfl rfl (by assumption) rfl ?_))
    | ((with_reducible refine gStore ?_); (first | (refine aCell H _ _ rfl rfl (by first | exact (rfl : _ = Value.int _ _) | exact (rfl : _ = Value.bool _) | exact (rfl : _ = Value.slice _ _ _) | exact (rfl : _ = Value.string _) | exact (rfl : _ = Value.pointer _) | exact (rfl : _ = Value.func _ _ _) | rfl) (by rfl) (by rfl) (by first | exact of_decide_eq_true rfl | (simp []; done) | (simp []; omega)) (by first | (simp only [List.set_cons_zero, List.set_cons_succ]; rfl) | (simp [List.set_append]; rfl)) rfl ?_) | (refine aStore H _ _ rfl rfl rfl (by (first | exact ⟨rfl, rfl⟩ | exact ⟨by decide, rfl⟩ | (simp []; done) | (constructor <;> simp [] <;> omega))) (by first | rfl | simp [List.all_append, one_all]) rfl ?_) | (refine aLay H _ _ rfl rfl rfl (by (first | exact ⟨rfl, rfl⟩ | exact ⟨by decide, rfl⟩ | (simp []; done) | (constructor <;> simp [] <;> omega))) (by first | rfl | simp [List.all_append, one_all]) (by simp only [lay, List.take_succ_cons, List.take_zero, List.drop_succ_cons, List.drop_zero, List.nil_append, List.cons_append, List.length_cons, List.length_nil, Nat.zero_add, Nat.reduceAdd]; rfl) rfl ?_)); clear H; intro w' H; try dsimp only at H))
  refine rangeFunc_newest H rfl rfl m cp A (st.pairs ss) HPL.out HREAD.out (fun k => st.readK i m = st.readK i k) rfl (fun k LL => ∃ A c, LL = [.row B8 (.slice A 256 c) (st.readK i m), .blk b5 34 [.int .i64 0], .blk b4 22 [.slice A 256 c], .blk b3 3 [.int .i64 (i : Int)]]) (fun k b => { tmps := #[Value.pointer (some ⟨bd, 0, none⟩), .int .i64 (i : Int), undef, .pointer (some ⟨b3, 0, none⟩), .pointer (some ⟨b4, 0, none⟩), .pointer (some ⟨b5, 0, none⟩), .pointer (some ⟨b, 0, none⟩), .bool false, Value.pointer (some ⟨bd, 0, none⟩), .bool false, .bool false, Value.pointer (some ⟨bd, 0, none⟩), Value.pointer (some ⟨bd, 0, none⟩), .pointer (some ⟨bd, 3, none⟩), .bool false, .bool false, .bool false, Value.pointer (some ⟨bd, 0, none⟩), .int .i64 (i : Int), .bool true, .bool false, Value.pointer (some ⟨bd, 0, none⟩), .func (.func 133) #[.pointer (some ⟨bd, 0, none⟩)] #[], .agg (WT.enc ((st.pairs ss).getD k wv0)).toArray, undef, undef, undef, undef, undef, undef, undef, undef, undef, undef, undef], defers := [] }) (fun k => #[Value.pointer (some ⟨bd, 0, none⟩), .int .i64 (i : Int), undef, .pointer (some ⟨b3, 0, none⟩), .pointer (some ⟨b4, 0, none⟩), .pointer (some ⟨b5, 0, none⟩), undef, .bool false, Value.pointer (some ⟨bd, 0, none⟩), .bool false, .bool false, Value.pointer (some ⟨bd, 0, none⟩), Value.pointer (some ⟨bd, 0, none⟩), .pointer (some ⟨bd, 3, none⟩), .bool false, .bool false, .bool false, Value.pointer (some ⟨bd, 0, none⟩), .int .i64 (i : Int), .bool true, .bool false, Value.pointer (some ⟨bd, 0, none⟩), .func (.func 133) #[.pointer (some ⟨bd, 0, none⟩)] #[], .agg (WT.enc ((st.pairs ss).getD k wv0)).toArray, undef, undef, undef, undef, undef, undef, undef, undef, undef, undef, undef]) (fun k => by simp) ?assign ?body ?done ?stop
  case assign =>
    intro l D k rl W B hkm hK H0 hB
    clear H
    have H := H0
    clear H0
    have hB' := Lib.hid hB
    clear hB
    generalize (st.pairs ss).getD k wv0 = x at *
    gi_wp2_with (first
      | ((with_reducible refine gDstI 6 ?_); refine iAlloc (fun _ => trivial) H rfl rfl ?_; clear H; intro b6 w6 H)
      | ((with_reducible refine gStoI (.tmp 6) (.tmp 23) ?_); refine iStore (fun _ => trivial) (vs := WT.enc x) H _ _ rfl rfl rfl ⟨by rfl, by rfl⟩ (by rfl) rfl ?_; clear H; intro w' H; (try dsimp only at H)))
    exact hB'.out b6 w' H
  case body =>
    intro l D k b rl W hkm hK H0
    clear H
    have H := H0
    clear H0
    have hget := DS.pairs_get HSL.out k (by rw [← HM.out]; exact hkm)
    have hrb := HLB.out.2 k (by rw [List.length_map, ← HM.out]; exact hkm)
    have hnm : (st.ws.map (·.2)).getD k [] = (st.ws.getD k (0, [])).2 := by
      rw [List.getD_eq_getElem?_getD, List.getElem?_map, List.getD_eq_getElem?_getD]
      cases st.ws[k]? <;> rfl
    rw [hnm] at hrb
    rw [DS.readK] at hK
    rw [hget] at H ⊢
    obtain ⟨hw1, hw2⟩ := HS.out.ws k (by rw [← HM.out]; exact hkm)
    generalize ss.getD k sv0 = sv at *
    obtain ⟨As, ns, cs⟩ := sv
    obtain ⟨_, _, hsv, hcs⟩ := hrb.len
    rw [hw2] at hsv
    obtain ⟨rfl, rfl, rfl⟩ : As = _ ∧ ns = 256 ∧ cs = _ := by injection hsv with e1 e2 e3; exact ⟨e1, e2, e3⟩
    generalize (st.ws.getD k (0, [])).2 = bs at *
    generalize (st.ws.getD k (0, [])).1 = at_ at *
    by_cases heq : at_ = i
    · subst heq
      have hee : ((at_ : Int) == (at_ : Int)) = true := beq_self_eq_true _
      rw [if_pos rfl] at hK
      have HRB := Lib.hid hrb
      have HW2 := Lib.hid hw2
      clear hrb hw2 hcs hsv hget hnm
      gi_wp2_with (first
        | ((with_reducible refine gDstI 25 ?_); refine iLoad1 (fun _ => trivial) H _ rfl rfl rfl rfl ?_)
        | ((with_reducible refine gDstI 26 ?_); refine iLoad1 (fun _ => trivial) H _ rfl rfl rfl rfl ?_)
        | ((with_reducible refine gDstI 29 ?_); refine iLoad1 (fun _ => trivial) H _ rfl rfl rfl rfl ?_)
        | (refine ⟨trivial, ?_⟩; gi_at_call 74; refine (iCloneB l _ bs _ (HRB.out.below H.below) HW2.out).mono ?_; rintro e w' ⟨A2, c2, rfl, ho, hb2⟩; replace H := H.pushRow hb2 ho; clear hb2 ho)
        | ((with_reducible refine gStoI (.tmp 4) (.tmp 30) ?_); refine iCell (fun _ => trivial) (v := .slice A2 256 c2) H _ _ rfl rfl rfl rfl rfl (by decide) rfl rfl ?_; clear H; intro w' H; (try dsimp only at H))
        | ((with_reducible refine gStoI (.tmp 5) (.const (.int .i64 0)) ?_); refine iCell (fun _ => trivial) (v := .int .i64 0) H _ _ rfl rfl rfl rfl rfl (by decide) rfl rfl ?_; clear H; intro w' H; (try dsimp only at H)))
      exact ⟨_, ⟨A2, c2, rfl⟩, ((((H.erase 1).bring 2 rfl).bring 2 rfl : SH Nil w _ _) |> fun h => by rw [hK]; exact h)⟩
    · have hne : ((at_ : Int) == (i : Int)) = false := beq_eq_false_iff_ne.mpr (by omega)
      rw [if_neg heq] at hK
      clear hrb hw2 hcs hsv hget hnm
      gi_wp2_with (first
        | ((with_reducible refine gDstI 25 ?_); refine iLoad1 (fun _ => trivial) H _ rfl rfl rfl rfl ?_)
        | ((with_reducible refine gDstI 26 ?_); refine iLoad1 (fun _ => trivial) H _ rfl rfl rfl rfl ?_))
      exact ⟨H.tail, hK⟩
  case done =>
    intro D W hK H0
    clear H
    have H := H0
    clear H0
    have hsl := DS.sec_len HS.out i hi
    have hrd : st.read i = st.sec i := by rw [DS.read, ← HM.out, hK]; rfl
    rw [DS.readK] at hK
    have HRD := Lib.hid hrd
    have HXL := Lib.hid hsl
    clear hsl hrd hK
    generalize st.sec i = X at *
    go_wp2_with (first
      | (go_at_call 71; refine (HSEC.out _ H.below).mono ?_; rintro e w' ⟨As, cs, rfl, hrs, rfl⟩)
      | (go_at_call 74; refine (Clone_any _ _ _ hrs (by rw [HXL.out]; decide)).mono ?_; rintro e w' ⟨v2, rfl, ho, hb2⟩; replace H := H.pushRow hb2 ho; obtain ⟨A2, c2, rfl, -⟩ := ho.reads.len; clear hb2 ho)
      | ((with_reducible refine gDst 3 ?_); refine aBox1 H _ rfl (by first | exact (rfl : _ = Value.int _ _) | exact (rfl : _ = Value.bool _) | exact (rfl : _ = Value.slice _ _ _) | exact (rfl : _ = Value.string _) | exact (rfl : _ = Value.pointer _) | exact (rfl : _ = Value.func _ _ _) | rfl) (by rfl) rfl ?_; clear H; intro b3 w3 H)
      | ((with_reducible refine gDst 4 ?_); refine aAlloc1 H rfl rfl ?_; clear H; intro b4 w4 H)
      | ((with_reducible refine gDst 5 ?_); refine aAlloc1 H rfl rfl ?_; clear H; intro b5 w5 H)
      | ((with_reducible refine gDst 6 ?_); refine aAlloc H rfl rfl ?_; clear H; intro b6 w6 H)
      | ((with_reducible refine gLoad ?_); first | (refine aLoad1 H _ rfl rfl (by first | exact (rfl : _ = some (Value.int _ _)) | exact (rfl : _ = some (Value.slice _ _ _)) | exact (rfl : _ = some (Value.bool _)) | exact (rfl : _ = some (Value.string _)) | exact (rfl : _ = some (Value.pointer _)) | rfl | (simp [List.getElem?_append]; done)) rfl ?_) | (refine aLoadC _ rfl rfl (by assumption) rfl ?_))
      | ((with_reducible refine gStore ?_); (first | (refine aCell H _ _ rfl rfl (by first | exact (rfl : _ = Value.int _ _) | exact (rfl : _ = Value.bool _) | exact (rfl : _ = Value.slice _ _ _) | exact (rfl : _ = Value.string _) | exact (rfl : _ = Value.pointer _) | exact (rfl : _ = Value.func _ _ _) | rfl) (by rfl) (by rfl) (by first | exact of_decide_eq_true rfl | (simp []; done) | (simp []; omega)) (by first | (simp only [List.set_cons_zero, List.set_cons_succ]; rfl) | (simp [List.set_append]; rfl)) rfl ?_) | (refine aStore H _ _ rfl rfl rfl (by (first | exact ⟨rfl, rfl⟩ | exact ⟨by decide, rfl⟩ | (simp []; done) | (constructor <;> simp [] <;> omega))) (by first | rfl | simp [List.all_append, one_all]) rfl ?_) | (refine aLay H _ _ rfl rfl rfl (by (first | exact ⟨rfl, rfl⟩ | exact ⟨by decide, rfl⟩ | (simp []; done) | (constructor <;> simp [] <;> omega))) (by first | rfl | simp [List.all_append, one_all]) (by simp only [lay, List.take_succ_cons, List.take_zero, List.drop_succ_cons, List.drop_zero, List.nil_append, List.cons_append, List.length_cons, List.length_nil, Nat.zero_add, Nat.reduceAdd]; rfl) rfl ?_)); clear H; intro w' H; try dsimp only at H))
    refine ⟨by simp, .inl ⟨D, _, rfl, run_takeDeferred (H.at_ 1 rfl), ?_⟩⟩
    replace H := H.setObj 1 rfl (.deferred none)
    simp only [List.set_cons_succ, List.set_cons_zero] at H
    refine ⟨_, res_cells2 rfl _ rfl rfl ((H.hold.va (b := b4)).cell 0) ((H.hold.va (b := b5)).cell 0), ?_⟩
    rw [HRD.out]
    exact ⟨_, rfl, H.ow _, H.below⟩
  case stop =>
    rintro D k LL W hkm ⟨A2, c2, rfl⟩ H0
    clear H
    have H := H0
    clear H0
    go_wp2
    refine ⟨by simp, .inl ⟨D, _, rfl, run_takeDeferred (H.at_ 0 rfl), ?_⟩⟩
    replace H := H.setObj 0 rfl (.deferred none)
    simp only [List.set_cons_succ, List.set_cons_zero] at H
    refine ⟨_, res_cells2 rfl _ rfl rfl ((H.hold.va (b := b4)).cell 0) ((H.hold.va (b := b5)).cell 0), ?_⟩
    exact ⟨.slice A2 256 c2, rfl, by rw [DS.read, ← HM.out]; exact H.ow _, H.below⟩
end Go.Proofs.YticfcelbnkiopaaDoor

namespace Go.Proofs.YticfcelbnkiopaaDoor
set_option maxRecDepth 100000
open Go.RowKit
set_option linter.unusedSimpArgs false
set_option linter.unusedVariables false

set_option maxHeartbeats 1600000 in
theorem diskLen_c (bd : Nat) (ad : Addr) (n N : Nat) (hN : N = n * 256) (hn : n ≤ 512) (w : World) (hc : w.cell? ⟨bd, 0, none⟩ = some (.slice (some ad) N N)) : Calls Tryd.prog 116 #[.pointer (some ⟨bd, 0, none⟩)] w fun e w' => e = .returned (.int .i64 (n : Int)) ∧ w = w' := by
  have hq : (N : Int).tdiv 256 = (n : Int) := by rw [Int.tdiv_eq_ediv_of_nonneg (by omega)]; omega
  have hNb : (N : Int) ≤ 131072 := by omega
  have HN := Lib.hid hN
  clear hN
  go_enter Tryd.func116, Tryd.ntmps116
  go_wp2_with (first
    | ((with_reducible refine gDst 8 ?_); refine aLoadC _ rfl rfl hc rfl ?_))
  go_ret
  exact ⟨rfl, rfl⟩
set_option maxHeartbeats 1600000 in
theorem diskHas_c (bd : Nat) (ad : Addr) (n N : Nat) (hN : N = n * 256) (hn : n ≤ 512) (i : Nat) (hi : i < n) (w : World) (hc : w.cell? ⟨bd, 0, none⟩ = some (.slice (some ad) N N)) : Calls Tryd.prog 72 #[.pointer (some ⟨bd, 0, none⟩), .int .i64 (i : Int)] w fun e w' => e = .returned (.bool true) ∧ w = w' := by
  have hii : (i : Int) < (n : Int) := by omega
  have HC := Lib.hid (diskLen_c bd ad n N hN hn w hc)
  clear hN
  go_enter Tryd.func72, Tryd.ntmps72
  go_wp2_with (first
    | (go_at_call 116; refine HC.out.mono ?_; rintro e w' ⟨rfl, rfl⟩))
  go_ret
  exact ⟨rfl, rfl⟩
set_option maxHeartbeats 1600000 in
theorem diskSector_c (bd : Nat) (ad : Addr) (n N : Nat) (hN : N = n * 256) (hn : n ≤ 512) (i : Nat) (hi : i < n) (on : List UInt8) (hon : on.length = N) (w : World) (hc : w.cell? ⟨bd, 0, none⟩ = some (.slice (some ad) N N)) (hr : RB w (.slice (some ad) N N) on) :
    Calls Tryd.prog 71 #[.pointer (some ⟨bd, 0, none⟩), .int .i64 (i : Int)] w fun e w' => ∃ A c, e = .returned (.slice A 256 c) ∧ RB w (.slice A 256 c) ((on.drop (i * 256)).take 256) ∧ w = w' := by
  obtain ⟨u, hu⟩ : ∃ u, u = i * 256 := ⟨_, rfl⟩
  obtain ⟨e, he⟩ : ∃ e, e = u + 256 := ⟨_, rfl⟩
  have heN : e ≤ N := by omega
  obtain ⟨A1, s1, -, -, s4⟩ := cutB (some ad) N on u e (by omega) (by rw [hon]; exact heN) (by omega)
  rw [hon] at s1 s4
  have heu : e - u = 256 := by omega
  have hcut : (on.take e).drop u = (on.drop (i * 256)).take 256 := by rw [List.drop_take, heu, hu]
  rw [heu] at s1 s4
  rw [hcut] at s4
  have S4 := Lib.hid (s4 w hr)
  have m1 : (i : Int) * 256 = (u : Int) := by omega
  have m2 : ((i : Int) + 1) * 256 = (e : Int) := by omega
  have k1 : IntKind.i64.wrap (u : Int) = (u : Int) := i64w _ (by omega) (by omega)
  have k2 : IntKind.i64.wrap (e : Int) = (e : Int) := i64w _ (by omega) (by omega)
  have hib : (i : Int) ≤ 512 := by omega
  clear hr s4 hcut heu hu he heN hN hon
  go_enter Tryd.func71, Tryd.ntmps71
  go_wp2_with (first
    | ((with_reducible refine gDst 8 ?_); refine aLoadC _ rfl rfl hc rfl ?_))
  go_ret
  exact ⟨_, _, rfl, S4.out, rfl⟩
set_option maxHeartbeats 1600000 in
theorem diskHasNot_c (bd : Nat) (ad : Addr) (n N : Nat) (hN : N = n * 256) (hn : n ≤ 512) (i : Int) (hi : i < 0 ∨ (n : Int) ≤ i) (w : World) (hc : w.cell? ⟨bd, 0, none⟩ = some (.slice (some ad) N N)) : Calls Tryd.prog 72 #[.pointer (some ⟨bd, 0, none⟩), .int .i64 i] w fun e w' => e = .returned (.bool false) ∧ w = w' := by
  have HC := Lib.hid (diskLen_c bd ad n N hN hn w hc)
  clear hc hN
  by_cases h0 : 0 ≤ i
  · have h1 : (i < (n : Int)) = False := eq_false (by omega)
    go_enter Tryd.func72, Tryd.ntmps72
    go_wp2_with (first
      | (go_at_call 116; refine HC.out.mono ?_; rintro e w' ⟨rfl, rfl⟩))
    go_ret
    exact ⟨rfl, rfl⟩
  · have h1 : ((0 : Int) ≤ i) = False := eq_false h0
    go_enter Tryd.func72, Tryd.ntmps72
    go_wp2
    go_ret
    exact ⟨rfl, rfl⟩
end Go.Proofs.YticfcelbnkiopaaDoor

namespace Go.Proofs.YticfcelbnkiopaaDoor
set_option maxRecDepth 100000
open Go.RowKit Go.Shelf
set_option linter.unusedSimpArgs false
set_option linter.unusedVariables false

theorem diskRead_ok (bd bo n i : Nat) (vw : Value) (ss : List SVV) (st : DS) (hs : st.ok n) (hoff : st.off = false) (hi : i < n) (w : World) (hD : HOLD (diskL bd bo vw ss st) w) :
    Calls Tryd.prog 101 #[.pointer (some ⟨bd, 0, none⟩), .int .i64 (i : Int)] w fun e w' => ∃ v, e = .returned (.tuple #[v, .int .i64 0]) ∧ OB w' w.heap.size v (st.read i) ∧ Below w.heap.size w w' := by
  have hD2 := hD
  unfold diskL at hD2
  have hc : ∀ W, Below w.heap.size w W → W.cell? ⟨bd, 0, none⟩ = some (.slice (some ⟨bo, 0, none⟩) (n * 256) (n * 256)) := fun W hb => by
    have := ((hD2.below hb).va (b := bd)).cell 0
    rw [this, hs.ol]; rfl
  refine diskRead_any bd bo n i vw ss st hs hoff hi w hD (fun W hb => diskHas_c bd ⟨bo, 0, none⟩ n (n * 256) rfl hs.n2 i hi W (hc W hb)) (fun W hb => ?_)
  have hr : RB W (.slice (some ⟨bo, 0, none⟩) (n * 256) (n * 256)) st.on := ((hD2.below hb).va (b := bo)).rbn (n * 256) hs.ol (by have := hs.n2; omega)
  exact diskSector_c bd ⟨bo, 0, none⟩ n (n * 256) rfl hs.n2 i hi st.on hs.ol W (hc W hb) hr
set_option maxHeartbeats 1600000 in
theorem diskRead_off (bd bo : Nat) (i : Int) (vw : Value) (ss : List SVV) (st : DS) (hoff : st.off = true) (w : World) (hD : HOLD (diskL bd bo vw ss st) w) :
    Calls Tryd.prog 101 #[.pointer (some ⟨bd, 0, none⟩), .int .i64 i] w fun e w' => e = .returned (.tuple #[.slice none 0 0, .int .i64 8]) ∧ Below w.heap.size w w' := by
  have H := SH.start Nil w
  unfold diskL at hD
  have c3 : w.cell? ⟨bd, 3, none⟩ = some (Value.bool true) := by
    have := (hD.va (b := bd)).cell 3
    rw [this, hoff]; rfl
  clear hD hoff
  refine calls_marks Tryd.func101 rfl ?_
  simp only [Tryd.ntmps101, List.size_toArray, List.length_cons, List.length_nil, Nat.reduceAdd, Nat.reduceSub, Array.replicate_succ, Array.replicate_zero, List.push_toArray, List.append_toArray, List.nil_append, List.cons_append]
  go_wp2_with (first
    | ((with_reducible refine gDst 14 ?_); refine aLoadC _ rfl rfl (cell_below H.below c3) rfl ?_)
    | ((with_reducible refine gDst 3 ?_); refine aBox1 H _ rfl (by first | exact (rfl : _ = Value.int _ _) | exact (rfl : _ = Value.bool _) | exact (rfl : _ = Value.slice _ _ _) | exact (rfl : _ = Value.string _) | exact (rfl : _ = Value.pointer _) | exact (rfl : _ = Value.func _ _ _) | rfl) (by rfl) rfl ?_; clear H; intro b3 w3 H)
    | ((with_reducible refine gDst 4 ?_); refine aAlloc1 H rfl rfl ?_; clear H; intro b4 w4 H)
    | ((with_reducible refine gDst 5 ?_); refine aAlloc1 H rfl rfl ?_; clear H; intro b5 w5 H)
    | ((with_reducible refine gDst 6 ?_); refine aAlloc H rfl rfl ?_; clear H; intro b6 w6 H)
    | ((with_reducible refine gLoad ?_); first | (refine aLoad1 H _ rfl rfl (by first | exact (rfl : _ = some (Value.int _ _)) | exact (rfl : _ = some (Value.slice _ _ _)) | exact (rfl : _ = some (Value.bool _)) | exact (rfl : _ = some (Value.string _)) | exact (rfl : _ = some (Value.pointer _)) | rfl | (simp [List.getElem?_append]; done)) rfl ?_) | (refine aLoadC _ rfl rfl (by assumption) rfl ?_))
    | ((with_reducible refine gStore ?_); (first | (refine aCell H _ _ rfl rfl (by first | exact (rfl : _ = Value.int _ _) | exact (rfl : _ = Value.bool _) | exact (rfl : _ = Value.slice _ _ _) | exact (rfl : _ = Value.string _) | exact (rfl : _ = Value.pointer _) | exact (rfl : _ = Value.func _ _ _) | rfl) (by rfl) (by rfl) (by first | exact of_decide_eq_true rfl | (simp []; done) | (simp []; omega)) (by first | (simp only [List.set_cons_zero, List.set_cons_succ]; rfl) | (simp [List.set_append]; rfl)) rfl ?_) | (refine aStore H _ _ rfl rfl rfl (by (first | exact ⟨rfl, rfl⟩ | exact ⟨by decide, rfl⟩ | (simp []; done) | (constructor <;> simp [] <;> omega))) (by first | rfl | simp [List.all_append, one_all]) rfl ?_) | (refine aLay H _ _ rfl rfl rfl (by (first | exact ⟨rfl, rfl⟩ | exact ⟨by decide, rfl⟩ | (simp []; done) | (constructor <;> simp [] <;> omega))) (by first | rfl | simp [List.all_append, one_all]) (by simp only [lay, List.take_succ_cons, List.take_zero, List.drop_succ_cons, List.drop_zero, List.nil_append, List.cons_append, List.length_cons, List.length_nil, Nat.zero_add, Nat.reduceAdd]; rfl) rfl ?_)); clear H; intro w' H; try dsimp only at H))
  refine ⟨_, res_cells2 rfl _ rfl rfl ((H.hold.va (b := b4)).cell 0) ((H.hold.va (b := b5)).cell 0), ?_⟩
  exact ⟨rfl, H.below⟩
set_option maxHeartbeats 1600000 in
theorem diskRead_bad (bd bo n : Nat) (i : Int) (vw : Value) (ss : List SVV) (st : DS) (hs : st.ok n) (hoff : st.off = false) (hi : i < 0 ∨ (n : Int) ≤ i) (w : World) (hD : HOLD (diskL bd bo vw ss st) w) :
    Calls Tryd.prog 101 #[.pointer (some ⟨bd, 0, none⟩), .int .i64 i] w fun e w' => e = .returned (.tuple #[.slice none 0 0, .int .i64 1]) ∧ Below w.heap.size w w' := by
  have H := SH.start Nil w
  unfold diskL at hD
  have c3 : w.cell? ⟨bd, 3, none⟩ = some (Value.bool false) := by
    have := (hD.va (b := bd)).cell 3
    rw [this, hoff]; rfl
  have HH := Lib.hid (fun W (hb : Below w.heap.size w W) => diskHasNot_c bd ⟨bo, 0, none⟩ n (n * 256) rfl hs.n2 i hi W (by
    have := ((hD.below hb).va (b := bd)).cell 0
    rw [this, hs.ol]; rfl))
  clear hD hoff hi
  refine calls_marks Tryd.func101 rfl ?_
  simp only [Tryd.ntmps101, List.size_toArray, List.length_cons, List.length_nil, Nat.reduceAdd, Nat.reduceSub, Array.replicate_succ, Array.replicate_zero, List.push_toArray, List.append_toArray, List.nil_append, List.cons_append]
  go_wp2_with (first
    | ((with_reducible refine gDst 14 ?_); refine aLoadC _ rfl rfl (cell_below H.below c3) rfl ?_)
    | (go_at_call 72; refine (HH.out _ H.below).mono ?_; rintro e w' ⟨rfl, rfl⟩)
    | ((with_reducible refine gDst 3 ?_); refine aBox1 H _ rfl (by first | exact (rfl : _ = Value.int _ _) | exact (rfl : _ = Value.bool _) | exact (rfl : _ = Value.slice _ _ _) | exact (rfl : _ = Value.string _) | exact (rfl : _ = Value.pointer _) | exact (rfl : _ = Value.func _ _ _) | rfl) (by rfl) rfl ?_; clear H; intro b3 w3 H)
    | ((with_reducible refine gDst 4 ?_); refine aAlloc1 H rfl rfl ?_; clear H; intro b4 w4 H)
    | ((with_reducible refine gDst 5 ?_); refine aAlloc1 H rfl rfl ?_; clear H; intro b5 w5 H)
    | ((with_reducible refine gDst 6 ?_); refine aAlloc H rfl rfl ?_; clear H; intro b6 w6 H)
    | ((with_reducible refine gLoad ?_); first | (refine aLoad1 H _ rfl rfl (by first | exact (rfl : _ = some (Value.int _ _)) | exact (rfl : _ = some (Value.slice _ _ _)) | exact (rfl : _ = some (Value.bool _)) | exact (rfl : _ = some (Value.string _)) | exact (rfl : _ = some (Value.pointer _)) | rfl | (simp [List.getElem?_append]; done)) rfl ?_) | (refine aLoadC _ rfl rfl (by assumption) rfl ?_))
    | ((with_reducible refine gStore ?_); (first | (refine aCell H _ _ rfl rfl (by first | exact (rfl : _ = Value.int _ _) | exact (rfl : _ = Value.bool _) | exact (rfl : _ = Value.slice _ _ _) | exact (rfl : _ = Value.string _) | exact (rfl : _ = Value.pointer _) | exact (rfl : _ = Value.func _ _ _) | rfl) (by rfl) (by rfl) (by first | exact of_decide_eq_true rfl | (simp []; done) | (simp []; omega)) (by first | (simp only [List.set_cons_zero, List.set_cons_succ]; rfl) | (simp [List.set_append]; rfl)) rfl ?_) | (refine aStore H _ _ rfl rfl rfl (by (first | exact ⟨rfl, rfl⟩ | exact ⟨by decide, rfl⟩ | (simp []; done) | (constructor <;> simp [] <;> omega))) (by first | rfl | simp [List.all_append, one_all]) rfl ?_) | (refine aLay H _ _ rfl rfl rfl (by (first | exact ⟨rfl, rfl⟩ | exact ⟨by decide, rfl⟩ | (simp []; done) | (constructor <;> simp [] <;> omega))) (by first | rfl | simp [List.all_append, one_all]) (by simp only [lay, List.take_succ_cons, List.take_zero, List.drop_succ_cons, List.drop_zero, List.nil_append, List.cons_append, List.length_cons, List.length_nil, Nat.zero_add, Nat.reduceAdd]; rfl) rfl ?_)); clear H; intro w' H; try dsimp only at H))
  refine ⟨_, res_cells2 rfl _ rfl rfl ((H.hold.va (b := b4)).cell 0) ((H.hold.va (b := b5)).cell 0), ?_⟩
  exact ⟨rfl, H.below⟩
end Go.Proofs.YticfcelbnkiopaaDoor

namespace Go.Proofs.YticfcelbnkiopaaDoor
set_option maxRecDepth 100000
open Go.RowKit Go.Shelf
set_option linter.unusedSimpArgs false
set_option linter.unusedVariables false

def DS.spend (st : DS) : Bool × DS := if st.lets = 0 then (false, { st with off := true }) else if 0 < st.lets then (true, { st with lets := st.lets - 1 }) else (true, st)
set_option maxHeartbeats 1600000 in
theorem spend_any (bd bo : Nat) (vw : Value) (ss : List SVV) (st : DS) (hl : -1 ≤ st.lets ∧ st.lets ≤ 9223372036854775807) (w : World) (hD : SH (feet (diskL bd bo vw ss st)) w w (diskL bd bo vw ss st)) :
    Calls Tryd.prog 70 #[.pointer (some ⟨bd, 0, none⟩)] w fun e w' => e = .returned (.bool st.spend.1) ∧ SH (feet (diskL bd bo vw ss st)) w w' (diskL bd bo vw ss st.spend.2) := by
  obtain ⟨F, hF⟩ : ∃ F, F = feet (diskL bd bo vw ss st) := ⟨_, rfl⟩
  rw [← hF] at hD ⊢
  clear hF
  obtain ⟨on, ws, lets, off⟩ := st
  have H := hD
  unfold diskL at H
  clear hD
  simp only at hl
  by_cases h0 : lets = 0
  · subst h0
    have e : (DS.mk on ws 0 off).spend = (false, ⟨on, ws, 0, true⟩) := rfl
    rw [e]
    go_enter Tryd.func70, Tryd.ntmps70
    go_wp2_with (first
      | ((with_reducible refine gLoad ?_); first | (refine aLoad1 H _ rfl rfl (by first | exact (rfl : _ = some (Value.int _ _)) | exact (rfl : _ = some (Value.slice _ _ _)) | exact (rfl : _ = some (Value.bool _)) | exact (rfl : _ = some (Value.string _)) | exact (rfl : _ = some (Value.pointer _)) | rfl | (simp [List.getElem?_append]; done)) rfl ?_) | (refine aLoadC _ rfl rfl (by assumption) rfl ?_))
      | ((with_reducible refine gStore ?_); (first | (refine aCell H _ _ rfl rfl (by first | exact (rfl : _ = Value.int _ _) | exact (rfl : _ = Value.bool _) | exact (rfl : _ = Value.slice _ _ _) | exact (rfl : _ = Value.string _) | exact (rfl : _ = Value.pointer _) | exact (rfl : _ = Value.func _ _ _) | rfl) (by rfl) (by rfl) (by first | exact of_decide_eq_true rfl | (simp []; done) | (simp []; omega)) (by first | (simp only [List.set_cons_zero, List.set_cons_succ]; rfl) | (simp [List.set_append]; rfl)) rfl ?_)); clear H; intro w' H; try dsimp only at H))
    go_ret
    exact ⟨rfl, H⟩
  · by_cases h1 : 0 < lets
    · have e : (DS.mk on ws lets off).spend = (true, ⟨on, ws, lets - 1, off⟩) := by rw [DS.spend, if_neg h0, if_pos h1]
      have hne : (lets == 0) = false := beq_eq_false_iff_ne.mpr h0
      have k1 : IntKind.i64.wrap (lets - 1) = lets - 1 := i64w _ (by omega) (by omega)
      rw [e]
      go_enter Tryd.func70, Tryd.ntmps70
      go_wp2_with (first
        | ((with_reducible refine gLoad ?_); first | (refine aLoad1 H _ rfl rfl (by first | exact (rfl : _ = some (Value.int _ _)) | exact (rfl : _ = some (Value.slice _ _ _)) | exact (rfl : _ = some (Value.bool _)) | exact (rfl : _ = some (Value.string _)) | exact (rfl : _ = some (Value.pointer _)) | rfl | (simp [List.getElem?_append]; done)) rfl ?_) | (refine aLoadC _ rfl rfl (by assumption) rfl ?_))
        | ((with_reducible refine gStore ?_); (first | (refine aCell H _ _ rfl rfl (by first | exact (rfl : _ = Value.int _ _) | exact (rfl : _ = Value.bool _) | exact (rfl : _ = Value.slice _ _ _) | exact (rfl : _ = Value.string _) | exact (rfl : _ = Value.pointer _) | exact (rfl : _ = Value.func _ _ _) | rfl) (by rfl) (by rfl) (by first | exact of_decide_eq_true rfl | (simp []; done) | (simp []; omega)) (by first | (simp only [List.set_cons_zero, List.set_cons_succ]; rfl) | (simp [List.set_append]; rfl)) rfl ?_)); clear H; intro w' H; try dsimp only at H))
      go_ret
      exact ⟨rfl, H⟩
    · have e : (DS.mk on ws lets off).spend = (true, ⟨on, ws, lets, off⟩) := by rw [DS.spend, if_neg h0, if_neg h1]
      have hne : (lets == 0) = false := beq_eq_false_iff_ne.mpr h0
      have hn1 : (0 < lets) = False := eq_false h1
      rw [e]
      go_enter Tryd.func70, Tryd.ntmps70
      go_wp2_with (first
        | ((with_reducible refine gLoad ?_); first | (refine aLoad1 H _ rfl rfl (by first | exact (rfl : _ = some (Value.int _ _)) | exact (rfl : _ = some (Value.slice _ _ _)) | exact (rfl : _ = some (Value.bool _)) | exact (rfl : _ = some (Value.string _)) | exact (rfl : _ = some (Value.pointer _)) | rfl | (simp [List.getElem?_append]; done)) rfl ?_) | (refine aLoadC _ rfl rfl (by assumption) rfl ?_))
        | ((with_reducible refine gStore ?_); (first | (refine aCell H _ _ rfl rfl (by first | exact (rfl : _ = Value.int _ _) | exact (rfl : _ = Value.bool _) | exact (rfl : _ = Value.slice _ _ _) | exact (rfl : _ = Value.string _) | exact (rfl : _ = Value.pointer _) | exact (rfl : _ = Value.func _ _ _) | rfl) (by rfl) (by rfl) (by first | exact of_decide_eq_true rfl | (simp []; done) | (simp []; omega)) (by first | (simp only [List.set_cons_zero, List.set_cons_succ]; rfl) | (simp [List.set_append]; rfl)) rfl ?_)); clear H; intro w' H; try dsimp only at H))
      go_ret
      exact ⟨rfl, H⟩
end Go.Proofs.YticfcelbnkiopaaDoor

namespace Go.Proofs.YticfcelbnkiopaaDoor
set_option maxRecDepth 100000
open Go.RowKit Go.Shelf
set_option linter.unusedSimpArgs false
set_option linter.unusedVariables false

def sWT : ST Tryd.prog WV := ⟨WT, 140, .agg #[.int .i64 0, .slice none 0 0], Tryd.underlying140, by kernel_rfl, rfl⟩
def DS.write (st : DS) (i : Nat) (b : List UInt8) : DS := { st with ws := st.ws ++ [(i, b)] }
theorem DS.pairs_snoc (st : DS) (ss : List SVV) (h : ss.length = st.ws.length) (i : Nat) (b : List UInt8) (s : SVV) : st.pairs ss ++ [((i : Int), s)] = (st.write i b).pairs (ss ++ [s]) := by
  rw [DS.pairs, DS.pairs, DS.write, List.map_append, List.zip_append (by rw [List.length_map, h])]
  rfl
theorem sliceClone (v : Value) (xs : List UInt8) (w : World) (hv : RB w v xs) (hl : xs.length = 256) : Calls Tryd.prog 74 #[v] w fun e w' => ∃ A c, e = .returned (.slice A 256 c) ∧ OB w' w.heap.size (.slice A 256 c) xs ∧ Below w.heap.size w w' := by
  refine (Clone_any v xs w hv (by rw [hl]; decide)).mono ?_
  rintro e w' ⟨v', h1, h2, h3⟩
  obtain ⟨A, c, rfl, -⟩ := h2.reads.len
  rw [hl] at h1 h2
  exact ⟨A, c, h1, h2, h3⟩
theorem DS.spend_on (st : DS) : st.spend.2.on = st.on := by
  rw [DS.spend]
  split
  · rfl
  · split <;> rfl
theorem DS.spend_ws (st : DS) : st.spend.2.ws = st.ws := by
  rw [DS.spend]
  split
  · rfl
  · split <;> rfl
theorem DS.spend_pairs (st : DS) (ss : List SVV) : st.spend.2.pairs ss = st.pairs ss := by rw [DS.pairs, DS.pairs, DS.spend_ws]
/-- What a write to a sector does. -/
def DS.writeE (st : DS) (n : Nat) (i : Int) (b : List UInt8) : Int × DS :=
  if st.off then (8, st) else if i < 0 ∨ (n : Int) ≤ i ∨ b.length ≠ 256 then (1, st) else if st.spend.1 then (0, st.spend.2.write i.toNat b) else (8, st.spend.2)
set_option maxHeartbeats 3200000 in
theorem diskWrite_ok (bd bo n i : Nat) (vw vb : Value) (ss : List SVV) (st : DS) (b : List UInt8) (hs : st.ok n) (hl : -1 ≤ st.lets ∧ st.lets ≤ 9223372036854775807) (hoff : st.off = false) (hi : i < n) (hbl : b.length = 256) (hsp : st.spend.1 = true) (w : World)
    (hD : SH (feet (diskL bd bo vw ss st)) w w (diskL bd bo vw ss st)) (hv : ∀ w', Chg (feet (diskL bd bo vw ss st)) w w' → RB w' vb b) :
    Calls Tryd.prog 65 #[.pointer (some ⟨bd, 0, none⟩), .int .i64 (i : Int), vb] w fun e w' => e = .returned (.int .i64 0) ∧ ∃ vw' ss', SH (feet (diskL bd bo vw ss st)) w w' (diskL bd bo vw' ss' (st.spend.2.write i b)) := by
  obtain ⟨F, hF⟩ : ∃ F, F = feet (diskL bd bo vw ss st) := ⟨_, rfl⟩
  have HSP := Lib.hid (fun W (k : SH (feet (diskL bd bo vw ss st)) W W (diskL bd bo vw ss st)) => spend_any bd bo vw ss st hl W k)
  rw [← hF] at hD hv ⊢
  have H := hD
  obtain ⟨A0, c0, rfl, -⟩ := (hv w (Chg.refl _ _)).len
  rw [hbl] at hv ⊢
  have hlb : LB w ss (st.ws.map (·.2)) := by
    have h : (Own.rdAll ss (st.ws.map fun x : Nat × List UInt8 => x.2)).holds w := hD.holds _ (by simp [diskL])
    exact h
  have hsl : ss.length = st.ws.length := by rw [hlb.1, List.length_map]
  obtain ⟨m, hm⟩ : ∃ m, m = (st.pairs ss).length := ⟨_, rfl⟩
  have hmw : m = st.ws.length := by rw [hm, DS.pairs_len hsl]
  obtain ⟨A, cp, rfl, -⟩ : ∃ A c, vw = .slice A (st.pairs ss).length c ∧ _ := by
    unfold diskL at H
    exact (H.hold.rr vw).len
  have HAS := Lib.hid (fun W (k : W.cell? ⟨bd, 0, none⟩ = some (.slice (some ⟨bo, 0, none⟩) (n * 256) (n * 256))) => diskHas_c bd ⟨bo, 0, none⟩ n (n * 256) rfl hs.n2 i hi W k)
  have hol := hs.ol
  have hwl := hs.wl
  have hson := st.spend_on
  have hsws := st.spend_ws
  have hsps := st.spend_pairs ss
  rw [← hm] at H HSP
  clear hD hF
  unfold diskL at H
  have HOL := Lib.hid hol
  have HSON := Lib.hid hson
  have HSWS := Lib.hid hsws
  have HSPS := Lib.hid hsps
  have HV := Lib.hid hv
  have HBL := Lib.hid hbl
  have HSL := Lib.hid hsl
  have HM := Lib.hid hm
  have hml : m ≤ 1000000 := by omega
  have HMW := Lib.hid hmw
  clear hol hson hsws hsps hv hbl hsl hm hmw hlb hs hwl
  have h256 : ((256 : Int) != 256) = false := rfl
  go_enter Tryd.func65, Tryd.ntmps65
  go_wp2_with (first
    | (go_at_call 72; refine (HAS.out _ (by rw [← HOL.out]; exact (H.hold.va (b := bd)).cell 0)).mono ?_; rintro e w' ⟨rfl, rfl⟩)
    | (go_at_call 70; refine (HSP.out _ (SH.subL (D := diskL bd bo (.slice A m cp) ss st) (L := []) H)).mono ?_; rintro e w' ⟨rfl, k⟩; replace H := SH.viaL (D := diskL bd bo (.slice A m cp) ss st) (L := []) H k; clear k; rw [List.append_nil] at H; unfold diskL at H; rw [HSON.out, HSWS.out, HSPS.out] at H)
    | ((with_reducible refine gLoad ?_); first | (refine aLoad1 H _ rfl rfl (by first | exact (rfl : _ = some (Value.int _ _)) | exact (rfl : _ = some (Value.slice _ _ _)) | exact (rfl : _ = some (Value.bool _)) | exact (rfl : _ = some (Value.string _)) | exact (rfl : _ = some (Value.pointer _)) | rfl | (simp [List.getElem?_append]; done)) rfl ?_) | (refine aLoadC _ rfl rfl (by assumption) rfl ?_)))
  refine startA (fun i => i == 10 || i == 13) (by kernel_rfl) (fun wS hS => ?_)
  replace H := H.drew
  rw [← hS] at H
  have HH := H.hold
  have HS0 : Below wS.heap.size wS wS := Below.refl _ _
  clear hS
  refine takeP 0 rfl (by kernel_rfl) (by kernel_rfl) (by kernel_rfl) (by kernel_rfl) (fun _ _ _ h => h) rfl (v := ?_) ?_ ?_
  rotate_left
  · intro w'; go_simp; (try with_reducible rfl)
  (try simp only [Act.put, List.setIfInBounds_toArray, List.set_cons_zero, List.set_cons_succ])
  refine takeP 1 rfl (by kernel_rfl) (by kernel_rfl) (by kernel_rfl) (by kernel_rfl) (fun _ _ _ h => h) rfl (v := ?_) ?_ ?_
  rotate_left
  · intro w'; go_simp; (try with_reducible rfl)
  (try simp only [Act.put, List.setIfInBounds_toArray, List.set_cons_zero, List.set_cons_succ])
  refine takeP 2 rfl (by kernel_rfl) (by kernel_rfl) (by kernel_rfl) (by kernel_rfl) (fun _ _ _ h => h) rfl (v := ?_) ?_ ?_
  rotate_left
  · intro w'; go_simp; (try with_reducible rfl)
  (try simp only [Act.put, List.setIfInBounds_toArray, List.set_cons_zero, List.set_cons_succ])
  refine takeP 3 rfl (by kernel_rfl) (by kernel_rfl) (by kernel_rfl) (by kernel_rfl) (fun _ _ _ h => h) rfl (v := ?_) ?_ ?_
  rotate_left
  · intro w'; go_simp; (try with_reducible rfl)
  (try simp only [Act.put, List.setIfInBounds_toArray, List.set_cons_zero, List.set_cons_succ])
  refine takeL 4 HS0 rfl (by kernel_rfl) (by kernel_rfl) (by kernel_rfl) (by kernel_rfl) (by kernel_rfl) (fun _ _ _ h => h) rfl (v := ?_) ?_ ?_
  rotate_left
  · intro w' hw'; first | (refine Eq.trans (xLoad1 (HH.below hw') _ rfl rfl (by first | exact (rfl : _ = some (Value.int _ _)) | exact (rfl : _ = some (Value.slice _ _ _)) | exact (rfl : _ = some (Value.bool _)) | exact (rfl : _ = some (Value.string _)) | exact (rfl : _ = some (Value.pointer _)) | rfl | (simp [List.getElem?_append]; done))) ?_; with_reducible rfl) | (refine Eq.trans (xLoadC _ rfl rfl (cell_below hw' (by assumption))) ?_; with_reducible rfl)
  (try simp only [Act.put, List.setIfInBounds_toArray, List.set_cons_zero, List.set_cons_succ])
  refine takeP 5 rfl (by kernel_rfl) (by kernel_rfl) (by kernel_rfl) (by kernel_rfl) (fun _ _ _ h => h) rfl (v := ?_) ?_ ?_
  rotate_left
  · intro w'; go_simp; (try with_reducible rfl)
  (try simp only [Act.put, List.setIfInBounds_toArray, List.set_cons_zero, List.set_cons_succ])
  refine takeP 6 rfl (by kernel_rfl) (by kernel_rfl) (by kernel_rfl) (by kernel_rfl) (fun _ _ _ h => h) rfl (v := ?_) ?_ ?_
  rotate_left
  · intro w'; go_simp; (try with_reducible rfl)
  (try simp only [Act.put, List.setIfInBounds_toArray, List.set_cons_zero, List.set_cons_succ])
  refine stepL 7 rfl (by kernel_rfl) rfl (fun K hK => ?_)
  (go_simp; (with_reducible refine ((sliceClone _ b _ (HV.out _ H.chg) HBL.out)).mono ?_); rintro e w' ⟨A2, c2, rfl, ho, hb⟩; replace H := H.pushRow hb ho; clear ho; replace HS0 := below_two HS0 HS0.size hb; clear hb; refine hK.out _ _ (fun _ _ => HS0) ?_; clear K hK)
  (try simp only [Act.put, List.setIfInBounds_toArray, List.set_cons_zero, List.set_cons_succ])
  refine takeL 8 HS0 rfl (by kernel_rfl) (by kernel_rfl) (by kernel_rfl) (by kernel_rfl) (by kernel_rfl) (fun _ _ _ h => h) rfl (v := ?_) ?_ ?_
  rotate_left
  · intro w' hw'; refine Eq.trans (exec_build 144 _ rfl [.int .i64 (i : Int), .slice A2 256 c2] (by first | rfl | kernel_rfl)) ?_; with_reducible rfl
  (try simp only [Act.put, List.setIfInBounds_toArray, List.set_cons_zero, List.set_cons_succ])
  refine stepL 9 rfl (by kernel_rfl) rfl (fun K hK => ?_)
  (go_simp; refine hK.out _ _ (fun _ _ => below_two HS0 HS0.size (alloc_belowAt _ _)) ?_; clear K hK)
  (try simp only [Act.put, List.setIfInBounds_toArray, List.set_cons_zero, List.set_cons_succ])
  refine stepL 10 rfl (by kernel_rfl) rfl (fun K hK => ?_)
  (refine oAppL sWT [((i : Int), (A2, 256, c2))] #[.int .i64 (i : Int), .slice A2 256 c2] rfl (by simp) 1 rfl H _ _ rfl rfl rfl (by rw [← HM.out]; show (m + 1) * 32 ≤ _; omega) ?_; clear H; intro v' w' zs HZ H; (try dsimp only at H); obtain ⟨A', c', rfl, hc'⟩ := (H.hold.rr v').len; refine hK.out _ _ (fun h => by cases h) ?_; clear K hK)
  (try simp only [Act.put, List.setIfInBounds_toArray, List.set_cons_zero, List.set_cons_succ])
  refine takeP 11 rfl (by kernel_rfl) (by kernel_rfl) (by kernel_rfl) (by kernel_rfl) (fun _ _ _ h => h) rfl (v := ?_) ?_ ?_
  rotate_left
  · intro w'; go_simp; (try with_reducible rfl)
  (try simp only [Act.put, List.setIfInBounds_toArray, List.set_cons_zero, List.set_cons_succ])
  refine takeP 12 rfl (by kernel_rfl) (by kernel_rfl) (by kernel_rfl) (by kernel_rfl) (fun _ _ _ h => h) rfl (v := ?_) ?_ ?_
  rotate_left
  · intro w'; go_simp; (try with_reducible rfl)
  (try simp only [Act.put, List.setIfInBounds_toArray, List.set_cons_zero, List.set_cons_succ])
  refine stepL 13 rfl (by kernel_rfl) rfl (fun K hK => ?_)
  refine oCellA H _ _ rfl rfl (by first | exact (rfl : _ = Value.int _ _) | exact (rfl : _ = Value.bool _) | exact (rfl : _ = Value.slice _ _ _) | exact (rfl : _ = Value.string _) | exact (rfl : _ = Value.pointer _) | exact (rfl : _ = Value.func _ _ _) | rfl) (by rfl) (by rfl) (by first | exact of_decide_eq_true rfl | (simp []; done) | (simp []; omega)) (by first | (simp only [List.set_cons_zero, List.set_cons_succ]; rfl) | (simp [List.set_append]; rfl)) ?_
  clear H; intro w' H; (try dsimp only at H); refine hK.out _ _ (fun h => by cases h) ?_; clear K hK HS0
  (try simp only [Act.put, List.setIfInBounds_toArray, List.set_cons_zero, List.set_cons_succ])
  refine doneL (by kernel_rfl) ?_
  go_wp2
  go_ret
  have H2 := ((H.bring 4 rfl).bring 1 rfl).rdSnoc
  have H3 := ((H2.bring 3 rfl).bring 3 rfl).bring 3 rfl
  have e1 : (st.spend.2.write i b).pairs (ss ++ [(A2, 256, c2)]) = zs := by rw [HZ.out, ← HSPS.out]; exact (DS.pairs_snoc _ ss (by rw [HSWS.out]; exact HSL.out) i b _).symm
  have e2 : (st.spend.2.write i b).ws.map (·.2) = st.ws.map (·.2) ++ [b] := by show (st.spend.2.ws ++ [(i, b)]).map _ = _; rw [HSWS.out, List.map_append]; rfl
  have e3 : (st.spend.2.write i b).on = st.on := HSON.out
  refine ⟨rfl, .slice A' zs.length c', ss ++ [(A2, 256, c2)], ?_⟩
  unfold diskL
  rw [e1, e2, e3]
  exact H3
end Go.Proofs.YticfcelbnkiopaaDoor

namespace Go.Proofs.YticfcelbnkiopaaDoor
set_option maxRecDepth 100000
open Go.RowKit
set_option linter.unusedSimpArgs false
set_option linter.unusedVariables false

theorem eqI64 : EqT Tryd.prog 3 1 false 1 (fun x : Int => [.int .i64 x]) (fun x => .int .i64 x) (fun x y => x == y) :=
  EqT.int 3 .i64 (by kernel_rfl) (sizeOf_ok (by kernel_rfl)) (fun x : Int => x)
theorem xIdx2 {ρ : Operand → Value} {o : Oper} {w : World} (x y : Operand) (ho : o.op = .index 82 x y) (a b : Int) (hx : ρ x = .agg #[.int .i64 a, .int .i64 b]) (i : Nat) (hy : ρ y = .int .i64 (i : Int)) (hi : i < 2) : (execOp ρ o).run Tryd.prog w = .ok (.value (.int .i64 ([a, b].getD i 0))) w := by
  have := exec_index (w := w) eqI64 82 x y ho Tryd.underlying82 [a, b] hx rfl i .i64 hy hi
  rw [this, List.getD_eq_getElem?_getD, List.getElem?_eq_getElem hi]; rfl
/-- The first place. -/
def plA (u : UInt32) : Nat := if u.toNat % 2 = 0 then 0 else 2
theorem Places_c (u : UInt32) (w : World) : Calls Tryd.prog 38 #[.int .u32 (u.toNat : Int)] w fun e w' => e = .returned (.agg #[.int .i64 (plA u : Int), .int .i64 ((plA u + 1 : Nat) : Int)]) ∧ Below w.heap.size w w' := by
  refine (Places_any u w).mono ?_
  rintro e w' ⟨rfl, hb⟩
  refine ⟨?_, hb⟩
  unfold plA
  rcases Nat.mod_two_eq_zero_or_one u.toNat with h | h
  · rw [if_pos h, if_pos h, if_pos h]; rfl
  · rw [if_neg (by omega), if_neg (by omega), if_neg (by omega)]; rfl
def layK (st : DS) (b : List UInt8) (a : Nat) : Nat → DS
  | 0 => st
  | k + 1 => (layK st b a k).write (a + k) b
theorem layK_ok {st : DS} {n : Nat} (h : st.ok n) (b : List UInt8) (a : Nat) (ha : a + 2 ≤ n) (hb : b.length = 256) (hw : st.ws.length ≤ 1000) : ∀ k, k ≤ 2 → (layK st b a k).ok n ∧ (layK st b a k).lets = st.lets ∧ (layK st b a k).off = st.off ∧ (layK st b a k).ws.length = st.ws.length + k
  | 0, _ => ⟨h, rfl, rfl, rfl⟩
  | k + 1, hk => by
    obtain ⟨h1, h2, h3, h4⟩ := layK_ok h b a ha hb hw k (by omega)
    refine ⟨⟨h1.n1, h1.n2, h1.ol, fun j hj => ?_, ?_⟩, h2, h3, ?_⟩
    · change j < ((layK st b a k).ws ++ [(a + k, b)]).length at hj
      show (((layK st b a k).ws ++ [(a + k, b)]).getD j (0, [])).1 < n ∧ (((layK st b a k).ws ++ [(a + k, b)]).getD j (0, [])).2.length = 256
      rw [getD_snoc]
      rw [List.length_append, List.length_singleton] at hj
      by_cases e : j < (layK st b a k).ws.length
      · rw [if_pos e]; exact h1.ws j e
      · rw [if_neg e, if_pos (by omega)]; exact ⟨by show a + k < n; omega, hb⟩
    · show ((layK st b a k).ws ++ [(a + k, b)]).length ≤ 1000000
      rw [List.length_append, h4]; simp; omega
    · show ((layK st b a k).ws ++ [(a + k, b)]).length = _
      rw [List.length_append, h4]; rfl
theorem spend_free {st : DS} (h : st.lets = -1) : st.spend = (true, st) := by
  rw [DS.spend, if_neg (by rw [h]; decide), if_neg (by rw [h]; decide)]
theorem SH.keptL {F : Nat → Prop} {w0 w : World} {D L : List Own} (h : SH F w0 w (D ++ L)) {o : Own} (ho : o ∈ L) : ∀ w', Chg (feet D) w w' → o.holds w' := fun w' hc =>
  o.keep w w' (h.holds o (List.mem_append_right _ ho)) hc.size (fun b hf => hc.block b (o.lt w b (h.holds o (List.mem_append_right _ ho)) hf) (fun ⟨o', h1, h2⟩ => (List.pairwise_append.1 h.apart).2.2 o' h1 o ho b h2 hf))
theorem SH.takeL {F : Nat → Prop} {w0 w : World} {D L : List Own} (h : SH F w0 w (D ++ L)) : SH F w0 w D :=
  ⟨h.chg, fun o ho => h.holds o (List.mem_append_left _ ho), fun o ho => h.foot o (List.mem_append_left _ ho), (List.pairwise_append.1 h.apart).1⟩
def relLay (bd bo : Nat) (st : DS) (b : List UInt8) (a : Nat) (L : List Own) (F : Nat → Prop) (w : World) (v21 : Value) (wr : World) : Prop := ∃ (k : Nat) (vw : Value) (ss : List SVV), ((v21 = .int .i64 0 ∧ k = 0) ∨ (v21 = .int .i64 1 ∧ k = 1) ∨ (v21 = .int .i64 2 ∧ k = 2)) ∧ SH F w wr (diskL bd bo vw ss (layK st b a k) ++ L)
set_option maxHeartbeats 3200000 in
theorem labLay_ok (bd bo n : Nat) (vw : Value) (ss : List SVV) (st : DS) (u : UInt32) (p : PT) (A : Option Addr) (c : Nat) (xs : List UInt8) (hok : labOk p xs = true) (hs : st.ok n) (hlets : st.lets = -1) (hoff : st.off = false) (hw : st.ws.length ≤ 1000) (w : World)
    (hD : SH (feet (diskL bd bo vw ss st)) w w (diskL bd bo vw ss st)) (hv : RB w (.slice A xs.length c) xs) :
    Calls Tryd.prog 47 #[.pointer (some ⟨bd, 0, none⟩), .agg (lbC u p (.slice A xs.length c)).toArray] w fun e w' => e = .returned (.int .i64 0) ∧ ∃ vw' ss', SH (feet (diskL bd bo vw ss st)) w w' (diskL bd bo vw' ss' (layK st (labW u p xs) (plA u) 2)) := by
  have hx : xs.length = 64 := by rw [labOk, Bool.and_eq_true, beq_iff_eq] at hok; exact hok.2
  have hE : ∀ W, RB W (.slice A xs.length c) xs → Calls Tryd.prog 36 #[.agg (lbC u p (.slice A xs.length c)).toArray] W fun e w' => ∃ Ab cb, e = .returned (.tuple #[.slice Ab 256 cb, .int .i64 0]) ∧ OB w' W.heap.size (.slice Ab 256 cb) (labW u p xs) ∧ Below W.heap.size W w' := fun W h => by
    refine (labEncode_any u p A c xs W h).mono ?_
    rintro e w' ⟨v, rfl, ho, hb⟩
    rw [labL, if_pos hok] at ho
    rw [labE, if_pos hok]
    obtain ⟨A', c', rfl, -⟩ := ho.reads.len
    rw [labW_len u p xs hx] at ho ⊢
    exact ⟨A', c', rfl, ho, hb⟩
  have ha : plA u ≤ 2 := by unfold plA; split <;> omega
  have hn16 := hs.n1
  have hbl := labW_len u p xs hx
  have HWR := Lib.hid (fun (k : Nat) (hk : k < 2) (vw : Value) (ss : List SVV) (vb : Value) (W : World) (kD : SH (feet (diskL bd bo vw ss (layK st (labW u p xs) (plA u) k))) W W (diskL bd bo vw ss (layK st (labW u p xs) (plA u) k))) (hvb : ∀ w', Chg (feet (diskL bd bo vw ss (layK st (labW u p xs) (plA u) k))) W w' → RB w' vb (labW u p xs)) => by
    obtain ⟨h1, h2, h3, h4⟩ := layK_ok hs (labW u p xs) (plA u) (by omega) hbl hw k (by omega)
    have hsp := spend_free (h2.trans hlets)
    have := diskWrite_ok bd bo n (plA u + k) vw vb ss (layK st (labW u p xs) (plA u) k) (labW u p xs) h1 (by rw [h2, hlets]; decide) (h3.trans hoff) (by omega) hbl (by rw [hsp]) W kD hvb
    rw [hsp] at this
    exact this)
  have HE := Lib.hid hE
  have HPC := Lib.hid (fun W => Places_c u W)
  have hu0 := Lib.hid (lbC_txg u p (.slice A xs.length c))
  have HLL := Lib.hid (lbC_len u p (.slice A xs.length c))
  have hw0 : ∀ vw ss vb W, SH (feet (diskL bd bo vw ss (layK st (labW u p xs) (plA u) 0))) W W (diskL bd bo vw ss (layK st (labW u p xs) (plA u) 0)) → (∀ w', Chg (feet (diskL bd bo vw ss (layK st (labW u p xs) (plA u) 0))) W w' → RB w' vb (labW u p xs)) → Calls Tryd.prog 65 #[.pointer (some ⟨bd, 0, none⟩), .int .i64 (plA u : Int), vb] W fun e w' => e = .returned (.int .i64 0) ∧ ∃ vw' ss', SH (feet (diskL bd bo vw ss (layK st (labW u p xs) (plA u) 0))) W w' (diskL bd bo vw' ss' (layK st (labW u p xs) (plA u) 1)) := fun vw ss vb W kD hvb => HWR.out 0 (by omega) vw ss vb W kD hvb
  have hw1 : ∀ vw ss vb W, SH (feet (diskL bd bo vw ss (layK st (labW u p xs) (plA u) 1))) W W (diskL bd bo vw ss (layK st (labW u p xs) (plA u) 1)) → (∀ w', Chg (feet (diskL bd bo vw ss (layK st (labW u p xs) (plA u) 1))) W w' → RB w' vb (labW u p xs)) → Calls Tryd.prog 65 #[.pointer (some ⟨bd, 0, none⟩), .int .i64 ((plA u : Int) + 1), vb] W fun e w' => e = .returned (.int .i64 0) ∧ ∃ vw' ss', SH (feet (diskL bd bo vw ss (layK st (labW u p xs) (plA u) 1))) W w' (diskL bd bo vw' ss' (layK st (labW u p xs) (plA u) 2)) := fun vw ss vb W kD hvb => HWR.out 1 (by omega) vw ss vb W kD hvb
  clear HWR
  have H0 := hD
  have H := SH.start Nil w
  have RO := HOLD.rdOne hv
  obtain ⟨F, hF⟩ : ∃ F, F = feet (diskL bd bo vw ss st) := ⟨_, rfl⟩
  rw [← hF] at H0 ⊢
  obtain ⟨lb, hlb⟩ : ∃ lb, lb = labW u p xs := ⟨_, rfl⟩
  rw [← hlb] at HE hw0 hw1 hbl ⊢
  generalize hpa : plA u = pa at *
  clear hE hv hD hF hok hs hlets hoff hw hn16 hlb hpa
  have hbl' := Lib.hid hbl
  clear hbl
  rw [hx] at RO HE HLL hu0 ⊢
  clear hx
  go_enter Tryd.func47, Tryd.ntmps47
  go_wp2_with (first
    | ((with_reducible refine gDst 11 ?_); refine aLoad H _ rfl rfl (part_all HLL.out) HLL.out rfl ?_)
    | (go_at_call 36; (with_reducible refine (HE.out _ ((H.old RO).rd _)).mono ?_); rintro e w' ⟨Ab, cb, rfl, ho, hb⟩; replace H := H.pushRow hb ho; clear hb ho)
    | (go_at_call 38; (with_reducible refine (HPC.out _).mono ?_); rintro e w' ⟨rfl, hb⟩; replace H := H.step hb; clear hb)
    | ((with_reducible refine gDst 3 ?_); refine aBox H _ rfl rfl rfl ?_; clear H; intro b3 w3 H)
    | ((with_reducible refine gLoad ?_); first | (refine aLoad1 H _ rfl rfl (by first | exact (rfl : _ = some (Value.int _ _)) | exact (rfl : _ = some (Value.slice _ _ _)) | exact (rfl : _ = some (Value.bool _)) | exact (rfl : _ = some (Value.string _)) | exact (rfl : _ = some (Value.pointer _)) | rfl | (simp [List.getElem?_append]; done)) rfl ?_) | (refine aLoadR1 RO H _ rfl rfl (by first | exact (rfl : _ = some (Value.int _ _)) | exact (rfl : _ = some (Value.slice _ _ _)) | exact (rfl : _ = some (Value.bool _)) | exact (rfl : _ = some (Value.string _)) | exact (rfl : _ = some (Value.pointer _)) | rfl | (simp [List.getElem?_append]; done)) rfl ?_) | (refine aLoadC _ rfl rfl (by assumption) rfl ?_) | (refine aLoad H _ rfl rfl (by first | exact part_all (by first | rfl | simp []) | (simp only [List.drop_succ_cons, List.drop_zero, List.take_succ_cons, List.take_zero]; rfl) | (simp [List.drop_append, List.take_append]; rfl)) (by first | rfl | simp []) rfl ?_) | (refine aLoadR RO H _ rfl rfl (by first | exact part_all (by first | rfl | simp []) | (simp only [List.drop_succ_cons, List.drop_zero, List.take_succ_cons, List.take_zero]; rfl) | (simp [List.drop_append, List.take_append]; rfl)) (by first | rfl | simp []) rfl ?_)))
  have HJ := H0.join H
  unfold diskL at HJ
  have HK := (((HJ.bring 5 rfl).bring 5 rfl).bring 5 rfl).bring 5 rfl
  obtain ⟨L, hL1, hL⟩ : ∃ L, Own.row B8 (.slice Ab 256 cb) lb ∈ L ∧ SH F w w' (diskL bd bo vw ss st ++ L) := ⟨[.row B8 (.slice Ab 256 cb) lb, .blk b3 _ _], by simp, HK⟩
  have HLM := Lib.hid hL1
  clear HJ HK H H0 hL1
  go_loopw [21] (fun v21 wr => relLay bd bo st lb pa L F w v21 wr) (fun v _ => 2 - (intOf v).toNat)
  case atStart => exact ⟨0, vw, ss, .inl ⟨rfl, rfl⟩, hL⟩
  case round =>
    obtain ⟨k, vw1, ss1, hk, HS⟩ := hrel
    clear hL
    have hvb : ∀ w', Chg (feet (diskL bd bo vw1 ss1 (layK st lb pa k))) wr w' → RB w' (.slice Ab 256 cb) lb := fun w' hc => OR.reads (base := 0) (T := B8) (HS.keptL HLM.out w' hc)
    rcases hk with ⟨rfl, rfl⟩ | ⟨rfl, rfl⟩ | ⟨rfl, rfl⟩
    · have hc := hw0 vw1 ss1 (.slice Ab 256 cb) wr (SH.subL HS) hvb
      have HC := Lib.hid hc
      clear hc hvb
      go_wp2_with (first
        | ((with_reducible refine gDst 23 ?_); refine stepV (xIdx2 _ _ rfl (pa : Int) ((pa : Int) + 1) rfl 0 rfl (by decide)) rfl ?_)
        | (go_at_call 65; (with_reducible refine (HC.out).mono ?_); rintro e w' ⟨rfl, vw2, ss2, k2⟩; have H := SH.viaL HS k2; clear k2 HS))
      go_roundw
      case rel => first | exact ⟨1, vw2, ss2, .inr (.inl ⟨rfl, rfl⟩), H⟩ | exact ⟨_, ⟨1, vw2, ss2, .inr (.inl ⟨rfl, rfl⟩), H⟩, rfl⟩ | exact ⟨_, _, ⟨1, vw2, ss2, .inr (.inl ⟨rfl, rfl⟩), H⟩, rfl, rfl⟩ | exact ⟨_, _, _, ⟨1, vw2, ss2, .inr (.inl ⟨rfl, rfl⟩), H⟩, rfl, rfl, rfl⟩ | exact ⟨_, _, _, _, ⟨1, vw2, ss2, .inr (.inl ⟨rfl, rfl⟩), H⟩, rfl, rfl, rfl, rfl⟩ | exact ⟨_, _, _, _, _, ⟨1, vw2, ss2, .inr (.inl ⟨rfl, rfl⟩), H⟩, rfl, rfl, rfl, rfl, rfl⟩ | ((repeat (apply Exists.intro)); exact ⟨⟨1, vw2, ss2, .inr (.inl ⟨rfl, rfl⟩), H⟩, rfl⟩)
      case measure => simp [intOf] <;> omega
    · have hc := hw1 vw1 ss1 (.slice Ab 256 cb) wr (SH.subL HS) hvb
      have HC := Lib.hid hc
      clear hc hvb
      go_wp2_with (first
        | ((with_reducible refine gDst 23 ?_); refine stepV (xIdx2 _ _ rfl (pa : Int) ((pa : Int) + 1) rfl 1 rfl (by decide)) rfl ?_)
        | (go_at_call 65; (with_reducible refine (HC.out).mono ?_); rintro e w' ⟨rfl, vw2, ss2, k2⟩; have H := SH.viaL HS k2; clear k2 HS))
      go_roundw
      case rel => first | exact ⟨2, vw2, ss2, .inr (.inr ⟨rfl, rfl⟩), H⟩ | exact ⟨_, ⟨2, vw2, ss2, .inr (.inr ⟨rfl, rfl⟩), H⟩, rfl⟩ | exact ⟨_, _, ⟨2, vw2, ss2, .inr (.inr ⟨rfl, rfl⟩), H⟩, rfl, rfl⟩ | exact ⟨_, _, _, ⟨2, vw2, ss2, .inr (.inr ⟨rfl, rfl⟩), H⟩, rfl, rfl, rfl⟩ | exact ⟨_, _, _, _, ⟨2, vw2, ss2, .inr (.inr ⟨rfl, rfl⟩), H⟩, rfl, rfl, rfl, rfl⟩ | exact ⟨_, _, _, _, _, ⟨2, vw2, ss2, .inr (.inr ⟨rfl, rfl⟩), H⟩, rfl, rfl, rfl, rfl, rfl⟩ | ((repeat (apply Exists.intro)); exact ⟨⟨2, vw2, ss2, .inr (.inr ⟨rfl, rfl⟩), H⟩, rfl⟩)
      case measure => simp [intOf] <;> omega
    · go_wp2
      go_ret
      exact ⟨rfl, vw1, ss1, (SH.takeL HS)⟩
end Go.Proofs.YticfcelbnkiopaaDoor
