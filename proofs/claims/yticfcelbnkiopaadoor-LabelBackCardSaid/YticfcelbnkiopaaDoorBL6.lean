/- Ground of the statements LabelDecode, LabelBack, part 6: Lb8, Alive05, Law05b, Lb9, Lb10, Lb11, RowKit, Lb12, RowPtr, RowGen, RowLab. -/
import Derived.WalkKit
import Derived.ProofKit
import Derived.OpenShut
import Derived.ShutString
import Derived.ChangeOld
import Derived.Below
import Derived.SizedLaws
import Derived.ChangeSlices
import Derived.Test.YticfcelbnkiopaaDoorBL5
namespace Go.Proofs.YticfcelbnkiopaaDoor
set_option maxRecDepth 100000
open Go.RowKit
set_option linter.unusedSimpArgs false
set_option linter.unusedVariables false

theorem res_cell_tmp2 {P : Program} {fn : Func} {d e f : Tmp} {t t2 : TypeId} (hf : fn.results = #[.cell d t, .tmp e, .tmp f]) (tmps : Array Value) {w : World} {L : List Own} (H : HOLD L w) {b n : Nat} {cs z : List Value} {put : List Value → List Own} (hp : tmps.getD d undef = .pointer (some ⟨b, 0, none⟩)) [HasB L b t2 cs put] [T : TI P t n z] (hl : cs.length = n) :
    (results fn tmps).run P w = .ok (.tuple #[.agg cs.toArray, tmps.getD e undef, tmps.getD f undef]) w := by
  obtain ⟨td, h1, h2⟩ := T.under
  have hp2 : tmps[d]?.getD undef = .pointer (some ⟨b, 0, none⟩) := by rw [← hp]; simp
  simp [results, hf, hp2, asAddr, run_loadVar_va H.va t td h1 h2 (by rw [hl]; exact T.size)]
def standsB (u : UInt32) (i : Nat) : Bool := plA u == i || plA u + 1 == i
set_option maxHeartbeats 1600000 in
theorem stands_any (u : UInt32) (i : Nat) (w : World) : Calls Tryd.prog 102 #[.int .u32 (u.toNat : Int), .int .i64 (i : Int)] w fun e w' => e = .returned (.bool (standsB u i)) ∧ Below w.heap.size w w' := by
  have H := SH.start Nil w
  have HPC := Lib.hid (fun W => Places_c u W)
  unfold standsB
  generalize plA u = a at *
  by_cases h1 : a = i
  · have k1 : ((a : Int) == (i : Int)) = true := by simp; omega
    have e1 : (a == i || a + 1 == i) = true := by simp [h1]
    rw [e1]
    clear h1 e1
    go_enter Tryd.func102, Tryd.ntmps102
    go_wp2_with (first
      | (go_at_call 38; (with_reducible refine (HPC.out _).mono ?_); rintro e w' ⟨rfl, hb⟩; replace H := H.step hb; clear hb)
      | ((with_reducible refine gDst 5 ?_); refine aAlloc H rfl rfl ?_; clear H; intro b5 w5 H)
      | ((with_reducible refine gLoad ?_); first | (refine aLoad1 H _ rfl rfl (by first | exact (rfl : _ = some (Value.int _ _)) | exact (rfl : _ = some (Value.slice _ _ _)) | exact (rfl : _ = some (Value.bool _)) | exact (rfl : _ = some (Value.string _)) | exact (rfl : _ = some (Value.pointer _)) | rfl | (simp [List.getElem?_append]; done)) rfl ?_) | (refine aLoadC _ rfl rfl (by assumption) rfl ?_))
      | ((with_reducible refine gStore ?_); (first | (refine aStore H _ _ rfl rfl rfl (by (first | exact ⟨rfl, rfl⟩ | exact ⟨by decide, rfl⟩ | (simp []; done) | (constructor <;> simp [] <;> omega))) (by first | rfl | simp [List.all_append, one_all]) rfl ?_) | (refine aLay H _ _ rfl rfl rfl (by (first | exact ⟨rfl, rfl⟩ | exact ⟨by decide, rfl⟩ | (simp []; done) | (constructor <;> simp [] <;> omega))) (by first | rfl | simp [List.all_append, one_all]) (by simp only [lay, List.take_succ_cons, List.take_zero, List.drop_succ_cons, List.drop_zero, List.nil_append, List.cons_append, List.length_cons, List.length_nil, Nat.zero_add, Nat.reduceAdd]; rfl) rfl ?_)); clear H; intro w' H; try dsimp only at H))
    go_ret
    exact ⟨rfl, H.below⟩
  · have k1 : ((a : Int) == (i : Int)) = false := beq_eq_false_iff_ne.2 (by omega)
    by_cases h2 : a + 1 = i
    · have k2 : ((a : Int) + 1 == (i : Int)) = true := by simp; omega
      have e1 : (a == i || a + 1 == i) = true := by simp [h2]
      rw [e1]
      clear h1 h2 e1
      go_enter Tryd.func102, Tryd.ntmps102
      go_wp2_with (first
        | (go_at_call 38; (with_reducible refine (HPC.out _).mono ?_); rintro e w' ⟨rfl, hb⟩; replace H := H.step hb; clear hb)
        | ((with_reducible refine gDst 5 ?_); refine aAlloc H rfl rfl ?_; clear H; intro b5 w5 H)
        | ((with_reducible refine gLoad ?_); first | (refine aLoad1 H _ rfl rfl (by first | exact (rfl : _ = some (Value.int _ _)) | exact (rfl : _ = some (Value.slice _ _ _)) | exact (rfl : _ = some (Value.bool _)) | exact (rfl : _ = some (Value.string _)) | exact (rfl : _ = some (Value.pointer _)) | rfl | (simp [List.getElem?_append]; done)) rfl ?_) | (refine aLoadC _ rfl rfl (by assumption) rfl ?_))
        | ((with_reducible refine gStore ?_); (first | (refine aStore H _ _ rfl rfl rfl (by (first | exact ⟨rfl, rfl⟩ | exact ⟨by decide, rfl⟩ | (simp []; done) | (constructor <;> simp [] <;> omega))) (by first | rfl | simp [List.all_append, one_all]) rfl ?_) | (refine aLay H _ _ rfl rfl rfl (by (first | exact ⟨rfl, rfl⟩ | exact ⟨by decide, rfl⟩ | (simp []; done) | (constructor <;> simp [] <;> omega))) (by first | rfl | simp [List.all_append, one_all]) (by simp only [lay, List.take_succ_cons, List.take_zero, List.drop_succ_cons, List.drop_zero, List.nil_append, List.cons_append, List.length_cons, List.length_nil, Nat.zero_add, Nat.reduceAdd]; rfl) rfl ?_)); clear H; intro w' H; try dsimp only at H))
      go_ret
      exact ⟨rfl, H.below⟩
    · have k2 : ((a : Int) + 1 == (i : Int)) = false := beq_eq_false_iff_ne.2 (by omega)
      have e1 : (a == i || a + 1 == i) = false := by simp [h1, h2]
      rw [e1]
      clear h1 h2 e1
      go_enter Tryd.func102, Tryd.ntmps102
      go_wp2_with (first
        | (go_at_call 38; (with_reducible refine (HPC.out _).mono ?_); rintro e w' ⟨rfl, hb⟩; replace H := H.step hb; clear hb)
        | ((with_reducible refine gDst 5 ?_); refine aAlloc H rfl rfl ?_; clear H; intro b5 w5 H)
        | ((with_reducible refine gLoad ?_); first | (refine aLoad1 H _ rfl rfl (by first | exact (rfl : _ = some (Value.int _ _)) | exact (rfl : _ = some (Value.slice _ _ _)) | exact (rfl : _ = some (Value.bool _)) | exact (rfl : _ = some (Value.string _)) | exact (rfl : _ = some (Value.pointer _)) | rfl | (simp [List.getElem?_append]; done)) rfl ?_) | (refine aLoadC _ rfl rfl (by assumption) rfl ?_))
        | ((with_reducible refine gStore ?_); (first | (refine aStore H _ _ rfl rfl rfl (by (first | exact ⟨rfl, rfl⟩ | exact ⟨by decide, rfl⟩ | (simp []; done) | (constructor <;> simp [] <;> omega))) (by first | rfl | simp [List.all_append, one_all]) rfl ?_) | (refine aLay H _ _ rfl rfl rfl (by (first | exact ⟨rfl, rfl⟩ | exact ⟨by decide, rfl⟩ | (simp []; done) | (constructor <;> simp [] <;> omega))) (by first | rfl | simp [List.all_append, one_all]) (by simp only [lay, List.take_succ_cons, List.take_zero, List.drop_succ_cons, List.drop_zero, List.nil_append, List.cons_append, List.length_cons, List.length_nil, Nat.zero_add, Nat.reduceAdd]; rfl) rfl ?_)); clear H; intro w' H; try dsimp only at H))
      go_ret
      exact ⟨rfl, H.below⟩
theorem slice_tup {f : FuncId} {args : Array Value} {w : World} {l : List UInt8} {n : Nat} {y : Value} (hn : l.length = n) (h : Calls Tryd.prog f args w fun e w' => ∃ v, e = .returned (.tuple #[v, y]) ∧ OB w' w.heap.size v l ∧ Below w.heap.size w w') :
    Calls Tryd.prog f args w fun e w' => ∃ A c, e = .returned (.tuple #[.slice A n c, y]) ∧ OB w' w.heap.size (.slice A n c) l ∧ Below w.heap.size w w' :=
  h.mono fun e w' ⟨v, h1, h2, h3⟩ => by
    obtain ⟨A, c, rfl, -⟩ := h2.reads.len
    rw [hn] at h1 h2
    exact ⟨A, c, h1, h2, h3⟩
/-- What is chosen so far. -/
structure CH where
  u : UInt32
  p : PT
  m : List UInt8
  many : Nat
def CH.none : CH := ⟨0, PT.hole, [], 0⟩
def CH.step (a : CH) (b : List UInt8) (i : Nat) : CH :=
  if lbE b = 0 ∧ standsB (lbTxg b) i = true then (if a.many = 0 ∨ a.u.toNat < (lbTxg b).toNat then ⟨lbTxg b, decP (lbRoot b), lbMap b, 1⟩ else if lbTxg b = a.u then { a with many := a.many + 1 } else a) else a
def chS (st : DS) : Nat → CH
  | 0 => CH.none
  | i + 1 => (chS st i).step (st.read i) i
theorem CH.step_many (a : CH) (b : List UInt8) (i : Nat) : (a.step b i).many ≤ a.many + 1 ∧ (a.many = 0 → (a.step b i).many = 0 → a.step b i = a) ∧ (a.many ≠ 0 → (a.step b i).many ≠ 0) := by
  unfold CH.step
  split
  · split
    · refine ⟨by simp, fun _ h => ?_, fun _ => by simp⟩
      cases h
    · split
      · refine ⟨by simp, fun _ h => ?_, fun _ => by simp⟩
        cases h
      · exact ⟨by omega, fun _ _ => rfl, fun h => h⟩
  · exact ⟨by omega, fun _ _ => rfl, fun h => h⟩
theorem chS_many (st : DS) : ∀ i, (chS st i).many ≤ i ∧ ((chS st i).many = 0 → chS st i = CH.none)
  | 0 => ⟨Nat.le_refl _, fun _ => rfl⟩
  | i + 1 => by
    obtain ⟨h1, h2⟩ := chS_many st i
    obtain ⟨k1, k2, k3⟩ := CH.step_many (chS st i) (st.read i) i
    refine ⟨by show ((chS st i).step _ _).many ≤ _; omega, fun h => ?_⟩
    change ((chS st i).step _ _).many = 0 at h
    by_cases hz : (chS st i).many = 0
    · show (chS st i).step _ _ = _
      rw [k2 hz h, h2 hz]
    · exact absurd h (k3 hz)
def chE (st : DS) : Int := if (chS st 4).many = 0 then 15 else 0
def relCh (st : DS) (w : World) (b2 b5 : Nat) (v6 v11 : Value) (wr : World) : Prop := ∃ (i many : Nat) (a : CH) (A : Option Addr) (c : Nat), v11 = .int .i64 (i : Int) ∧ i ≤ 4 ∧ v6 = .int .i64 (many : Int) ∧ a.many = many ∧ Hid (chS st i = a) ∧ SH Nil w wr [.row B8 (.slice A a.m.length c) a.m, .blk b5 80 (lbC a.u a.p (.slice A a.m.length c)), .blk b2 80 (lbC 0 PT.hole (.slice none 0 0))]
set_option maxHeartbeats 6400000 in
theorem labChoose_ok (bd bo n : Nat) (vw : Value) (ss : List SVV) (st : DS) (hs : st.ok n) (hoff : st.off = false) (w : World) (hD : HOLD (diskL bd bo vw ss st) w) :
    Calls Tryd.prog 53 #[.pointer (some ⟨bd, 0, none⟩)] w fun e w' => ∃ A c, e = .returned (.tuple #[.agg (lbC (chS st 4).u (chS st 4).p (.slice A (chS st 4).m.length c)).toArray, .int .i64 ((chS st 4).many : Int), .int .i64 (chE st)]) ∧ OB w' w.heap.size (.slice A (chS st 4).m.length c) (chS st 4).m ∧ Below w.heap.size w w' := by
  have H := SH.start Nil w
  have RO := hD
  have hn16 := hs.n1
  have HRD' := fun (i : Nat) (hi : i < 4) W (h : HOLD (diskL bd bo vw ss st) W) => slice_tup (DS.readK_len hs i (by omega) st.ws.length (Nat.le_refl _)) (diskRead_ok bd bo n i vw ss st hs hoff (by omega) W h)
  have HLL := Lib.hid lbC_len
  have HLO := Lib.hid (fun u p A n c => lbC_one u p (.slice A n c) rfl)
  have HTX : Hid (∀ u p v, (lbC u p v)[0]? = some (.int .u32 (u.toNat : Int))) := Lib.hid lbC_txg
  clear hs hoff hD hn16
  go_enter Tryd.func53, Tryd.ntmps53
  go_wp2_with (first
    | ((with_reducible refine gDst 2 ?_); refine aAlloc H rfl rfl ?_; clear H; intro b2 w2 H)
    | ((with_reducible refine gDst 5 ?_); refine aAlloc H rfl rfl ?_; clear H; intro b5 w5 H)
    | ((with_reducible refine gDst 10 ?_); refine aAlloc H rfl rfl ?_; clear H; intro b10 w10 H)
    | ((with_reducible refine gLoad ?_); first | (refine aLoad1 H _ rfl rfl (by first | exact (rfl : _ = some (Value.int _ _)) | exact (rfl : _ = some (Value.slice _ _ _)) | exact (rfl : _ = some (Value.bool _)) | exact (rfl : _ = some (Value.string _)) | exact (rfl : _ = some (Value.pointer _)) | rfl | (simp [List.getElem?_append]; done)) rfl ?_) | (refine aLoadC _ rfl rfl (by assumption) rfl ?_) | (refine aLoad H _ rfl rfl (by first | exact part_all (by first | rfl | simp []) | (simp only [List.drop_succ_cons, List.drop_zero, List.take_succ_cons, List.take_zero]; rfl) | (simp [List.drop_append, List.take_append]; rfl)) (by first | rfl | simp []) rfl ?_))
    | ((with_reducible refine gBuild ?_); refine aZero rfl rfl ?_)
    | ((with_reducible refine gStore ?_); (first | (refine aStore H _ _ rfl rfl rfl (by (first | exact ⟨rfl, rfl⟩ | exact ⟨by decide, rfl⟩ | (simp []; done) | (constructor <;> simp [] <;> omega))) (by first | rfl | simp [List.all_append, one_all]) rfl ?_) | (refine aLay H _ _ rfl rfl rfl (by (first | exact ⟨rfl, rfl⟩ | exact ⟨by decide, rfl⟩ | (simp []; done) | (constructor <;> simp [] <;> omega))) (by first | rfl | simp [List.all_append, one_all]) (by simp only [lay, List.take_succ_cons, List.take_zero, List.drop_succ_cons, List.drop_zero, List.nil_append, List.cons_append, List.length_cons, List.length_nil, Nat.zero_add, Nat.reduceAdd]; rfl) rfl ?_)); clear H; intro w' H; try dsimp only at H))
  have H2 : SH Nil w _ [.row B8 (.slice none CH.none.m.length 0) CH.none.m, .blk b5 80 (lbC CH.none.u CH.none.p (.slice none CH.none.m.length 0)), .blk b2 80 (lbC 0 PT.hole (.slice none 0 0))] := H.nilRow B8
  clear H
  go_loopw [6, 11] (fun v6 v11 wr => relCh st w b2 b5 v6 v11 wr) (fun _ v _ => 4 - (intOf v).toNat)
  case atStart => exact ⟨0, 0, CH.none, none, 0, rfl, by omega, rfl, rfl, rfl, H2⟩
  case round =>
    obtain ⟨i, many, a, A, c, rfl, hi, rfl, hmany, HA, HS⟩ := hrel
    clear H2
    have H := HS
    clear HS
    by_cases hi4 : i < 4
    · have hii : (i : Int) < 4 := by omega
      have HRD := Lib.hid (HRD' i hi4)
      have hnext : chS st (i + 1) = a.step (st.read i) i := by show (chS st i).step _ _ = _; rw [HA.out]
      have HNX := Lib.hid hnext
      clear hnext HRD'
      change Hid (∀ W, HOLD (diskL bd bo vw ss st) W → Calls Tryd.prog 101 #[.pointer (some ⟨bd, 0, none⟩), .int .i64 (i : Int)] W fun e w' => ∃ A c, e = .returned (.tuple #[.slice A 256 c, .int .i64 0]) ∧ OB w' W.heap.size (.slice A 256 c) (st.read i) ∧ Below W.heap.size W w') at HRD
      generalize st.read i = b at *
      have HST := Lib.hid (fun W => stands_any (lbTxg b) i W)
      have HDB := Lib.hid (fun A n c W (h : RB W (.slice A n c) b) hc => labDecode_any A n c b W h hc)
      by_cases hE : lbE b = 0
      · have e1 : decLU b = lbTxg b := if_pos hE
        have e2 : decLP b = decP (lbRoot b) := if_pos hE
        have e3 : decLM b = lbMap b := if_pos hE
        simp only [LabTold, hE, e1, e2, e3] at HDB
        have hstep : a.step b i = if standsB (lbTxg b) i = true then (if a.many = 0 ∨ a.u.toNat < (lbTxg b).toNat then ⟨lbTxg b, decP (lbRoot b), lbMap b, 1⟩ else if lbTxg b = a.u then { a with many := a.many + 1 } else a) else a := by
          rw [CH.step]
          simp only [hE, true_and]
        rw [hstep] at HNX
        clear e1 e2 e3 hstep hE
        generalize lbTxg b = u1 at *
        generalize decP (lbRoot b) = p1 at *
        generalize lbMap b = m1 at *
        have hmb : a.many ≤ i := by rw [← HA.out]; exact (chS_many st i).1
        have hmi : (many : Int) ≤ 4 := by omega
        cases hs : standsB u1 i with
        | false =>
          rw [hs] at HST HNX
          have HNX' := Lib.hid (HNX.out.trans (if_neg (by decide)))
          clear HNX
          go_wp2_with (first
            | (go_at_call 101; (with_reducible refine (HRD.out _ (H.old RO)).mono ?_); rintro e w' ⟨A16, c16, rfl, ho, hb⟩; have hcap := OR.cap ho; replace H := H.pushRow hb ho; clear hb ho)
            | (go_at_call 40; (with_reducible refine (HDB.out _ _ _ _ (H.hold.rr _) hcap).mono ?_); rintro e w' ⟨⟨A25, c25, rfl, ho⟩, hb⟩; replace H := H.pushRow hb ho; clear hb ho)
            | ((with_reducible refine gSto (.tmp 10) (.tmp 27) ?_); refine aStore H _ _ rfl rfl rfl ⟨by rfl, HLL.out _ _ _⟩ (HLO.out _ _ _ _ _) rfl ?_; clear H; intro w' H; (try dsimp only at H))
            | ((with_reducible refine gDst 34 ?_); refine aLoad1 H _ rfl rfl (HTX.out _ _ _) rfl ?_)
            | ((with_reducible refine gDst 44 ?_); refine aLoad1 H _ rfl rfl (HTX.out _ _ _) rfl ?_)
            | ((with_reducible refine gDst 46 ?_); refine aLoad1 H _ rfl rfl (HTX.out _ _ _) rfl ?_)
            | ((with_reducible refine gDst 52 ?_); refine aLoad1 H _ rfl rfl (HTX.out _ _ _) rfl ?_)
            | ((with_reducible refine gDst 54 ?_); refine aLoad1 H _ rfl rfl (HTX.out _ _ _) rfl ?_)
            | ((with_reducible refine gDst 49 ?_); refine aLoad H _ rfl rfl (part_all (HLL.out _ _ _)) (HLL.out _ _ _) rfl ?_)
            | ((with_reducible refine gSto (.tmp 5) (.tmp 49) ?_); refine aStore H _ _ rfl rfl rfl ⟨HLL.out _ _ _, HLL.out _ _ _⟩ (HLO.out _ _ _ _ _) rfl ?_; clear H; intro w' H; (try dsimp only at H))
            | (go_at_call 102; (with_reducible refine (HST.out _).mono ?_); rintro e w' ⟨rfl, hb⟩; replace H := H.step hb; clear hb)
            | ((with_reducible refine gDst 2 ?_); refine aAlloc H rfl rfl ?_; clear H; intro b2 w2 H)
            | ((with_reducible refine gDst 5 ?_); refine aAlloc H rfl rfl ?_; clear H; intro b5 w5 H)
            | ((with_reducible refine gDst 10 ?_); refine aAlloc H rfl rfl ?_; clear H; intro b10 w10 H)
            | ((with_reducible refine gLoad ?_); first | (refine aLoad1 H _ rfl rfl (by first | exact (rfl : _ = some (Value.int _ _)) | exact (rfl : _ = some (Value.slice _ _ _)) | exact (rfl : _ = some (Value.bool _)) | exact (rfl : _ = some (Value.string _)) | exact (rfl : _ = some (Value.pointer _)) | rfl | (simp [List.getElem?_append]; done)) rfl ?_) | (refine aLoadC _ rfl rfl (by assumption) rfl ?_) | (refine aLoad H _ rfl rfl (by first | exact part_all (by first | rfl | simp []) | (simp only [List.drop_succ_cons, List.drop_zero, List.take_succ_cons, List.take_zero]; rfl) | (simp [List.drop_append, List.take_append]; rfl)) (by first | rfl | simp []) rfl ?_))
            | ((with_reducible refine gBuild ?_); refine aZero rfl rfl ?_)
            | ((with_reducible refine gStore ?_); (first | (refine aStore H _ _ rfl rfl rfl (by (first | exact ⟨rfl, rfl⟩ | exact ⟨by decide, rfl⟩ | (simp []; done) | (constructor <;> simp [] <;> omega))) (by first | rfl | simp [List.all_append, one_all]) rfl ?_) | (refine aLay H _ _ rfl rfl rfl (by (first | exact ⟨rfl, rfl⟩ | exact ⟨by decide, rfl⟩ | (simp []; done) | (constructor <;> simp [] <;> omega))) (by first | rfl | simp [List.all_append, one_all]) (by simp only [lay, List.take_succ_cons, List.take_zero, List.drop_succ_cons, List.drop_zero, List.nil_append, List.cons_append, List.length_cons, List.length_nil, Nat.zero_add, Nat.reduceAdd]; rfl) rfl ?_)); clear H; intro w' H; try dsimp only at H))
          have H3 := H.tail.tail.tail
          go_roundw
          case rel => first | exact ⟨i + 1, many, a, A, c, by go_num, by omega, rfl, hmany, HNX', H3⟩ | exact ⟨_, ⟨i + 1, many, a, A, c, by go_num, by omega, rfl, hmany, HNX', H3⟩, rfl⟩ | exact ⟨_, _, ⟨i + 1, many, a, A, c, by go_num, by omega, rfl, hmany, HNX', H3⟩, rfl, rfl⟩ | exact ⟨_, _, _, ⟨i + 1, many, a, A, c, by go_num, by omega, rfl, hmany, HNX', H3⟩, rfl, rfl, rfl⟩ | exact ⟨_, _, _, _, ⟨i + 1, many, a, A, c, by go_num, by omega, rfl, hmany, HNX', H3⟩, rfl, rfl, rfl, rfl⟩ | exact ⟨_, _, _, _, _, ⟨i + 1, many, a, A, c, by go_num, by omega, rfl, hmany, HNX', H3⟩, rfl, rfl, rfl, rfl, rfl⟩ | ((repeat (apply Exists.intro)); exact ⟨⟨i + 1, many, a, A, c, by go_num, by omega, rfl, hmany, HNX', H3⟩, rfl⟩)
          case measure => simp [intOf] <;> omega
        | true =>
          rw [hs] at HST HNX
          have HNX1 := HNX.out.trans (if_pos rfl)
          clear HNX
          by_cases hz : many = 0
          · have h0 : ((many : Int) == 0) = true := by simp [hz]
            have h0' : (many : Int) = 0 := by omega
            have HNX' := Lib.hid (HNX1.trans (if_pos (.inl (hmany.trans hz))))
            clear HNX1 h0'
            subst hz
            go_wp2_with (first
              | (go_at_call 101; (with_reducible refine (HRD.out _ (H.old RO)).mono ?_); rintro e w' ⟨A16, c16, rfl, ho, hb⟩; have hcap := OR.cap ho; replace H := H.pushRow hb ho; clear hb ho)
              | (go_at_call 40; (with_reducible refine (HDB.out _ _ _ _ (H.hold.rr _) hcap).mono ?_); rintro e w' ⟨⟨A25, c25, rfl, ho⟩, hb⟩; replace H := H.pushRow hb ho; clear hb ho)
              | ((with_reducible refine gSto (.tmp 10) (.tmp 27) ?_); refine aStore H _ _ rfl rfl rfl ⟨by rfl, HLL.out _ _ _⟩ (HLO.out _ _ _ _ _) rfl ?_; clear H; intro w' H; (try dsimp only at H))
              | ((with_reducible refine gDst 34 ?_); refine aLoad1 H _ rfl rfl (HTX.out _ _ _) rfl ?_)
              | ((with_reducible refine gDst 44 ?_); refine aLoad1 H _ rfl rfl (HTX.out _ _ _) rfl ?_)
              | ((with_reducible refine gDst 46 ?_); refine aLoad1 H _ rfl rfl (HTX.out _ _ _) rfl ?_)
              | ((with_reducible refine gDst 52 ?_); refine aLoad1 H _ rfl rfl (HTX.out _ _ _) rfl ?_)
              | ((with_reducible refine gDst 54 ?_); refine aLoad1 H _ rfl rfl (HTX.out _ _ _) rfl ?_)
              | ((with_reducible refine gDst 49 ?_); refine aLoad H _ rfl rfl (part_all (HLL.out _ _ _)) (HLL.out _ _ _) rfl ?_)
              | ((with_reducible refine gSto (.tmp 5) (.tmp 49) ?_); refine aStore H _ _ rfl rfl rfl ⟨HLL.out _ _ _, HLL.out _ _ _⟩ (HLO.out _ _ _ _ _) rfl ?_; clear H; intro w' H; (try dsimp only at H))
              | (go_at_call 102; (with_reducible refine (HST.out _).mono ?_); rintro e w' ⟨rfl, hb⟩; replace H := H.step hb; clear hb)
              | ((with_reducible refine gDst 2 ?_); refine aAlloc H rfl rfl ?_; clear H; intro b2 w2 H)
              | ((with_reducible refine gDst 5 ?_); refine aAlloc H rfl rfl ?_; clear H; intro b5 w5 H)
              | ((with_reducible refine gDst 10 ?_); refine aAlloc H rfl rfl ?_; clear H; intro b10 w10 H)
              | ((with_reducible refine gLoad ?_); first | (refine aLoad1 H _ rfl rfl (by first | exact (rfl : _ = some (Value.int _ _)) | exact (rfl : _ = some (Value.slice _ _ _)) | exact (rfl : _ = some (Value.bool _)) | exact (rfl : _ = some (Value.string _)) | exact (rfl : _ = some (Value.pointer _)) | rfl | (simp [List.getElem?_append]; done)) rfl ?_) | (refine aLoadC _ rfl rfl (by assumption) rfl ?_) | (refine aLoad H _ rfl rfl (by first | exact part_all (by first | rfl | simp []) | (simp only [List.drop_succ_cons, List.drop_zero, List.take_succ_cons, List.take_zero]; rfl) | (simp [List.drop_append, List.take_append]; rfl)) (by first | rfl | simp []) rfl ?_))
              | ((with_reducible refine gBuild ?_); refine aZero rfl rfl ?_)
              | ((with_reducible refine gStore ?_); (first | (refine aStore H _ _ rfl rfl rfl (by (first | exact ⟨rfl, rfl⟩ | exact ⟨by decide, rfl⟩ | (simp []; done) | (constructor <;> simp [] <;> omega))) (by first | rfl | simp [List.all_append, one_all]) rfl ?_) | (refine aLay H _ _ rfl rfl rfl (by (first | exact ⟨rfl, rfl⟩ | exact ⟨by decide, rfl⟩ | (simp []; done) | (constructor <;> simp [] <;> omega))) (by first | rfl | simp [List.all_append, one_all]) (by simp only [lay, List.take_succ_cons, List.take_zero, List.drop_succ_cons, List.drop_zero, List.nil_append, List.cons_append, List.length_cons, List.length_nil, Nat.zero_add, Nat.reduceAdd]; rfl) rfl ?_)); clear H; intro w' H; try dsimp only at H))
            have H3 := H.sub (.cons _ (.cons_cons _ (.cons _ (.cons _ (.cons_cons _ (.cons_cons _ .slnil))))))
            go_roundw
            case rel => first | exact ⟨i + 1, 1, ⟨u1, p1, m1, 1⟩, A25, c25, by go_num, by omega, rfl, rfl, HNX', H3⟩ | exact ⟨_, ⟨i + 1, 1, ⟨u1, p1, m1, 1⟩, A25, c25, by go_num, by omega, rfl, rfl, HNX', H3⟩, rfl⟩ | exact ⟨_, _, ⟨i + 1, 1, ⟨u1, p1, m1, 1⟩, A25, c25, by go_num, by omega, rfl, rfl, HNX', H3⟩, rfl, rfl⟩ | exact ⟨_, _, _, ⟨i + 1, 1, ⟨u1, p1, m1, 1⟩, A25, c25, by go_num, by omega, rfl, rfl, HNX', H3⟩, rfl, rfl, rfl⟩ | exact ⟨_, _, _, _, ⟨i + 1, 1, ⟨u1, p1, m1, 1⟩, A25, c25, by go_num, by omega, rfl, rfl, HNX', H3⟩, rfl, rfl, rfl, rfl⟩ | exact ⟨_, _, _, _, _, ⟨i + 1, 1, ⟨u1, p1, m1, 1⟩, A25, c25, by go_num, by omega, rfl, rfl, HNX', H3⟩, rfl, rfl, rfl, rfl, rfl⟩ | ((repeat (apply Exists.intro)); exact ⟨⟨i + 1, 1, ⟨u1, p1, m1, 1⟩, A25, c25, by go_num, by omega, rfl, rfl, HNX', H3⟩, rfl⟩)
            case measure => simp [intOf] <;> omega
          · have h0 : ((many : Int) == 0) = false := beq_eq_false_iff_ne.2 (by omega)
            have hz' : ¬ a.many = 0 := by omega
            by_cases hgt : a.u.toNat < u1.toNat
            · have h1 : ((a.u.toNat : Int) < (u1.toNat : Int)) = True := eq_true (by omega)
              have HNX' := Lib.hid (HNX1.trans (if_pos (.inr hgt)))
              clear HNX1
              go_wp2_with (first
                | (go_at_call 101; (with_reducible refine (HRD.out _ (H.old RO)).mono ?_); rintro e w' ⟨A16, c16, rfl, ho, hb⟩; have hcap := OR.cap ho; replace H := H.pushRow hb ho; clear hb ho)
                | (go_at_call 40; (with_reducible refine (HDB.out _ _ _ _ (H.hold.rr _) hcap).mono ?_); rintro e w' ⟨⟨A25, c25, rfl, ho⟩, hb⟩; replace H := H.pushRow hb ho; clear hb ho)
                | ((with_reducible refine gSto (.tmp 10) (.tmp 27) ?_); refine aStore H _ _ rfl rfl rfl ⟨by rfl, HLL.out _ _ _⟩ (HLO.out _ _ _ _ _) rfl ?_; clear H; intro w' H; (try dsimp only at H))
                | ((with_reducible refine gDst 34 ?_); refine aLoad1 H _ rfl rfl (HTX.out _ _ _) rfl ?_)
                | ((with_reducible refine gDst 44 ?_); refine aLoad1 H _ rfl rfl (HTX.out _ _ _) rfl ?_)
                | ((with_reducible refine gDst 46 ?_); refine aLoad1 H _ rfl rfl (HTX.out _ _ _) rfl ?_)
                | ((with_reducible refine gDst 52 ?_); refine aLoad1 H _ rfl rfl (HTX.out _ _ _) rfl ?_)
                | ((with_reducible refine gDst 54 ?_); refine aLoad1 H _ rfl rfl (HTX.out _ _ _) rfl ?_)
                | ((with_reducible refine gDst 49 ?_); refine aLoad H _ rfl rfl (part_all (HLL.out _ _ _)) (HLL.out _ _ _) rfl ?_)
                | ((with_reducible refine gSto (.tmp 5) (.tmp 49) ?_); refine aStore H _ _ rfl rfl rfl ⟨HLL.out _ _ _, HLL.out _ _ _⟩ (HLO.out _ _ _ _ _) rfl ?_; clear H; intro w' H; (try dsimp only at H))
                | (go_at_call 102; (with_reducible refine (HST.out _).mono ?_); rintro e w' ⟨rfl, hb⟩; replace H := H.step hb; clear hb)
                | ((with_reducible refine gDst 2 ?_); refine aAlloc H rfl rfl ?_; clear H; intro b2 w2 H)
                | ((with_reducible refine gDst 5 ?_); refine aAlloc H rfl rfl ?_; clear H; intro b5 w5 H)
                | ((with_reducible refine gDst 10 ?_); refine aAlloc H rfl rfl ?_; clear H; intro b10 w10 H)
                | ((with_reducible refine gLoad ?_); first | (refine aLoad1 H _ rfl rfl (by first | exact (rfl : _ = some (Value.int _ _)) | exact (rfl : _ = some (Value.slice _ _ _)) | exact (rfl : _ = some (Value.bool _)) | exact (rfl : _ = some (Value.string _)) | exact (rfl : _ = some (Value.pointer _)) | rfl | (simp [List.getElem?_append]; done)) rfl ?_) | (refine aLoadC _ rfl rfl (by assumption) rfl ?_) | (refine aLoad H _ rfl rfl (by first | exact part_all (by first | rfl | simp []) | (simp only [List.drop_succ_cons, List.drop_zero, List.take_succ_cons, List.take_zero]; rfl) | (simp [List.drop_append, List.take_append]; rfl)) (by first | rfl | simp []) rfl ?_))
                | ((with_reducible refine gBuild ?_); refine aZero rfl rfl ?_)
                | ((with_reducible refine gStore ?_); (first | (refine aStore H _ _ rfl rfl rfl (by (first | exact ⟨rfl, rfl⟩ | exact ⟨by decide, rfl⟩ | (simp []; done) | (constructor <;> simp [] <;> omega))) (by first | rfl | simp [List.all_append, one_all]) rfl ?_) | (refine aLay H _ _ rfl rfl rfl (by (first | exact ⟨rfl, rfl⟩ | exact ⟨by decide, rfl⟩ | (simp []; done) | (constructor <;> simp [] <;> omega))) (by first | rfl | simp [List.all_append, one_all]) (by simp only [lay, List.take_succ_cons, List.take_zero, List.drop_succ_cons, List.drop_zero, List.nil_append, List.cons_append, List.length_cons, List.length_nil, Nat.zero_add, Nat.reduceAdd]; rfl) rfl ?_)); clear H; intro w' H; try dsimp only at H))
              have H3 := H.sub (.cons _ (.cons_cons _ (.cons _ (.cons _ (.cons_cons _ (.cons_cons _ .slnil))))))
              go_roundw
              case rel => first | exact ⟨i + 1, 1, ⟨u1, p1, m1, 1⟩, A25, c25, by go_num, by omega, rfl, rfl, HNX', H3⟩ | exact ⟨_, ⟨i + 1, 1, ⟨u1, p1, m1, 1⟩, A25, c25, by go_num, by omega, rfl, rfl, HNX', H3⟩, rfl⟩ | exact ⟨_, _, ⟨i + 1, 1, ⟨u1, p1, m1, 1⟩, A25, c25, by go_num, by omega, rfl, rfl, HNX', H3⟩, rfl, rfl⟩ | exact ⟨_, _, _, ⟨i + 1, 1, ⟨u1, p1, m1, 1⟩, A25, c25, by go_num, by omega, rfl, rfl, HNX', H3⟩, rfl, rfl, rfl⟩ | exact ⟨_, _, _, _, ⟨i + 1, 1, ⟨u1, p1, m1, 1⟩, A25, c25, by go_num, by omega, rfl, rfl, HNX', H3⟩, rfl, rfl, rfl, rfl⟩ | exact ⟨_, _, _, _, _, ⟨i + 1, 1, ⟨u1, p1, m1, 1⟩, A25, c25, by go_num, by omega, rfl, rfl, HNX', H3⟩, rfl, rfl, rfl, rfl, rfl⟩ | ((repeat (apply Exists.intro)); exact ⟨⟨i + 1, 1, ⟨u1, p1, m1, 1⟩, A25, c25, by go_num, by omega, rfl, rfl, HNX', H3⟩, rfl⟩)
              case measure => simp [intOf] <;> omega
            · have h1 : ((a.u.toNat : Int) < (u1.toNat : Int)) = False := eq_false (by omega)
              have HNX2 := HNX1.trans (if_neg (fun h => h.elim hz' hgt))
              clear HNX1
              by_cases heq : u1 = a.u
              · have h2 : ((u1.toNat : Int) == (a.u.toNat : Int)) = true := by rw [heq]; simp
                have HNX' := Lib.hid (HNX2.trans (if_pos heq))
                clear HNX2 heq
                go_wp2_with (first
                  | (go_at_call 101; (with_reducible refine (HRD.out _ (H.old RO)).mono ?_); rintro e w' ⟨A16, c16, rfl, ho, hb⟩; have hcap := OR.cap ho; replace H := H.pushRow hb ho; clear hb ho)
                  | (go_at_call 40; (with_reducible refine (HDB.out _ _ _ _ (H.hold.rr _) hcap).mono ?_); rintro e w' ⟨⟨A25, c25, rfl, ho⟩, hb⟩; replace H := H.pushRow hb ho; clear hb ho)
                  | ((with_reducible refine gSto (.tmp 10) (.tmp 27) ?_); refine aStore H _ _ rfl rfl rfl ⟨by rfl, HLL.out _ _ _⟩ (HLO.out _ _ _ _ _) rfl ?_; clear H; intro w' H; (try dsimp only at H))
                  | ((with_reducible refine gDst 34 ?_); refine aLoad1 H _ rfl rfl (HTX.out _ _ _) rfl ?_)
                  | ((with_reducible refine gDst 44 ?_); refine aLoad1 H _ rfl rfl (HTX.out _ _ _) rfl ?_)
                  | ((with_reducible refine gDst 46 ?_); refine aLoad1 H _ rfl rfl (HTX.out _ _ _) rfl ?_)
                  | ((with_reducible refine gDst 52 ?_); refine aLoad1 H _ rfl rfl (HTX.out _ _ _) rfl ?_)
                  | ((with_reducible refine gDst 54 ?_); refine aLoad1 H _ rfl rfl (HTX.out _ _ _) rfl ?_)
                  | ((with_reducible refine gDst 49 ?_); refine aLoad H _ rfl rfl (part_all (HLL.out _ _ _)) (HLL.out _ _ _) rfl ?_)
                  | ((with_reducible refine gSto (.tmp 5) (.tmp 49) ?_); refine aStore H _ _ rfl rfl rfl ⟨HLL.out _ _ _, HLL.out _ _ _⟩ (HLO.out _ _ _ _ _) rfl ?_; clear H; intro w' H; (try dsimp only at H))
                  | (go_at_call 102; (with_reducible refine (HST.out _).mono ?_); rintro e w' ⟨rfl, hb⟩; replace H := H.step hb; clear hb)
                  | ((with_reducible refine gDst 2 ?_); refine aAlloc H rfl rfl ?_; clear H; intro b2 w2 H)
                  | ((with_reducible refine gDst 5 ?_); refine aAlloc H rfl rfl ?_; clear H; intro b5 w5 H)
                  | ((with_reducible refine gDst 10 ?_); refine aAlloc H rfl rfl ?_; clear H; intro b10 w10 H)
                  | ((with_reducible refine gLoad ?_); first | (refine aLoad1 H _ rfl rfl (by first | exact (rfl : _ = some (Value.int _ _)) | exact (rfl : _ = some (Value.slice _ _ _)) | exact (rfl : _ = some (Value.bool _)) | exact (rfl : _ = some (Value.string _)) | exact (rfl : _ = some (Value.pointer _)) | rfl | (simp [List.getElem?_append]; done)) rfl ?_) | (refine aLoadC _ rfl rfl (by assumption) rfl ?_) | (refine aLoad H _ rfl rfl (by first | exact part_all (by first | rfl | simp []) | (simp only [List.drop_succ_cons, List.drop_zero, List.take_succ_cons, List.take_zero]; rfl) | (simp [List.drop_append, List.take_append]; rfl)) (by first | rfl | simp []) rfl ?_))
                  | ((with_reducible refine gBuild ?_); refine aZero rfl rfl ?_)
                  | ((with_reducible refine gStore ?_); (first | (refine aStore H _ _ rfl rfl rfl (by (first | exact ⟨rfl, rfl⟩ | exact ⟨by decide, rfl⟩ | (simp []; done) | (constructor <;> simp [] <;> omega))) (by first | rfl | simp [List.all_append, one_all]) rfl ?_) | (refine aLay H _ _ rfl rfl rfl (by (first | exact ⟨rfl, rfl⟩ | exact ⟨by decide, rfl⟩ | (simp []; done) | (constructor <;> simp [] <;> omega))) (by first | rfl | simp [List.all_append, one_all]) (by simp only [lay, List.take_succ_cons, List.take_zero, List.drop_succ_cons, List.drop_zero, List.nil_append, List.cons_append, List.length_cons, List.length_nil, Nat.zero_add, Nat.reduceAdd]; rfl) rfl ?_)); clear H; intro w' H; try dsimp only at H))
                have H3 := H.tail.tail.tail
                go_roundw
                case rel => first | exact ⟨i + 1, many + 1, { a with many := a.many + 1 }, A, c, by go_num, by omega, by go_num, by show a.many + 1 = many + 1; omega, HNX', H3⟩ | exact ⟨_, ⟨i + 1, many + 1, { a with many := a.many + 1 }, A, c, by go_num, by omega, by go_num, by show a.many + 1 = many + 1; omega, HNX', H3⟩, rfl⟩ | exact ⟨_, _, ⟨i + 1, many + 1, { a with many := a.many + 1 }, A, c, by go_num, by omega, by go_num, by show a.many + 1 = many + 1; omega, HNX', H3⟩, rfl, rfl⟩ | exact ⟨_, _, _, ⟨i + 1, many + 1, { a with many := a.many + 1 }, A, c, by go_num, by omega, by go_num, by show a.many + 1 = many + 1; omega, HNX', H3⟩, rfl, rfl, rfl⟩ | exact ⟨_, _, _, _, ⟨i + 1, many + 1, { a with many := a.many + 1 }, A, c, by go_num, by omega, by go_num, by show a.many + 1 = many + 1; omega, HNX', H3⟩, rfl, rfl, rfl, rfl⟩ | exact ⟨_, _, _, _, _, ⟨i + 1, many + 1, { a with many := a.many + 1 }, A, c, by go_num, by omega, by go_num, by show a.many + 1 = many + 1; omega, HNX', H3⟩, rfl, rfl, rfl, rfl, rfl⟩ | ((repeat (apply Exists.intro)); exact ⟨⟨i + 1, many + 1, { a with many := a.many + 1 }, A, c, by go_num, by omega, by go_num, by show a.many + 1 = many + 1; omega, HNX', H3⟩, rfl⟩)
                case measure => simp [intOf] <;> omega
              · have h2 : ((u1.toNat : Int) == (a.u.toNat : Int)) = false := by rw [u32_eq]; simp [heq]
                have HNX' := Lib.hid (HNX2.trans (if_neg heq))
                clear HNX2 heq
                go_wp2_with (first
                  | (go_at_call 101; (with_reducible refine (HRD.out _ (H.old RO)).mono ?_); rintro e w' ⟨A16, c16, rfl, ho, hb⟩; have hcap := OR.cap ho; replace H := H.pushRow hb ho; clear hb ho)
                  | (go_at_call 40; (with_reducible refine (HDB.out _ _ _ _ (H.hold.rr _) hcap).mono ?_); rintro e w' ⟨⟨A25, c25, rfl, ho⟩, hb⟩; replace H := H.pushRow hb ho; clear hb ho)
                  | ((with_reducible refine gSto (.tmp 10) (.tmp 27) ?_); refine aStore H _ _ rfl rfl rfl ⟨by rfl, HLL.out _ _ _⟩ (HLO.out _ _ _ _ _) rfl ?_; clear H; intro w' H; (try dsimp only at H))
                  | ((with_reducible refine gDst 34 ?_); refine aLoad1 H _ rfl rfl (HTX.out _ _ _) rfl ?_)
                  | ((with_reducible refine gDst 44 ?_); refine aLoad1 H _ rfl rfl (HTX.out _ _ _) rfl ?_)
                  | ((with_reducible refine gDst 46 ?_); refine aLoad1 H _ rfl rfl (HTX.out _ _ _) rfl ?_)
                  | ((with_reducible refine gDst 52 ?_); refine aLoad1 H _ rfl rfl (HTX.out _ _ _) rfl ?_)
                  | ((with_reducible refine gDst 54 ?_); refine aLoad1 H _ rfl rfl (HTX.out _ _ _) rfl ?_)
                  | ((with_reducible refine gDst 49 ?_); refine aLoad H _ rfl rfl (part_all (HLL.out _ _ _)) (HLL.out _ _ _) rfl ?_)
                  | ((with_reducible refine gSto (.tmp 5) (.tmp 49) ?_); refine aStore H _ _ rfl rfl rfl ⟨HLL.out _ _ _, HLL.out _ _ _⟩ (HLO.out _ _ _ _ _) rfl ?_; clear H; intro w' H; (try dsimp only at H))
                  | (go_at_call 102; (with_reducible refine (HST.out _).mono ?_); rintro e w' ⟨rfl, hb⟩; replace H := H.step hb; clear hb)
                  | ((with_reducible refine gDst 2 ?_); refine aAlloc H rfl rfl ?_; clear H; intro b2 w2 H)
                  | ((with_reducible refine gDst 5 ?_); refine aAlloc H rfl rfl ?_; clear H; intro b5 w5 H)
                  | ((with_reducible refine gDst 10 ?_); refine aAlloc H rfl rfl ?_; clear H; intro b10 w10 H)
                  | ((with_reducible refine gLoad ?_); first | (refine aLoad1 H _ rfl rfl (by first | exact (rfl : _ = some (Value.int _ _)) | exact (rfl : _ = some (Value.slice _ _ _)) | exact (rfl : _ = some (Value.bool _)) | exact (rfl : _ = some (Value.string _)) | exact (rfl : _ = some (Value.pointer _)) | rfl | (simp [List.getElem?_append]; done)) rfl ?_) | (refine aLoadC _ rfl rfl (by assumption) rfl ?_) | (refine aLoad H _ rfl rfl (by first | exact part_all (by first | rfl | simp []) | (simp only [List.drop_succ_cons, List.drop_zero, List.take_succ_cons, List.take_zero]; rfl) | (simp [List.drop_append, List.take_append]; rfl)) (by first | rfl | simp []) rfl ?_))
                  | ((with_reducible refine gBuild ?_); refine aZero rfl rfl ?_)
                  | ((with_reducible refine gStore ?_); (first | (refine aStore H _ _ rfl rfl rfl (by (first | exact ⟨rfl, rfl⟩ | exact ⟨by decide, rfl⟩ | (simp []; done) | (constructor <;> simp [] <;> omega))) (by first | rfl | simp [List.all_append, one_all]) rfl ?_) | (refine aLay H _ _ rfl rfl rfl (by (first | exact ⟨rfl, rfl⟩ | exact ⟨by decide, rfl⟩ | (simp []; done) | (constructor <;> simp [] <;> omega))) (by first | rfl | simp [List.all_append, one_all]) (by simp only [lay, List.take_succ_cons, List.take_zero, List.drop_succ_cons, List.drop_zero, List.nil_append, List.cons_append, List.length_cons, List.length_nil, Nat.zero_add, Nat.reduceAdd]; rfl) rfl ?_)); clear H; intro w' H; try dsimp only at H))
                have H3 := H.tail.tail.tail
                go_roundw
                case rel => first | exact ⟨i + 1, many, a, A, c, by go_num, by omega, rfl, hmany, HNX', H3⟩ | exact ⟨_, ⟨i + 1, many, a, A, c, by go_num, by omega, rfl, hmany, HNX', H3⟩, rfl⟩ | exact ⟨_, _, ⟨i + 1, many, a, A, c, by go_num, by omega, rfl, hmany, HNX', H3⟩, rfl, rfl⟩ | exact ⟨_, _, _, ⟨i + 1, many, a, A, c, by go_num, by omega, rfl, hmany, HNX', H3⟩, rfl, rfl, rfl⟩ | exact ⟨_, _, _, _, ⟨i + 1, many, a, A, c, by go_num, by omega, rfl, hmany, HNX', H3⟩, rfl, rfl, rfl, rfl⟩ | exact ⟨_, _, _, _, _, ⟨i + 1, many, a, A, c, by go_num, by omega, rfl, hmany, HNX', H3⟩, rfl, rfl, rfl, rfl, rfl⟩ | ((repeat (apply Exists.intro)); exact ⟨⟨i + 1, many, a, A, c, by go_num, by omega, rfl, hmany, HNX', H3⟩, rfl⟩)
                case measure => simp [intOf] <;> omega
      · have hEI : ((lbE b) != 0) = true := by simpa using hE
        have hEQ : ((lbE b) == 0) = false := beq_eq_false_iff_ne.2 hE
        have hstep : a.step b i = a := by rw [CH.step, if_neg (fun h => hE h.1)]
        rw [hstep] at HNX
        have HNX' := Lib.hid HNX.out
        clear hE hstep HNX
        go_wp2_with (first
          | (go_at_call 101; (with_reducible refine (HRD.out _ (H.old RO)).mono ?_); rintro e w' ⟨A16, c16, rfl, ho, hb⟩; have hcap := OR.cap ho; replace H := H.pushRow hb ho; clear hb ho)
          | (go_at_call 40; (with_reducible refine (HDB.out _ _ _ _ (H.hold.rr _) hcap).mono ?_); rintro e w' ⟨⟨A25, c25, rfl, ho⟩, hb⟩; replace H := H.pushRow hb ho; clear hb ho)
          | ((with_reducible refine gSto (.tmp 10) (.tmp 27) ?_); refine aStore H _ _ rfl rfl rfl ⟨by rfl, HLL.out _ _ _⟩ (HLO.out _ _ _ _ _) rfl ?_; clear H; intro w' H; (try dsimp only at H))
          | ((with_reducible refine gDst 34 ?_); refine aLoad1 H _ rfl rfl (HTX.out _ _ _) rfl ?_)
          | ((with_reducible refine gDst 44 ?_); refine aLoad1 H _ rfl rfl (HTX.out _ _ _) rfl ?_)
          | ((with_reducible refine gDst 46 ?_); refine aLoad1 H _ rfl rfl (HTX.out _ _ _) rfl ?_)
          | ((with_reducible refine gDst 52 ?_); refine aLoad1 H _ rfl rfl (HTX.out _ _ _) rfl ?_)
          | ((with_reducible refine gDst 54 ?_); refine aLoad1 H _ rfl rfl (HTX.out _ _ _) rfl ?_)
          | ((with_reducible refine gDst 49 ?_); refine aLoad H _ rfl rfl (part_all (HLL.out _ _ _)) (HLL.out _ _ _) rfl ?_)
          | ((with_reducible refine gSto (.tmp 5) (.tmp 49) ?_); refine aStore H _ _ rfl rfl rfl ⟨HLL.out _ _ _, HLL.out _ _ _⟩ (HLO.out _ _ _ _ _) rfl ?_; clear H; intro w' H; (try dsimp only at H))
          | (go_at_call 102; (with_reducible refine (HST.out _).mono ?_); rintro e w' ⟨rfl, hb⟩; replace H := H.step hb; clear hb)
          | ((with_reducible refine gDst 2 ?_); refine aAlloc H rfl rfl ?_; clear H; intro b2 w2 H)
          | ((with_reducible refine gDst 5 ?_); refine aAlloc H rfl rfl ?_; clear H; intro b5 w5 H)
          | ((with_reducible refine gDst 10 ?_); refine aAlloc H rfl rfl ?_; clear H; intro b10 w10 H)
          | ((with_reducible refine gLoad ?_); first | (refine aLoad1 H _ rfl rfl (by first | exact (rfl : _ = some (Value.int _ _)) | exact (rfl : _ = some (Value.slice _ _ _)) | exact (rfl : _ = some (Value.bool _)) | exact (rfl : _ = some (Value.string _)) | exact (rfl : _ = some (Value.pointer _)) | rfl | (simp [List.getElem?_append]; done)) rfl ?_) | (refine aLoadC _ rfl rfl (by assumption) rfl ?_) | (refine aLoad H _ rfl rfl (by first | exact part_all (by first | rfl | simp []) | (simp only [List.drop_succ_cons, List.drop_zero, List.take_succ_cons, List.take_zero]; rfl) | (simp [List.drop_append, List.take_append]; rfl)) (by first | rfl | simp []) rfl ?_))
          | ((with_reducible refine gBuild ?_); refine aZero rfl rfl ?_)
          | ((with_reducible refine gStore ?_); (first | (refine aStore H _ _ rfl rfl rfl (by (first | exact ⟨rfl, rfl⟩ | exact ⟨by decide, rfl⟩ | (simp []; done) | (constructor <;> simp [] <;> omega))) (by first | rfl | simp [List.all_append, one_all]) rfl ?_) | (refine aLay H _ _ rfl rfl rfl (by (first | exact ⟨rfl, rfl⟩ | exact ⟨by decide, rfl⟩ | (simp []; done) | (constructor <;> simp [] <;> omega))) (by first | rfl | simp [List.all_append, one_all]) (by simp only [lay, List.take_succ_cons, List.take_zero, List.drop_succ_cons, List.drop_zero, List.nil_append, List.cons_append, List.length_cons, List.length_nil, Nat.zero_add, Nat.reduceAdd]; rfl) rfl ?_)); clear H; intro w' H; try dsimp only at H))
        have H3 := H.tail.tail.tail
        go_roundw
        case rel => first | exact ⟨i + 1, many, a, A, c, by go_num, by omega, rfl, hmany, HNX', H3⟩ | exact ⟨_, ⟨i + 1, many, a, A, c, by go_num, by omega, rfl, hmany, HNX', H3⟩, rfl⟩ | exact ⟨_, _, ⟨i + 1, many, a, A, c, by go_num, by omega, rfl, hmany, HNX', H3⟩, rfl, rfl⟩ | exact ⟨_, _, _, ⟨i + 1, many, a, A, c, by go_num, by omega, rfl, hmany, HNX', H3⟩, rfl, rfl, rfl⟩ | exact ⟨_, _, _, _, ⟨i + 1, many, a, A, c, by go_num, by omega, rfl, hmany, HNX', H3⟩, rfl, rfl, rfl, rfl⟩ | exact ⟨_, _, _, _, _, ⟨i + 1, many, a, A, c, by go_num, by omega, rfl, hmany, HNX', H3⟩, rfl, rfl, rfl, rfl, rfl⟩ | ((repeat (apply Exists.intro)); exact ⟨⟨i + 1, many, a, A, c, by go_num, by omega, rfl, hmany, HNX', H3⟩, rfl⟩)
        case measure => simp [intOf] <;> omega
    · obtain rfl : i = 4 := by omega
      have h0 := (chS_many st 4).2
      have hE : chE st = if many = 0 then 15 else 0 := by rw [chE, HA.out, hmany]
      rw [HA.out] at h0
      by_cases hz : many = 0
      · have h1 : ((many : Int) == 0) = true := by simp [hz]
        have ha := h0 (by omega)
        rw [if_pos hz] at hE
        have HE := Lib.hid hE
        subst ha
        subst hz
        clear h0 hE HRD'
        go_wp2_with (first
          | ((with_reducible refine gDst 2 ?_); refine aAlloc H rfl rfl ?_; clear H; intro b2 w2 H)
          | ((with_reducible refine gDst 5 ?_); refine aAlloc H rfl rfl ?_; clear H; intro b5 w5 H)
          | ((with_reducible refine gDst 10 ?_); refine aAlloc H rfl rfl ?_; clear H; intro b10 w10 H)
          | ((with_reducible refine gLoad ?_); first | (refine aLoad1 H _ rfl rfl (by first | exact (rfl : _ = some (Value.int _ _)) | exact (rfl : _ = some (Value.slice _ _ _)) | exact (rfl : _ = some (Value.bool _)) | exact (rfl : _ = some (Value.string _)) | exact (rfl : _ = some (Value.pointer _)) | rfl | (simp [List.getElem?_append]; done)) rfl ?_) | (refine aLoadC _ rfl rfl (by assumption) rfl ?_) | (refine aLoad H _ rfl rfl (by first | exact part_all (by first | rfl | simp []) | (simp only [List.drop_succ_cons, List.drop_zero, List.take_succ_cons, List.take_zero]; rfl) | (simp [List.drop_append, List.take_append]; rfl)) (by first | rfl | simp []) rfl ?_))
          | ((with_reducible refine gBuild ?_); refine aZero rfl rfl ?_)
          | ((with_reducible refine gStore ?_); (first | (refine aStore H _ _ rfl rfl rfl (by (first | exact ⟨rfl, rfl⟩ | exact ⟨by decide, rfl⟩ | (simp []; done) | (constructor <;> simp [] <;> omega))) (by first | rfl | simp [List.all_append, one_all]) rfl ?_) | (refine aLay H _ _ rfl rfl rfl (by (first | exact ⟨rfl, rfl⟩ | exact ⟨by decide, rfl⟩ | (simp []; done) | (constructor <;> simp [] <;> omega))) (by first | rfl | simp [List.all_append, one_all]) (by simp only [lay, List.take_succ_cons, List.take_zero, List.drop_succ_cons, List.drop_zero, List.nil_append, List.cons_append, List.length_cons, List.length_nil, Nat.zero_add, Nat.reduceAdd]; rfl) rfl ?_)); clear H; intro w' H; try dsimp only at H))
        refine bodyPost_ret (res_cell_tmp2 rfl _ H.hold rfl rfl) rfl ?_
        rw [HA.out, HE.out]
        exact ⟨none, 0, rfl, OB.none _ _, H.below⟩
      · have h1 : ((many : Int) == 0) = false := beq_eq_false_iff_ne.2 (by omega)
        rw [if_neg hz] at hE
        have HE := Lib.hid hE
        have HM := Lib.hid hmany
        clear h0 hE HRD' hmany
        go_wp2_with (first
          | ((with_reducible refine gDst 62 ?_); refine aLoad H _ rfl rfl (part_all (HLL.out _ _ _)) (HLL.out _ _ _) rfl ?_)
          | ((with_reducible refine gSto (.tmp 2) (.tmp 62) ?_); refine aStore H _ _ rfl rfl rfl ⟨HLL.out _ _ _, HLL.out _ _ _⟩ (HLO.out _ _ _ _ _) rfl ?_; clear H; intro w' H; (try dsimp only at H))
          | ((with_reducible refine gDst 2 ?_); refine aAlloc H rfl rfl ?_; clear H; intro b2 w2 H)
          | ((with_reducible refine gDst 5 ?_); refine aAlloc H rfl rfl ?_; clear H; intro b5 w5 H)
          | ((with_reducible refine gDst 10 ?_); refine aAlloc H rfl rfl ?_; clear H; intro b10 w10 H)
          | ((with_reducible refine gLoad ?_); first | (refine aLoad1 H _ rfl rfl (by first | exact (rfl : _ = some (Value.int _ _)) | exact (rfl : _ = some (Value.slice _ _ _)) | exact (rfl : _ = some (Value.bool _)) | exact (rfl : _ = some (Value.string _)) | exact (rfl : _ = some (Value.pointer _)) | rfl | (simp [List.getElem?_append]; done)) rfl ?_) | (refine aLoadC _ rfl rfl (by assumption) rfl ?_) | (refine aLoad H _ rfl rfl (by first | exact part_all (by first | rfl | simp []) | (simp only [List.drop_succ_cons, List.drop_zero, List.take_succ_cons, List.take_zero]; rfl) | (simp [List.drop_append, List.take_append]; rfl)) (by first | rfl | simp []) rfl ?_))
          | ((with_reducible refine gBuild ?_); refine aZero rfl rfl ?_)
          | ((with_reducible refine gStore ?_); (first | (refine aStore H _ _ rfl rfl rfl (by (first | exact ⟨rfl, rfl⟩ | exact ⟨by decide, rfl⟩ | (simp []; done) | (constructor <;> simp [] <;> omega))) (by first | rfl | simp [List.all_append, one_all]) rfl ?_) | (refine aLay H _ _ rfl rfl rfl (by (first | exact ⟨rfl, rfl⟩ | exact ⟨by decide, rfl⟩ | (simp []; done) | (constructor <;> simp [] <;> omega))) (by first | rfl | simp [List.all_append, one_all]) (by simp only [lay, List.take_succ_cons, List.take_zero, List.drop_succ_cons, List.drop_zero, List.nil_append, List.cons_append, List.length_cons, List.length_nil, Nat.zero_add, Nat.reduceAdd]; rfl) rfl ?_)); clear H; intro w' H; try dsimp only at H))
        refine bodyPost_ret (res_cell_tmp2 rfl _ H.hold rfl (HLL.out _ _ _)) rfl ?_
        rw [HA.out, HE.out, HM.out]
        exact ⟨A, c, rfl, H.ow _, H.below⟩
end Go.Proofs.YticfcelbnkiopaaDoor

namespace Go.Proofs.YticfcelbnkiopaaDoor
set_option maxRecDepth 100000
open Go.RowKit
set_option linter.unusedSimpArgs false

def p05 : PT := ⟨1 :: List.replicate 31 0, by decide, 2, 3, 0⟩
theorem p05_dec : decP (encL p05) = p05 ∧ decE (encL p05) = 0 := by decide +kernel

end Go.Proofs.YticfcelbnkiopaaDoor

namespace Go.Proofs.YticfcelbnkiopaaDoor
set_option maxRecDepth 100000
open Go.RowKit
set_option linter.unusedSimpArgs false
set_option linter.unusedVariables false

theorem raw_enc (p : PT) : rawP (encL p) = p := by
  have e0 : encL p = p.hash ++ (put32L p.birth.toNat ++ (put32L p.a0.toNat ++ (put32L p.a1.toNat ++ []))) := by simp [encL]
  have d0 : (encL p).drop 32 = put32L p.birth.toNat ++ (put32L p.a0.toNat ++ (put32L p.a1.toNat ++ [])) := by rw [e0, List.drop_left' p.hl]
  have d1 : (encL p).drop 36 = put32L p.a0.toNat ++ (put32L p.a1.toNat ++ []) := by rw [show 36 = 32 + 4 from rfl, ← List.drop_drop, d0]; rfl
  have d2 : (encL p).drop 40 = put32L p.a1.toNat ++ [] := by rw [show 40 = 36 + 4 from rfl, ← List.drop_drop, d1]; rfl
  refine PT.ext' _ _ ?_ ?_ ?_ ?_
  · rw [rawP_hash _ (by rw [encL_length]; omega), e0, List.take_left' p.hl]
  · show UInt32.ofNat (get32 ((encL p).drop 32)) = _
    rw [d0, get32_put _ _ p.birth.toNat_lt]; simp
  · show UInt32.ofNat (get32 ((encL p).drop 36)) = _
    rw [d1, get32_put _ _ p.a0.toNat_lt]; simp
  · show UInt32.ofNat (get32 ((encL p).drop 40)) = _
    rw [d2, get32_put _ _ p.a1.toNat_lt]; simp
theorem dec_may (p : PT) (h : p.may = true) : decE (encL p) = 0 ∧ decP (encL p) = p := by
  have h0 : decE (encL p) = 0 := by rw [decE, encL_length, raw_enc, h]; simp
  exact ⟨h0, by rw [decP, if_pos h0, raw_enc]⟩
theorem dec_not (p : PT) (h : p.may = false) : decE (encL p) = 3 ∧ decP (encL p) = PT.hole := by
  have h0 : decE (encL p) = 3 := by rw [decE, encL_length, raw_enc, h]; simp
  exact ⟨h0, by rw [decP, h0]; rfl⟩
theorem encs_chunk : ∀ (l : List PT) (i : Nat) (h : i < l.length), ((l.flatMap encL).drop (i * 44)).take 44 = encL l[i]
  | [], i, h => by simp at h
  | p :: l, 0, _ => by rw [Nat.zero_mul, List.drop_zero, List.flatMap_cons, List.take_left' (encL_length p)]; rfl
  | p :: l, i + 1, h => by
    rw [List.flatMap_cons, Nat.succ_mul, Nat.add_comm, ← List.drop_drop, List.drop_left' (encL_length p), encs_chunk l i (by simpa using h)]
    rfl
theorem chunk_node (l : PL) (i : Nat) (h : i < l.1.length) : chunk (nodeL l) i = encL l.1[i] := by
  have hl := l.2
  rw [chunk, nodeL, List.drop_append_of_le_length (by rw [encs_length]; omega), List.take_append_of_le_length (by rw [List.length_drop, encs_length]; omega), encs_chunk l.1 i h]
theorem nodeL_length (l : PL) : (nodeL l).length = 256 := by rw [nodeL, List.length_append, encs_length, l.2]; rfl
theorem rd_node (l : PL) : rdOK (nodeL l) = l.1.all PT.may := by
  have hl := l.2
  rw [Bool.eq_iff_iff, List.all_eq_true]
  constructor
  · intro h p hp
    obtain ⟨i, hi, rfl⟩ := List.mem_iff_getElem.1 hp
    simp only [rdOK, Bool.and_eq_true, decide_eq_true_eq, List.all_eq_true, List.mem_range, beq_iff_eq] at h
    have := h.1.2 i (by omega)
    rw [chunk_node l i hi] at this
    cases hm : l.1[i].may with
    | true => rfl
    | false => rw [(dec_not _ hm).1] at this; omega
  · intro h
    refine rd_good _ (nodeL_length l) (fun i hi => ?_) (fun j hj => ?_)
    · rw [chunk_node l i (by omega)]
      exact (dec_may _ (h _ (List.getElem_mem _))).1
    · rw [nodeL, List.drop_left' (by rw [encs_length, hl]), List.getD_eq_getElem?_getD, List.getElem?_replicate, if_pos hj]
      rfl
theorem rd_node_l (l : PL) (h : l.1.all PT.may = true) : rdL (nodeL l) = l := by
  have hl := l.2
  rw [(rd_pls _ ((rd_node l).trans h)).1]
  rw [List.all_eq_true] at h
  refine Subtype.ext (List.ext_getElem (by simp [pls, hl]) fun i h1 h2 => ?_)
  simp only [pls, List.getElem_map, List.getElem_range]
  rw [chunk_node l i h2]
  exact (dec_may _ (h _ (List.getElem_mem _))).2

/-- 44 bytes. -/
abbrev enc44 (p : PT) : RowOf UInt8 44 := ⟨encL p, encL_length p⟩
def a44 : AT Tryd.prog (RowOf UInt8 44) := ⟨163, fun x => x.1.map cb, 44, fun x => by rw [List.length_map]; exact x.2, fun x => one_u8 x.1, _, Tryd.underlying163, rfl, by kernel_rfl, ⟨List.replicate 44 0, rfl⟩, by kernel_rfl, by kernel_rfl⟩
/-- A block of bytes, sliced whole. -/
theorem SH.rb {F : Nat → Prop} {w0 w : World} {L : List Own} (H : SH F w0 w L) (i : Nat) {b : Nat} {t : TypeId} {xs : List UInt8} (hi : L[i]? = some (.blk b t (xs.map cb))) (n : Nat) (hn : xs.length = n) (hm : n ≤ 1000000000) : RB w (.slice (some ⟨b, 0, none⟩) n n) xs := by
  subst hn
  exact RR.range (T := B8) (by rw [U8_all]; exact (H.va i hi).all) (by omega)

end Go.Proofs.YticfcelbnkiopaaDoor

namespace Go.Proofs.YticfcelbnkiopaaDoor
set_option maxRecDepth 100000
open Go.RowKit
set_option linter.unusedSimpArgs false
set_option linter.unusedVariables false

theorem lab_parts (u : UInt32) (p : PT) (xs r : List UInt8) (h : xs.length = 64) : (labB u p xs ++ r).take 224 = labB u p xs ∧ (labB u p xs ++ r).drop 224 = r ∧ (labB u p xs ++ r).take 4 = [67, 65, 85, 84] ∧ lbTxg (labB u p xs ++ r) = u ∧ lbRoot (labB u p xs ++ r) = encL p ∧ lbMap (labB u p xs ++ r) = xs ∧ lbZero (labB u p xs ++ r) = List.replicate 108 0 := by
  have hl := labB_len u p xs h
  have e0 : labB u p xs ++ r = [67, 65, 85, 84] ++ (put32L u.toNat ++ (encL p ++ (xs ++ (List.replicate 108 0 ++ r)))) := by simp [labB]
  have d4 : (labB u p xs ++ r).drop 4 = put32L u.toNat ++ (encL p ++ (xs ++ (List.replicate 108 0 ++ r))) := by rw [e0]; rfl
  have d8 : (labB u p xs ++ r).drop 8 = encL p ++ (xs ++ (List.replicate 108 0 ++ r)) := by rw [show 8 = 4 + 4 from rfl, ← List.drop_drop, d4, List.drop_left' (put32L_len _)]
  have d52 : (labB u p xs ++ r).drop 52 = xs ++ (List.replicate 108 0 ++ r) := by rw [show 52 = 8 + 44 from rfl, ← List.drop_drop, d8, List.drop_left' (encL_length p)]
  have d116 : (labB u p xs ++ r).drop 116 = List.replicate 108 0 ++ r := by rw [show 116 = 52 + 64 from rfl, ← List.drop_drop, d52, List.drop_left' h]
  refine ⟨List.take_left' hl, List.drop_left' hl, by rw [e0]; rfl, ?_, ?_, ?_, ?_⟩
  · rw [lbTxg, d4, get32_put _ _ u.toNat_lt]; simp
  · rw [lbRoot, List.drop_take, d8, List.take_left' (encL_length p)]
  · rw [lbMap, List.drop_take, d52, List.take_left' h]
  · rw [lbZero, List.drop_take, d116, List.take_left' (by simp)]
/-- THERE AND BACK. -/
theorem lab_back (u : UInt32) (p : PT) (xs : List UInt8) (h : labOk p xs = true) : lbE (labW u p xs) = 0 ∧ lbTxg (labW u p xs) = u ∧ decP (lbRoot (labW u p xs)) = p ∧ lbMap (labW u p xs) = xs := by
  rw [labOk, Bool.and_eq_true, beq_iff_eq] at h
  obtain ⟨q1, q2, q3, q4, q5, q6, q7⟩ := lab_parts u p xs (shaL (labB u p xs)) h.2
  obtain ⟨m1, m2⟩ := dec_may p h.1
  have hg : lbGood (labW u p xs) = true := by rw [lbGood, labW, q3, q5, q7, m1]; decide
  refine ⟨lb_good (labW_len u p xs h.2) (by rw [labW, q1, q2]; simp) hg, q4, ?_, q6⟩
  show decP (lbRoot (labB u p xs ++ shaL (labB u p xs))) = p
  rw [q5, m2]
theorem lb_zero {b : List UInt8} (h : lbE b = 0) : lbGood b = true := by
  unfold lbE at h
  split at h
  · cases h
  · split at h
    · cases h
    · split at h
      · assumption
      · cases h
/-- The disk of the live question. -/
def st7 (lb : List UInt8) : DS := layK ⟨List.replicate 4096 0, [], -1, false⟩ lb 2 2
theorem st7_reads (lb : List UInt8) : (st7 lb).read 0 = List.replicate 256 0 ∧ (st7 lb).read 1 = List.replicate 256 0 ∧ (st7 lb).read 2 = lb ∧ (st7 lb).read 3 = lb := by
  refine ⟨?_, ?_, ?_, ?_⟩
  · show List.take 256 (List.drop (0 * 256) (List.replicate 4096 0)) = _
    rw [List.drop_replicate, List.take_replicate]; rfl
  · show List.take 256 (List.drop (1 * 256) (List.replicate 4096 0)) = _
    rw [List.drop_replicate, List.take_replicate]; rfl
  · rfl
  · rfl
theorem zero_bad : lbE (List.replicate 256 0) ≠ 0 := fun h => by
  have := lb_zero h
  rw [lbGood, show ((List.replicate 256 (0 : UInt8)).take 4 == [67, 65, 85, 84]) = false from by decide] at this
  simp at this
theorem ch7 (u : UInt32) (p : PT) (xs : List UInt8) (h : labOk p xs = true) (hu : plA u = 2) : chS (st7 (labW u p xs)) 4 = ⟨u, p, xs, 2⟩ := by
  obtain ⟨r0, r1, r2, r3⟩ := st7_reads (labW u p xs)
  obtain ⟨e1, e2, e3, e4⟩ := lab_back u p xs h
  have s2 : standsB u 2 = true := by rw [standsB, hu]; rfl
  have s3 : standsB u 3 = true := by rw [standsB, hu]; rfl
  show (((CH.none.step ((st7 (labW u p xs)).read 0) 0).step ((st7 (labW u p xs)).read 1) 1).step ((st7 (labW u p xs)).read 2) 2).step ((st7 (labW u p xs)).read 3) 3 = _
  rw [r0, r1, r2, r3]
  have k0 : CH.none.step (List.replicate 256 0) 0 = CH.none := by rw [CH.step, if_neg (fun h => zero_bad h.1)]
  have k1 : CH.none.step (List.replicate 256 0) 1 = CH.none := by rw [CH.step, if_neg (fun h => zero_bad h.1)]
  have k2 : CH.none.step (labW u p xs) 2 = ⟨u, p, xs, 1⟩ := by rw [CH.step, e2, e3, e4, if_pos ⟨e1, s2⟩, if_pos (.inl rfl)]
  have k3 : (CH.mk u p xs 1).step (labW u p xs) 3 = ⟨u, p, xs, 2⟩ := by
    rw [CH.step, e2, e3, e4, if_pos ⟨e1, s3⟩, if_neg (by simp), if_pos rfl]
  rw [k0, k1, k2, k3]
theorem SH.toBlkE {F : Nat → Prop} {w0 w : World} {L : List Own} {g n : Nat} {xs : List UInt8} (h : SH F w0 w (.row B8 (.slice (some ⟨g, 0, none⟩) n n) xs :: L)) (hn : xs.length = n) : SH F w0 w (.blk g 5 (xs.map cb) :: L) := by
  have ho := h.or0 0 rfl
  rcases ho.2 with ⟨h1, -⟩ | ⟨g', cap, cur, hv, _, hg, h1, h2, h3, h4⟩
  · cases h1
  · injection hv with e1 e2 e3
    injection e1 with e1
    injection e1 with e1
    subst e1 e3
    have hx : cur.toList = xs.map cb := by
      rw [U8_all] at h4
      rw [← h4, List.take_of_length_le]
      rw [Array.length_toList, h3, hn]
      exact Nat.le_refl _
    refine h.change 0 rfl (Chg.refl _ w) _ ?_ (fun b hb => .inl ?_)
    · show w.heap[g]? = _
      rw [hg, ← hx]
      first | rfl | simp
    · show Value.ownBlock _ = some b
      rw [show b = g from hb]; rfl
theorem lab_built2 (u : UInt32) (A : Option Addr) (n c : Nat) : Program.built Tryd.prog 80 [(0, u32 u), (2, .slice A n c)] = some (lbC u PT.hole (.slice A n c)).toArray := by
  have l1 : lay (lbC 0 PT.hole (.slice none 0 0)) 0 [u32 u] = lbC u PT.hole (.slice none 0 0) := lay_zero1 _ _ _
  have l3 : lay (lbC u PT.hole (.slice none 0 0)) 36 [.slice A n c] = lbC u PT.hole (.slice A n c) := by
    rw [lay, lbC, lbC, show 36 = 35 + 1 from rfl, List.take_succ_cons, List.take_left' PT.hole.len, List.drop_of_length_le (by rw [List.length_cons, List.length_append, PT.len]; simp)]; simp
  rw [lab_zero_built, fill_cons _ _ _ _ _ 0 1 [u32 u] rfl rfl rfl (by rw [lbC_len]; omega), l1, fill_cons _ _ _ _ _ 36 1 [.slice A n c] rfl rfl rfl (by rw [lbC_len]; omega), l3, Instr.fill]
theorem i2_guard : Tryd.prog.eqGuardType Tryd.prog.depth 82 = false := by kernel_rfl
theorem i2_eq (a b c d : Int) (w : World) : (binOp .eql 82 (.agg #[.int .i64 a, .int .i64 b]) (.agg #[.int .i64 c, .int .i64 d])).run Tryd.prog w = .ok (.bool ((a == c) && (b == d))) w := by
  have hrow : EqT Tryd.prog 82 (2 * 1) true 2 (fun l : RowOf Int 2 => l.1.flatMap fun x => [Value.int .i64 x]) (fun l => .agg (l.1.flatMap fun x => [Value.int .i64 x]).toArray) (fun x y => (x.1.zip y.1).all fun p => p.1 == p.2) := eqI64.row (by kernel_rfl) (sizeOf_ok (by kernel_rfl))
  have h := hrow.eqs 9998 w ⟨[a, b], rfl⟩ ⟨[c, d], rfl⟩
  rw [run_eql_struct]
  have e : ((([a, b] : List Int).zip [c, d]).all fun p => p.1 == p.2) = ((a == c) && (b == d)) := by simp
  rw [← e]
  exact congrArg (fun r => Result.andThen r (fun b w' => Result.ok (Value.bool b) w')) h
end Go.Proofs.YticfcelbnkiopaaDoor

namespace Go.Proofs.YticfcelbnkiopaaDoor
set_option maxRecDepth 100000
open Go.RowKit
set_option linter.unusedSimpArgs false
set_option linter.unusedVariables false

def z64 : List UInt8 := List.replicate 64 0
theorem z64_len : z64.length = 64 := by rw [z64, List.length_replicate]
theorem hole_ok : labOk PT.hole z64 = true := by decide
theorem st0_ok : (⟨List.replicate 4096 0, [], -1, false⟩ : DS).ok 16 := ⟨by decide, by decide, by show (List.replicate 4096 (0 : UInt8)).length = _; simp, fun k hk => absurd hk (Nat.not_lt_zero k), Nat.zero_le _⟩
set_option maxHeartbeats 3200000 in
theorem alive07_any (w : World) : Calls Tryd.prog 35 #[] w fun e w' => e = .returned (.bool true) ∧ Below w.heap.size w w' := by
  have H := SH.start Nil w
  have hnw : ∀ W, Calls Tryd.prog 43 #[.int .i64 16] W fun e w' => ∃ bd bo, e = .returned (.tuple #[.pointer (some ⟨bd, 0, none⟩), .int .i64 0]) ∧ SH Nil W w' (diskL bd bo (.slice none 0 0) [] ⟨List.replicate 4096 0, [], -1, false⟩) := fun W => by
    refine (diskNew_any 16 (by decide) (by decide) W).mono ?_
    rintro e w' ⟨bd, bo, rfl, H1⟩
    refine ⟨bd, bo, rfl, ?_⟩
    have H2 := ((H1.bring 1 rfl).toBlkE (by simp)).bring 1 rfl
    have H3 := (H2.nilRow WT).rdNil
    have H4 := ((H3.bring 1 rfl).bring 3 rfl).bring 3 rfl
    unfold diskL
    rw [List.length_replicate]
    exact H4
  have HNW := Lib.hid hnw
  have hlay := fun bd bo A c W (hD : SH (feet (diskL bd bo (.slice none 0 0) [] ⟨List.replicate 4096 0, [], -1, false⟩)) W W (diskL bd bo (.slice none 0 0) [] ⟨List.replicate 4096 0, [], -1, false⟩)) (hv : RB W (.slice A z64.length c) z64) => labLay_ok bd bo 16 (.slice none 0 0) [] ⟨List.replicate 4096 0, [], -1, false⟩ 5 PT.hole A c z64 hole_ok st0_ok rfl rfl (Nat.zero_le _) W hD hv
  rw [z64_len] at hlay
  change ∀ bd bo A c W, SH (feet (diskL bd bo (.slice none 0 0) [] ⟨List.replicate 4096 0, [], -1, false⟩)) W W (diskL bd bo (.slice none 0 0) [] ⟨List.replicate 4096 0, [], -1, false⟩) → RB W (.slice A 64 c) z64 → Calls Tryd.prog 47 #[.pointer (some ⟨bd, 0, none⟩), .agg (lbC 5 PT.hole (.slice A 64 c)).toArray] W fun e w' => e = .returned (.int .i64 0) ∧ ∃ vw' ss', SH (feet (diskL bd bo (.slice none 0 0) [] ⟨List.replicate 4096 0, [], -1, false⟩)) W w' (diskL bd bo vw' ss' (st7 (labW 5 PT.hole z64))) at hlay
  have hst := layK_ok st0_ok (labW 5 PT.hole z64) 2 (by decide) (labW_len _ _ _ z64_len) (Nat.zero_le _) 2 (by decide)
  have hch : ∀ bd bo vw ss W, HOLD (diskL bd bo vw ss (st7 (labW 5 PT.hole z64))) W → Calls Tryd.prog 53 #[.pointer (some ⟨bd, 0, none⟩)] W fun e w' => ∃ A c, e = .returned (.tuple #[.agg (lbC 5 PT.hole (.slice A 64 c)).toArray, .int .i64 2, .int .i64 0]) ∧ OB w' W.heap.size (.slice A 64 c) z64 ∧ Below W.heap.size W w' := fun bd bo vw ss W h => by
    have k := labChoose_ok bd bo 16 vw ss (st7 (labW 5 PT.hole z64)) hst.1 hst.2.2.1 W h
    rw [chE, ch7 5 PT.hole z64 hole_ok (by decide)] at k
    rw [show (CH.mk 5 PT.hole z64 2).m.length = 64 from z64_len] at k
    exact k
  have henc : ∀ W, Calls Tryd.prog 36 #[.agg (lbC 0 PT.hole (.slice none 0 0)).toArray] W fun e w' => ∃ v, e = .returned (.tuple #[v, .int .i64 1]) ∧ Below W.heap.size W w' := fun W => by
    refine (labEncode_any 0 PT.hole none 0 [] W (RR.nil _)).mono ?_
    rintro e w' ⟨v, rfl, -, hb⟩
    exact ⟨v, rfl, hb⟩
  have hpl : ∀ W, Calls Tryd.prog 38 #[.int .u32 5] W fun e w' => e = .returned (.agg #[.int .i64 2, .int .i64 3]) ∧ Below W.heap.size W w' := fun W => Places_c 5 W
  generalize labW 5 PT.hole z64 = lb at *
  generalize hs0 : (⟨List.replicate 4096 0, [], -1, false⟩ : DS) = s0 at *
  generalize st7 lb = s7 at *
  have HLY := Lib.hid hlay
  have HCH := Lib.hid hch
  have HLL := Lib.hid lbC_len
  have HLO := Lib.hid (fun u p A n c => lbC_one u p (.slice A n c) rfl)
  have HLB := Lib.hid (lab_built2 5)
  have HTX : Hid (∀ u p v, (lbC u p v)[0]? = some (.int .u32 (u.toNat : Int))) := Lib.hid lbC_txg
  clear hlay hch hst hs0 hnw
  go_enter Tryd.func35, Tryd.ntmps35
  go_wp2_with (first
    | (go_at_call 43; (with_reducible refine (HNW.out _).mono ?_); rintro e w' ⟨bd, bo, rfl, H1⟩; have H := H1; clear H1)
    | ((with_reducible refine gDst 20 ?_); refine aMakeB 64 (by decide) H _ _ rfl rfl rfl rfl ?_; clear H; intro b20 w20 H; (try dsimp only at H))
    | ((with_reducible refine gDst 21 ?_); refine stepV (exec_buildL 80 [(0, .const (.int .u32 5)), (2, .tmp 20)] rfl [(0, u32 5), (2, .slice (some ⟨b20, 0, none⟩) 64 64)] rfl _ (HLB.out _ _ _)) rfl ?_)
    | ((with_reducible refine gSto (.tmp 3) (.tmp 21) ?_); refine aStore H _ _ rfl rfl rfl ⟨by rfl, HLL.out _ _ _⟩ (HLO.out _ _ _ _ _) rfl ?_; clear H; intro w' H; (try dsimp only at H))
    | ((with_reducible refine gDst 23 ?_); refine aLoad H _ rfl rfl (part_all (HLL.out _ _ _)) (HLL.out _ _ _) rfl ?_)
    | (go_at_call 47; have HK : SH Nil w _ (diskL bd bo (.slice none 0 0) [] s0 ++ [.blk b3 80 (lbC 5 PT.hole (.slice (some ⟨b20, 0, none⟩) 64 64)), .row B8 (.slice (some ⟨b20, 0, none⟩) 64 64) z64]) := (((H.bring 5 rfl).bring 5 rfl).bring 5 rfl).bring 5 rfl; refine (HLY.out bd bo _ _ _ (SH.subL HK) (H.hold.rr (.slice (some ⟨b20, 0, none⟩) 64 64))).mono ?_; rintro e w' ⟨rfl, vw, ss, k2⟩; clear H; have H := SH.viaL HK k2; clear k2 HK)
    | (go_at_call 53; (with_reducible refine (HCH.out bd bo vw ss _ (SH.takeL H).hold).mono ?_); rintro e w' ⟨A27, c27, rfl, ho, hb⟩; replace H := H.pushRow hb ho; clear hb ho)
    | ((with_reducible refine gSto (.tmp 5) (.tmp 28) ?_); refine aStore H _ _ rfl rfl rfl ⟨by rfl, HLL.out _ _ _⟩ (HLO.out _ _ _ _ _) rfl ?_; clear H; intro w' H; (try dsimp only at H))
    | ((with_reducible refine gDst 32 ?_); refine stepV (exec_buildL 80 [] rfl [] rfl (lbC 0 PT.hole (.slice none 0 0)) ((lab_zero_built []).trans rfl)) rfl ?_)
    | (go_at_call 36; (with_reducible refine (henc _).mono ?_); rintro e w' ⟨v33, rfl, hb⟩; replace H := H.step hb; clear hb)
    | ((with_reducible refine gDst 48 ?_); refine aLoad1 H _ rfl rfl (HTX.out _ _ _) rfl ?_)
    | (go_at_call 38; (with_reducible refine (hpl _).mono ?_); rintro e w' ⟨rfl, hb⟩; replace H := H.step hb; clear hb)
    | ((with_reducible refine gDst 58 ?_); refine stepV (exec_eql 82 _ _ _ rfl _ _ rfl rfl i2_guard _ (i2_eq _ _ _ _ _)) rfl ?_)
    | ((with_reducible refine gDst 3 ?_); refine aAlloc H rfl rfl ?_; clear H; intro b3 w3 H)
    | ((with_reducible refine gDst 5 ?_); refine aAlloc H rfl rfl ?_; clear H; intro b5 w5 H)
    | ((with_reducible refine gLoad ?_); first | (refine aLoad1 H _ rfl rfl (by first | exact (rfl : _ = some (Value.int _ _)) | exact (rfl : _ = some (Value.slice _ _ _)) | exact (rfl : _ = some (Value.bool _)) | exact (rfl : _ = some (Value.string _)) | exact (rfl : _ = some (Value.pointer _)) | rfl | (simp [List.getElem?_append]; done)) rfl ?_) | (refine aLoadC _ rfl rfl (by assumption) rfl ?_) | (refine aLoad H _ rfl rfl (by first | exact part_all (by first | rfl | simp []) | (simp only [List.drop_succ_cons, List.drop_zero, List.take_succ_cons, List.take_zero]; rfl) | (simp [List.drop_append, List.take_append]; rfl)) (by first | rfl | simp []) rfl ?_))
    | ((with_reducible refine gBuild ?_); refine aZero rfl rfl ?_)
    | ((with_reducible refine gStore ?_); (first | (refine aStore H _ _ rfl rfl rfl (by (first | exact ⟨rfl, rfl⟩ | exact ⟨by decide, rfl⟩ | (simp []; done) | (constructor <;> simp [] <;> omega))) (by first | rfl | simp [List.all_append, one_all]) rfl ?_) | (refine aLay H _ _ rfl rfl rfl (by (first | exact ⟨rfl, rfl⟩ | exact ⟨by decide, rfl⟩ | (simp []; done) | (constructor <;> simp [] <;> omega))) (by first | rfl | simp [List.all_append, one_all]) (by simp only [lay, List.take_succ_cons, List.take_zero, List.drop_succ_cons, List.drop_zero, List.nil_append, List.cons_append, List.length_cons, List.length_nil, Nat.zero_add, Nat.reduceAdd]; rfl) rfl ?_)); clear H; intro w' H; try dsimp only at H))
  go_ret
  exact ⟨rfl, H.below⟩
end Go.Proofs.YticfcelbnkiopaaDoor

namespace Go.Proofs.YticfcelbnkiopaaDoor
set_option maxRecDepth 100000
open Go.RowKit
set_option linter.unusedSimpArgs false
set_option linter.unusedVariables false

set_option maxHeartbeats 1600000 in
theorem LSame_true (u : UInt32) (p : PT) (A1 A2 : Option Addr) (n1 c1 n2 c2 : Nat) (xs : List UInt8) (w : World) (h1 : RB w (.slice A1 n1 c1) xs) (h2 : RB w (.slice A2 n2 c2) xs) :
    Calls Tryd.prog 42 #[.agg (lbC u p (.slice A1 n1 c1)).toArray, .agg (lbC u p (.slice A2 n2 c2)).toArray] w fun e w' => e = .returned (.bool true) ∧ Below w.heap.size w w' := by
  have H := SH.start Nil w
  have RO := HOLD.rdCons h1 (HOLD.rdOne h2)
  have HLR := Lib.hid (lbC_root u p)
  have HLM := Lib.hid (lbC_map u p)
  have HPL := Lib.hid p.len
  have HTX : Hid (∀ v, (lbC u p v)[0]? = some (.int .u32 (u.toNat : Int))) := Lib.hid (lbC_txg u p)
  have he : ∀ W, (binOp .eql 33 (.agg p.cells.toArray) (.agg p.cells.toArray)).run Tryd.prog W = .ok (.bool true) W := fun W => by
    have := ptr_eqlA p p W
    simpa using this
  have HE := Lib.hid he
  clear he h1 h2
  go_enter Tryd.func42, Tryd.ntmps42
  go_wp2_with (first
    | ((with_reducible refine gDst 6 ?_); refine aLoad1 H _ rfl rfl (HTX.out _) rfl ?_)
    | ((with_reducible refine gDst 8 ?_); refine aLoad1 H _ rfl rfl (HTX.out _) rfl ?_)
    | ((with_reducible refine gDst 12 ?_); refine aLoad H _ rfl rfl (HLR.out _) HPL.out rfl ?_)
    | ((with_reducible refine gDst 14 ?_); refine aLoad H _ rfl rfl (HLR.out _) HPL.out rfl ?_)
    | ((with_reducible refine gDst 15 ?_); refine stepV (exec_eql 33 _ _ _ rfl _ _ rfl rfl ptr_guard _ (HE.out _)) rfl ?_)
    | ((with_reducible refine gDst 19 ?_); refine aLoad1 H _ rfl rfl (HLM.out _) rfl ?_)
    | ((with_reducible refine gDst 22 ?_); refine aLoad1 H _ rfl rfl (HLM.out _) rfl ?_)
    | ((with_reducible refine gDst 2 ?_); refine aBox H _ rfl rfl rfl ?_; clear H; intro b2 w2 H)
    | ((with_reducible refine gDst 3 ?_); refine aBox H _ rfl rfl rfl ?_; clear H; intro b3 w3 H)
    | ((with_reducible refine gLoad ?_); first | (refine aLoad1 H _ rfl rfl (by first | exact (rfl : _ = some (Value.int _ _)) | exact (rfl : _ = some (Value.slice _ _ _)) | exact (rfl : _ = some (Value.bool _)) | exact (rfl : _ = some (Value.string _)) | exact (rfl : _ = some (Value.pointer _)) | rfl | (simp [List.getElem?_append]; done)) rfl ?_) | (refine aLoadR1 RO H _ rfl rfl (by first | exact (rfl : _ = some (Value.int _ _)) | exact (rfl : _ = some (Value.slice _ _ _)) | exact (rfl : _ = some (Value.bool _)) | exact (rfl : _ = some (Value.string _)) | exact (rfl : _ = some (Value.pointer _)) | rfl | (simp [List.getElem?_append]; done)) rfl ?_) | (refine aLoadC _ rfl rfl (by assumption) rfl ?_) | (refine aLoad H _ rfl rfl (by first | exact part_all (by first | rfl | simp []) | (simp only [List.drop_succ_cons, List.drop_zero, List.take_succ_cons, List.take_zero]; rfl) | (simp [List.drop_append, List.take_append]; rfl)) (by first | rfl | simp []) rfl ?_) | (refine aLoadR RO H _ rfl rfl (by first | exact part_all (by first | rfl | simp []) | (simp only [List.drop_succ_cons, List.drop_zero, List.take_succ_cons, List.take_zero]; rfl) | (simp [List.drop_append, List.take_append]; rfl)) (by first | rfl | simp []) rfl ?_))
    | ((with_reducible refine gConv ?_); first | (refine aStr H _ rfl rfl rfl ?_) | (refine aStrR RO H _ rfl rfl rfl ?_)))
  go_ret
  exact ⟨rfl, H.below⟩
def relNil (L : List Own) (w : World) (v9 : Value) (wr : World) : Prop := v9 = .int .i64 0 ∧ SH Nil w wr L
def relNine (n : Nat) (g : Nat) (L : List Own) (w : World) (v9 : Value) (wr : World) : Prop := ∃ (i : Nat) (cs : List Value), v9 = .int .i64 (i : Int) ∧ i ≤ n ∧ n ≤ cs.length ∧ SH Nil w wr (.blk g 5 cs :: L)
set_option maxHeartbeats 3200000 in
theorem LabelDecode_any (v0 : Value) (b : List UInt8) (w : World) (rd : RB w v0 b) : Calls Tryd.prog 8 #[v0] w fun e w' => e = .returned (.bool true) ∧ Below w.heap.size w w' := by
  have H := SH.start Nil w
  have RO := HOLD.rdOne rd
  obtain ⟨A, c, rfl, -⟩ := rd.len
  by_cases h3 : 300 < b.length
  · have h3i : (300 : Int) < (b.length : Int) := by omega
    go_enter Tryd.func8, Tryd.ntmps8
    go_wp2_with (first
      | (go_at_call 35; refine (alive07_any _).mono ?_; rintro e w' ⟨rfl, hb⟩; replace H := H.step hb; clear hb)
      | ((with_reducible refine gDst 14 ?_); refine aEmpty sB H rfl rfl ?_; clear H; intro b14 w14 H)
      | ((with_reducible refine gDst 4 ?_); refine aAlloc H rfl rfl ?_; clear H; intro b4 w4 H)
      | ((with_reducible refine gDst 6 ?_); refine aAlloc H rfl rfl ?_; clear H; intro b6 w6 H)
      | ((with_reducible refine gLoad ?_); first | (refine aLoad1 H _ rfl rfl (by first | exact (rfl : _ = some (Value.int _ _)) | exact (rfl : _ = some (Value.slice _ _ _)) | exact (rfl : _ = some (Value.bool _)) | exact (rfl : _ = some (Value.string _)) | exact (rfl : _ = some (Value.pointer _)) | rfl | (simp [List.getElem?_append]; done)) rfl ?_) | (refine aLoadR1 RO H _ rfl rfl (by first | exact (rfl : _ = some (Value.int _ _)) | exact (rfl : _ = some (Value.slice _ _ _)) | exact (rfl : _ = some (Value.bool _)) | exact (rfl : _ = some (Value.string _)) | exact (rfl : _ = some (Value.pointer _)) | rfl | (simp [List.getElem?_append]; done)) rfl ?_) | (refine aLoadC _ rfl rfl (by assumption) rfl ?_) | (refine aLoad H _ rfl rfl (by first | exact part_all (by first | rfl | simp []) | (simp only [List.drop_succ_cons, List.drop_zero, List.take_succ_cons, List.take_zero]; rfl) | (simp [List.drop_append, List.take_append]; rfl)) (by first | rfl | simp []) rfl ?_) | (refine aLoadR RO H _ rfl rfl (by first | exact part_all (by first | rfl | simp []) | (simp only [List.drop_succ_cons, List.drop_zero, List.take_succ_cons, List.take_zero]; rfl) | (simp [List.drop_append, List.take_append]; rfl)) (by first | rfl | simp []) rfl ?_))
      | ((with_reducible refine gStore ?_); (first | (refine aCell H _ _ rfl rfl (by first | exact (rfl : _ = Value.int _ _) | exact (rfl : _ = Value.bool _) | exact (rfl : _ = Value.slice _ _ _) | exact (rfl : _ = Value.string _) | exact (rfl : _ = Value.pointer _) | exact (rfl : _ = Value.func _ _ _) | rfl) (by rfl) (by rfl) (by first | exact of_decide_eq_true rfl | (simp []; done) | (simp []; omega)) (by first | (simp only [List.set_cons_zero, List.set_cons_succ]; rfl) | (simp [List.set_append]; rfl)) rfl ?_) | (refine aStore H _ _ rfl rfl rfl (by (first | exact ⟨rfl, rfl⟩ | exact ⟨by decide, rfl⟩ | (simp []; done) | (constructor <;> simp [] <;> omega))) (by first | rfl | simp [List.all_append, one_all]) rfl ?_) | (refine aLay H _ _ rfl rfl rfl (by (first | exact ⟨rfl, rfl⟩ | exact ⟨by decide, rfl⟩ | (simp []; done) | (constructor <;> simp [] <;> omega))) (by first | rfl | simp [List.all_append, one_all]) (by simp only [lay, List.take_succ_cons, List.take_zero, List.drop_succ_cons, List.drop_zero, List.nil_append, List.cons_append, List.length_cons, List.length_nil, Nat.zero_add, Nat.reduceAdd]; rfl) rfl ?_)); clear H; intro w' H; try dsimp only at H)
      | ((with_reducible refine gConv ?_); first | (refine aStr H _ rfl rfl rfl ?_) | (refine aStrR RO H _ rfl rfl rfl ?_))
      | (at_builtin; refine aAppB1 _ H _ _ rfl rfl rfl (by first | omega | (have := HCL.out; omega)) rfl ?_; clear H; intro v' w' ys HY H; (try dsimp only at H); obtain ⟨A', c', rfl, hc'⟩ := (H.hold.rr v').len))
    go_ret
    exact ⟨rfl, H.below⟩
  · have h3i : ((300 : Int) < (b.length : Int)) = False := eq_false (by omega)
    have hbl : b.length ≤ 1000000000 := by omega
    have HBL := Lib.hid hbl
    have HD1 := Lib.hid (fun A n c W (h : RB W (.slice A n c) b) hc => labDecode_any A n c b W h hc)
    have HD2 := Lib.hid (fun A n c W (h : RB W (.slice A n c) b) => rlabDecode_any A n c b W h)
    have HLL := Lib.hid lbC_len
    have HLM := Lib.hid (lbC_map (decLU b) (decLP b))
    have HLO := Lib.hid (fun u p A n c => lbC_one u p (.slice A n c) rfl)
    have HSM := Lib.hid (fun A1 A2 n1 c1 n2 c2 W h1 h2 => LSame_true (decLU b) (decLP b) A1 A2 n1 c1 n2 c2 (decLM b) W h1 h2)
    have hml : (decLM b).length ≤ 300 := by
      unfold decLM
      split
      · rw [lbMap, List.length_drop, List.length_take]; omega
      · simp
    unfold LabTold at HD1 HD2
    have hee : (lbE b == lbE b) = true := by simp
    generalize lbE b = eb at *
    clear rd hbl
    go_enter Tryd.func8, Tryd.ntmps8
    go_wp2_with (first
      | ((with_reducible refine gDst 16 ?_); refine aAppBs H _ _ rfl rfl rfl ((H.old RO).rd (.slice A b.length c)) ⟨by simp, HBL.out⟩ rfl ?_; clear H; intro v' w' ys HY H; (try dsimp only at H); rw [List.nil_append] at HY; rw [HY.out] at H; obtain ⟨A16, c16, rfl, hc16⟩ := (H.hold.rr v').len; replace H : SH Nil w w' [.row B8 (.slice A16 b.length c16) b] := H; have hcap := OR.cap (H.ow (.slice A16 b.length c16)))
      | (go_at_call 40; (with_reducible refine (HD1.out _ _ _ _ (H.hold.rr (.slice A16 b.length c16)) hcap).mono ?_); rintro e w' ⟨⟨A4, c4, rfl, ho⟩, hb⟩; replace H := H.pushRow hb ho; clear hb ho)
      | (go_at_call 41; (with_reducible refine (HD2.out _ _ _ _ ((H.old RO).rd (.slice A b.length c))).mono ?_); rintro e w' ⟨⟨A6, c6, rfl, hr⟩, hb⟩; have H0 := H.step hb; clear H hb; have H := SH.start Nil w')
      | ((with_reducible refine gSto (.tmp 4) (.tmp 20) ?_); refine aStore H _ _ rfl rfl rfl ⟨by rfl, HLL.out _ _ _⟩ (HLO.out _ _ _ _ _) rfl ?_; clear H; intro w' H; (try dsimp only at H))
      | ((with_reducible refine gSto (.tmp 6) (.tmp 25) ?_); refine aStore H _ _ rfl rfl rfl ⟨by rfl, HLL.out _ _ _⟩ (HLO.out _ _ _ _ _) rfl ?_; clear H; intro w' H; (try dsimp only at H))
      | ((with_reducible refine gDst 27 ?_); refine stepV (xLoad (H0.hold.below H.below) _ rfl rfl (part_all (HLL.out _ _ _)) (HLL.out _ _ _)) rfl ?_)
      | ((with_reducible refine gDst 28 ?_); refine aLoad H _ rfl rfl (part_all (HLL.out _ _ _)) (HLL.out _ _ _) rfl ?_)
      | (go_at_call 42; (with_reducible refine (HSM.out _ _ _ _ _ _ _ ((H0.hold.rr (.slice A4 (decLM b).length c4)).below H.below) (hr.below H.below)).mono ?_); rintro e w' ⟨rfl, hb⟩; replace H := H0.join (H.step hb); simp only [List.cons_append, List.nil_append] at H; clear hb hr H0)
      | ((with_reducible refine gDst 14 ?_); refine aEmpty sB H rfl rfl ?_; clear H; intro b14 w14 H)
      | ((with_reducible refine gDst 4 ?_); refine aAlloc H rfl rfl ?_; clear H; intro b4 w4 H)
      | ((with_reducible refine gDst 6 ?_); refine aAlloc H rfl rfl ?_; clear H; intro b6 w6 H)
      | ((with_reducible refine gLoad ?_); first | (refine aLoad1 H _ rfl rfl (by first | exact (rfl : _ = some (Value.int _ _)) | exact (rfl : _ = some (Value.slice _ _ _)) | exact (rfl : _ = some (Value.bool _)) | exact (rfl : _ = some (Value.string _)) | exact (rfl : _ = some (Value.pointer _)) | rfl | (simp [List.getElem?_append]; done)) rfl ?_) | (refine aLoadR1 RO H _ rfl rfl (by first | exact (rfl : _ = some (Value.int _ _)) | exact (rfl : _ = some (Value.slice _ _ _)) | exact (rfl : _ = some (Value.bool _)) | exact (rfl : _ = some (Value.string _)) | exact (rfl : _ = some (Value.pointer _)) | rfl | (simp [List.getElem?_append]; done)) rfl ?_) | (refine aLoadC _ rfl rfl (by assumption) rfl ?_) | (refine aLoad H _ rfl rfl (by first | exact part_all (by first | rfl | simp []) | (simp only [List.drop_succ_cons, List.drop_zero, List.take_succ_cons, List.take_zero]; rfl) | (simp [List.drop_append, List.take_append]; rfl)) (by first | rfl | simp []) rfl ?_) | (refine aLoadR RO H _ rfl rfl (by first | exact part_all (by first | rfl | simp []) | (simp only [List.drop_succ_cons, List.drop_zero, List.take_succ_cons, List.take_zero]; rfl) | (simp [List.drop_append, List.take_append]; rfl)) (by first | rfl | simp []) rfl ?_))
      | ((with_reducible refine gStore ?_); (first | (refine aCell H _ _ rfl rfl (by first | exact (rfl : _ = Value.int _ _) | exact (rfl : _ = Value.bool _) | exact (rfl : _ = Value.slice _ _ _) | exact (rfl : _ = Value.string _) | exact (rfl : _ = Value.pointer _) | exact (rfl : _ = Value.func _ _ _) | rfl) (by rfl) (by rfl) (by first | exact of_decide_eq_true rfl | (simp []; done) | (simp []; omega)) (by first | (simp only [List.set_cons_zero, List.set_cons_succ]; rfl) | (simp [List.set_append]; rfl)) rfl ?_) | (refine aStore H _ _ rfl rfl rfl (by (first | exact ⟨rfl, rfl⟩ | exact ⟨by decide, rfl⟩ | (simp []; done) | (constructor <;> simp [] <;> omega))) (by first | rfl | simp [List.all_append, one_all]) rfl ?_) | (refine aLay H _ _ rfl rfl rfl (by (first | exact ⟨rfl, rfl⟩ | exact ⟨by decide, rfl⟩ | (simp []; done) | (constructor <;> simp [] <;> omega))) (by first | rfl | simp [List.all_append, one_all]) (by simp only [lay, List.take_succ_cons, List.take_zero, List.drop_succ_cons, List.drop_zero, List.nil_append, List.cons_append, List.length_cons, List.length_nil, Nat.zero_add, Nat.reduceAdd]; rfl) rfl ?_)); clear H; intro w' H; try dsimp only at H)
      | ((with_reducible refine gConv ?_); first | (refine aStr H _ rfl rfl rfl ?_) | (refine aStrR RO H _ rfl rfl rfl ?_))
      | (at_builtin; refine aAppB1 _ H _ _ rfl rfl rfl (by first | omega | (have := HCL.out; omega)) rfl ?_; clear H; intro v' w' ys HY H; (try dsimp only at H); obtain ⟨A', c', rfl, hc'⟩ := (H.hold.rr v').len))
    have hbb : (b == b) = true := by simp
    rcases Nat.eq_zero_or_pos (decLM b).length with hm0 | hm0
    · go_loopw [9] (fun v9 wr => relNil (.blk b6 80 (lbC (decLU b) (decLP b) (.slice A6 (decLM b).length c6)) :: .blk b4 80 (lbC (decLU b) (decLP b) (.slice A4 (decLM b).length c4)) :: [.row B8 (.slice A4 (decLM b).length c4) (decLM b), .row B8 (.slice A16 b.length c16) b]) w v9 wr) (fun v _ => 0)
      case atStart => exact ⟨rfl, H⟩
      case round =>
        obtain ⟨rfl, HS⟩ := hrel
        clear H
        have H := HS
        clear HS
        rw [hm0] at H
        go_wp2_with (first
          | ((with_reducible refine gDst 37 ?_); refine aLoad1 H _ rfl rfl (HLM.out _) rfl ?_)
          | (go_at_call 35; refine (alive07_any _).mono ?_; rintro e w' ⟨rfl, hb⟩; replace H := H.step hb; clear hb)
          | ((with_reducible refine gDst 14 ?_); refine aEmpty sB H rfl rfl ?_; clear H; intro b14 w14 H)
          | ((with_reducible refine gDst 4 ?_); refine aAlloc H rfl rfl ?_; clear H; intro b4 w4 H)
          | ((with_reducible refine gDst 6 ?_); refine aAlloc H rfl rfl ?_; clear H; intro b6 w6 H)
          | ((with_reducible refine gLoad ?_); first | (refine aLoad1 H _ rfl rfl (by first | exact (rfl : _ = some (Value.int _ _)) | exact (rfl : _ = some (Value.slice _ _ _)) | exact (rfl : _ = some (Value.bool _)) | exact (rfl : _ = some (Value.string _)) | exact (rfl : _ = some (Value.pointer _)) | rfl | (simp [List.getElem?_append]; done)) rfl ?_) | (refine aLoadR1 RO H _ rfl rfl (by first | exact (rfl : _ = some (Value.int _ _)) | exact (rfl : _ = some (Value.slice _ _ _)) | exact (rfl : _ = some (Value.bool _)) | exact (rfl : _ = some (Value.string _)) | exact (rfl : _ = some (Value.pointer _)) | rfl | (simp [List.getElem?_append]; done)) rfl ?_) | (refine aLoadC _ rfl rfl (by assumption) rfl ?_) | (refine aLoad H _ rfl rfl (by first | exact part_all (by first | rfl | simp []) | (simp only [List.drop_succ_cons, List.drop_zero, List.take_succ_cons, List.take_zero]; rfl) | (simp [List.drop_append, List.take_append]; rfl)) (by first | rfl | simp []) rfl ?_) | (refine aLoadR RO H _ rfl rfl (by first | exact part_all (by first | rfl | simp []) | (simp only [List.drop_succ_cons, List.drop_zero, List.take_succ_cons, List.take_zero]; rfl) | (simp [List.drop_append, List.take_append]; rfl)) (by first | rfl | simp []) rfl ?_))
          | ((with_reducible refine gStore ?_); (first | (refine aCell H _ _ rfl rfl (by first | exact (rfl : _ = Value.int _ _) | exact (rfl : _ = Value.bool _) | exact (rfl : _ = Value.slice _ _ _) | exact (rfl : _ = Value.string _) | exact (rfl : _ = Value.pointer _) | exact (rfl : _ = Value.func _ _ _) | rfl) (by rfl) (by rfl) (by first | exact of_decide_eq_true rfl | (simp []; done) | (simp []; omega)) (by first | (simp only [List.set_cons_zero, List.set_cons_succ]; rfl) | (simp [List.set_append]; rfl)) rfl ?_) | (refine aStore H _ _ rfl rfl rfl (by (first | exact ⟨rfl, rfl⟩ | exact ⟨by decide, rfl⟩ | (simp []; done) | (constructor <;> simp [] <;> omega))) (by first | rfl | simp [List.all_append, one_all]) rfl ?_) | (refine aLay H _ _ rfl rfl rfl (by (first | exact ⟨rfl, rfl⟩ | exact ⟨by decide, rfl⟩ | (simp []; done) | (constructor <;> simp [] <;> omega))) (by first | rfl | simp [List.all_append, one_all]) (by simp only [lay, List.take_succ_cons, List.take_zero, List.drop_succ_cons, List.drop_zero, List.nil_append, List.cons_append, List.length_cons, List.length_nil, Nat.zero_add, Nat.reduceAdd]; rfl) rfl ?_)); clear H; intro w' H; try dsimp only at H)
          | ((with_reducible refine gConv ?_); first | (refine aStr H _ rfl rfl rfl ?_) | (refine aStrR RO H _ rfl rfl rfl ?_))
          | (at_builtin; refine aAppB1 _ H _ _ rfl rfl rfl (by first | omega | (have := HCL.out; omega)) rfl ?_; clear H; intro v' w' ys HY H; (try dsimp only at H); obtain ⟨A', c', rfl, hc'⟩ := (H.hold.rr v').len))
        go_ret
        exact ⟨rfl, H.below⟩
    · obtain ⟨g, tail, rfl, -, hc4, HB⟩ := (H.bring 2 rfl).toBlkG hm0
      obtain ⟨cs, hcs⟩ : ∃ cs, cs = B8.all (decLM b) ++ tail := ⟨_, rfl⟩
      have hcl : (decLM b).length ≤ cs.length := by rw [hcs, U8_all, List.length_append, List.length_map]; omega
      change SH Nil w _ (.blk g 5 (B8.all (decLM b) ++ tail) :: [.blk b6 80 (lbC (decLU b) (decLP b) (.slice A6 (decLM b).length c6)), .blk b4 80 (lbC (decLU b) (decLP b) (.slice (some ⟨g, 0, none⟩) (decLM b).length c4)), .row B8 (.slice A16 b.length c16) b]) at HB
      rw [← hcs] at HB
      clear hcs H
      generalize (decLM b).length = n at *
      go_loopw [9] (fun v9 wr => relNine n g [.blk b6 80 (lbC (decLU b) (decLP b) (.slice A6 n c6)), .blk b4 80 (lbC (decLU b) (decLP b) (.slice (some ⟨g, 0, none⟩) n c4)), .row B8 (.slice A16 b.length c16) b] w v9 wr) (fun v _ => n - (intOf v).toNat)
      case atStart => exact ⟨0, cs, rfl, Nat.zero_le _, hcl, HB⟩
      case round =>
        obtain ⟨i, cs, rfl, hi, hcl, HS⟩ := hrel
        clear HB
        have H := HS
        clear HS
        by_cases hin : i < n
        · have hii : (i : Int) < (n : Int) := by omega
          have hnb : (n : Int) ≤ 300 := by omega
          have hic : i < cs.length := by omega
          go_wp2_with (first
            | ((with_reducible refine gDst 37 ?_); refine aLoad1 H _ rfl rfl (HLM.out _) rfl ?_)
            | ((with_reducible refine gDst 43 ?_); refine aLoad1 H _ rfl rfl (HLM.out _) rfl ?_)
            | ((with_reducible refine gSto (.tmp 45) (.const (.int .u8 9)) ?_); refine aCell (v := .int .u8 9) (new := cs.set i (.int .u8 9)) H _ _ rfl rfl rfl rfl rfl hic rfl rfl ?_; clear H; intro w' H; (try dsimp only at H)))
          go_roundw
          case rel => first | exact ⟨i + 1, cs.set i (.int .u8 9), by go_num, by omega, by rw [List.length_set]; exact hcl, H⟩ | exact ⟨_, ⟨i + 1, cs.set i (.int .u8 9), by go_num, by omega, by rw [List.length_set]; exact hcl, H⟩, rfl⟩ | exact ⟨_, _, ⟨i + 1, cs.set i (.int .u8 9), by go_num, by omega, by rw [List.length_set]; exact hcl, H⟩, rfl, rfl⟩ | exact ⟨_, _, _, ⟨i + 1, cs.set i (.int .u8 9), by go_num, by omega, by rw [List.length_set]; exact hcl, H⟩, rfl, rfl, rfl⟩ | exact ⟨_, _, _, _, ⟨i + 1, cs.set i (.int .u8 9), by go_num, by omega, by rw [List.length_set]; exact hcl, H⟩, rfl, rfl, rfl, rfl⟩ | exact ⟨_, _, _, _, _, ⟨i + 1, cs.set i (.int .u8 9), by go_num, by omega, by rw [List.length_set]; exact hcl, H⟩, rfl, rfl, rfl, rfl, rfl⟩ | ((repeat (apply Exists.intro)); exact ⟨⟨i + 1, cs.set i (.int .u8 9), by go_num, by omega, by rw [List.length_set]; exact hcl, H⟩, rfl⟩)
          case measure => simp [intOf] <;> omega
        · have hii : ((i : Int) < (n : Int)) = False := eq_false (by omega)
          go_wp2_with (first
            | ((with_reducible refine gDst 37 ?_); refine aLoad1 H _ rfl rfl (HLM.out _) rfl ?_)
            | (go_at_call 35; refine (alive07_any _).mono ?_; rintro e w' ⟨rfl, hb⟩; replace H := H.step hb; clear hb)
            | ((with_reducible refine gDst 14 ?_); refine aEmpty sB H rfl rfl ?_; clear H; intro b14 w14 H)
            | ((with_reducible refine gDst 4 ?_); refine aAlloc H rfl rfl ?_; clear H; intro b4 w4 H)
            | ((with_reducible refine gDst 6 ?_); refine aAlloc H rfl rfl ?_; clear H; intro b6 w6 H)
            | ((with_reducible refine gLoad ?_); first | (refine aLoad1 H _ rfl rfl (by first | exact (rfl : _ = some (Value.int _ _)) | exact (rfl : _ = some (Value.slice _ _ _)) | exact (rfl : _ = some (Value.bool _)) | exact (rfl : _ = some (Value.string _)) | exact (rfl : _ = some (Value.pointer _)) | rfl | (simp [List.getElem?_append]; done)) rfl ?_) | (refine aLoadR1 RO H _ rfl rfl (by first | exact (rfl : _ = some (Value.int _ _)) | exact (rfl : _ = some (Value.slice _ _ _)) | exact (rfl : _ = some (Value.bool _)) | exact (rfl : _ = some (Value.string _)) | exact (rfl : _ = some (Value.pointer _)) | rfl | (simp [List.getElem?_append]; done)) rfl ?_) | (refine aLoadC _ rfl rfl (by assumption) rfl ?_) | (refine aLoad H _ rfl rfl (by first | exact part_all (by first | rfl | simp []) | (simp only [List.drop_succ_cons, List.drop_zero, List.take_succ_cons, List.take_zero]; rfl) | (simp [List.drop_append, List.take_append]; rfl)) (by first | rfl | simp []) rfl ?_) | (refine aLoadR RO H _ rfl rfl (by first | exact part_all (by first | rfl | simp []) | (simp only [List.drop_succ_cons, List.drop_zero, List.take_succ_cons, List.take_zero]; rfl) | (simp [List.drop_append, List.take_append]; rfl)) (by first | rfl | simp []) rfl ?_))
            | ((with_reducible refine gStore ?_); (first | (refine aCell H _ _ rfl rfl (by first | exact (rfl : _ = Value.int _ _) | exact (rfl : _ = Value.bool _) | exact (rfl : _ = Value.slice _ _ _) | exact (rfl : _ = Value.string _) | exact (rfl : _ = Value.pointer _) | exact (rfl : _ = Value.func _ _ _) | rfl) (by rfl) (by rfl) (by first | exact of_decide_eq_true rfl | (simp []; done) | (simp []; omega)) (by first | (simp only [List.set_cons_zero, List.set_cons_succ]; rfl) | (simp [List.set_append]; rfl)) rfl ?_) | (refine aStore H _ _ rfl rfl rfl (by (first | exact ⟨rfl, rfl⟩ | exact ⟨by decide, rfl⟩ | (simp []; done) | (constructor <;> simp [] <;> omega))) (by first | rfl | simp [List.all_append, one_all]) rfl ?_) | (refine aLay H _ _ rfl rfl rfl (by (first | exact ⟨rfl, rfl⟩ | exact ⟨by decide, rfl⟩ | (simp []; done) | (constructor <;> simp [] <;> omega))) (by first | rfl | simp [List.all_append, one_all]) (by simp only [lay, List.take_succ_cons, List.take_zero, List.drop_succ_cons, List.drop_zero, List.nil_append, List.cons_append, List.length_cons, List.length_nil, Nat.zero_add, Nat.reduceAdd]; rfl) rfl ?_)); clear H; intro w' H; try dsimp only at H)
            | ((with_reducible refine gConv ?_); first | (refine aStr H _ rfl rfl rfl ?_) | (refine aStrR RO H _ rfl rfl rfl ?_))
            | (at_builtin; refine aAppB1 _ H _ _ rfl rfl rfl (by first | omega | (have := HCL.out; omega)) rfl ?_; clear H; intro v' w' ys HY H; (try dsimp only at H); obtain ⟨A', c', rfl, hc'⟩ := (H.hold.rr v').len))
          go_ret
          exact ⟨rfl, H.below⟩
end Go.Proofs.YticfcelbnkiopaaDoor

namespace Go.Proofs.YticfcelbnkiopaaDoor
set_option maxRecDepth 100000
open Go.RowKit Go.ChangeShapes Go.WideShapes

theorem wf_u8 {a : Int} (h : (Lit.int .u8 a).wf = true) : ∃ x : UInt8, a = (x.toNat : Int) := by
  simp [Lit.wf, IntKind.min, IntKind.max, IntKind.bits, IntKind.signed] at h
  refine ⟨UInt8.ofNat a.toNat, ?_⟩
  rw [UInt8.toNat_ofNat']
  omega
theorem wf_u32 {a : Int} (h : (Lit.int .u32 a).wf = true) : ∃ n : Nat, a = (n : Int) ∧ n < 4294967296 := by
  simp [Lit.wf, IntKind.min, IntKind.max, IntKind.bits, IntKind.signed] at h
  exact ⟨a.toNat, by omega, by omega⟩
theorem wf_u64 {a : Int} (h : (Lit.int .u64 a).wf = true) : ∃ n : Nat, a = (n : Int) ∧ n < 18446744073709551616 := by
  simp [Lit.wf, IntKind.min, IntKind.max, IntKind.bits, IntKind.signed] at h
  exact ⟨a.toNat, by omega, by omega⟩
theorem wf_i64 {a : Int} (h : (Lit.int .i64 a).wf = true) : -9223372036854775808 ≤ a ∧ a ≤ 9223372036854775807 := by
  simp [Lit.wf, IntKind.min, IntKind.max, IntKind.bits, IntKind.signed] at h
  omega

/-- A slice of bytes that came in. -/
theorem open_bytes {H : Type} {enc : TypeId × Value → H} {P : Program} {W : World} {base : Nat} {spare : Nat → Bool} {held : Bool} {t e : TypeId} {a : Option Addr} {len cap : Nat} {d : DataW H} {ps : List MemPlace}
    (hu : P.underlying t = some (.slice e)) (he : P.underlying e = some (.int .u8)) (hc : P.cellsOf e = 1)
    (h : DataW.Trod enc P W base spare held t (.slice a len cap) d ps) : ∃ xs : List UInt8, RR (U8 e) W (.slice a len cap) xs := by
  obtain ⟨fuel, hf⟩ := h
  rcases open_ints hu he hc hf with ⟨hcs, _⟩ | ⟨x, l, c, zs, hcs, _, hl, hm, hz, _, hcell, hwz⟩
  · simp [Value.cells] at hcs
    obtain ⟨rfl, rfl, rfl⟩ := hcs
    exact ⟨[], RR.nil W⟩
  · simp [Value.cells] at hcs
    obtain ⟨rfl, rfl, rfl⟩ := hcs
    have hlz : len ≤ zs.length := by
      rw [hz]
      split
      · exact hl
      · exact Nat.le_refl _
    have hz2 : ((zs.take len).map fun n => UInt8.ofNat n.toNat).length = len := by simp; omega
    refine ⟨(zs.take len).map fun n => UInt8.ofNat n.toNat, some x, cap, by rw [hz2], by omega, by simp only [maxLen] at hm; omega, fun _ => ⟨x, rfl, fun j u hj => ?_⟩⟩
    rw [U8_all] at hj
    have hjl : j < len := by have := (List.getElem?_eq_some_iff.1 hj).1; simp at this; omega
    rw [hcell j (by omega), ← hj]
    simp only [List.map_map, List.getElem?_map, List.getElem?_take, hjl, if_true, List.getElem?_eq_getElem (show j < zs.length by omega), Option.map_some, Function.comp_apply, cb, List.getD_eq_getElem?_getD, Option.getD_some]
    obtain ⟨b, hb⟩ := wf_u8 (hwz zs[j] (List.getElem_mem _))
    rw [hb]
    simp
end Go.Proofs.YticfcelbnkiopaaDoor

namespace Go.Proofs.YticfcelbnkiopaaDoor
set_option maxRecDepth 100000
open Go.RowKit
set_option linter.unusedSimpArgs false
set_option linter.unusedVariables false

theorem and255 (x : Int) : ∃ a : Nat, a < 256 ∧ bits .and .i64 x 255 = (a : Int) := by
  have e : bits .and .i64 x 255 = IntKind.i64.wrap (((BitVec.ofInt 64 x &&& BitVec.ofInt 64 255).toNat : Nat) : Int) := rfl
  have hlt : (BitVec.ofInt 64 x &&& BitVec.ofInt 64 255).toNat ≤ 255 := by
    rw [BitVec.toNat_and]
    exact Nat.le_trans Nat.and_le_right (by decide)
  refine ⟨_, Nat.lt_succ_of_le hlt, ?_⟩
  rw [e, i64w _ (by omega) (by omega)]
theorem VA.rbPre {w : World} {g : Nat} {xs : List UInt8} {tail : List Value} {t : TypeId} (h : VA w g t (xs.map cb ++ tail)) (n cp : Nat) (hn : xs.length = n) (hc : n ≤ cp) (hm : n ≤ 1000000) : RB w (.slice (some ⟨g, 0, none⟩) n cp) xs := by
  subst hn
  refine ⟨_, _, rfl, hc, by omega, fun _ => ⟨_, rfl, fun j u hu => ?_⟩⟩
  rw [Addr.add_mid, Nat.zero_add, h.cell]
  rw [U8_all] at hu
  rw [List.getElem?_append_left (List.getElem?_eq_some_iff.1 hu).1]
  exact hu
/-- With another byte in its hash a label is none. -/
theorem lab_spoilt (lb : List UInt8) (h : lb.length = 256) (hs : shaL (lb.take 224) = lb.drop 224) (i : Nat) (hi : i < 256) (hi2 : 224 ≤ i) (z : UInt8) (hz : z ≠ lb.getD i 0) : lbE (lb.set i z) = 14 := by
  refine lb_sum (by rw [List.length_set, h]) ?_
  have h1 : (lb.set i z).take 224 = lb.take 224 := by
    rw [List.take_set, List.set_eq_of_length_le (by rw [List.length_take]; omega)]
  rw [h1, hs, List.drop_set, if_neg (by omega)]
  refine beq_eq_false_iff_ne.2 fun he => hz ?_
  have hl : i - 224 < (lb.drop 224).length := by rw [List.length_drop]; omega
  have h2 : (lb.drop 224)[i - 224]? = ((lb.drop 224).set (i - 224) z)[i - 224]? := congrArg (fun l => l[i - 224]?) he
  rw [List.getElem?_set_self hl, List.getElem?_drop, show 224 + (i - 224) = i by omega] at h2
  rw [List.getD_eq_getElem?_getD, h2]; rfl
set_option maxHeartbeats 3200000 in
theorem LabelBack_any (u : UInt32) (p : PT) (A : Option Addr) (c : Nat) (xs : List UInt8) (at_ : Int) (x : UInt8) (w : World) (rd : RB w (.slice A xs.length c) xs) :
    Calls Tryd.prog 9 #[.agg (lbC u p (.slice A xs.length c)).toArray, .int .i64 at_, .int .u8 (x.toNat : Int)] w fun e w' => e = .returned (.bool true) ∧ Below w.heap.size w w' := by
  have H := SH.start Nil w
  have RO := HOLD.rdOne rd
  have HLL := Lib.hid lbC_len
  have HLO := Lib.hid (fun u p A n c => lbC_one u p (.slice A n c) rfl)
  have hE : ∀ W, RB W (.slice A xs.length c) xs → Calls Tryd.prog 36 #[.agg (lbC u p (.slice A xs.length c)).toArray] W fun e w' => ∃ Ab cb, e = .returned (.tuple #[.slice Ab (labL u p xs).length cb, .int .i64 (labE p xs)]) ∧ OB w' W.heap.size (.slice Ab (labL u p xs).length cb) (labL u p xs) ∧ Below W.heap.size W w' := fun W h => by
    refine (labEncode_any u p A c xs W h).mono ?_
    rintro e w' ⟨v, rfl, ho, hb⟩
    obtain ⟨A', c', rfl, -⟩ := ho.reads.len
    exact ⟨A', c', rfl, ho, hb⟩
  have HE := Lib.hid hE
  clear hE
  cases hok : labOk p xs with
  | false =>
    rw [labE, labL, hok] at HE
    rw [if_neg (by decide), if_neg (by decide)] at HE
    clear hok
    go_enter Tryd.func9, Tryd.ntmps9
    go_wp2_with (first
      | ((with_reducible refine gDst 17 ?_); refine aLoad H _ rfl rfl (part_all (HLL.out _ _ _)) (HLL.out _ _ _) rfl ?_)
      | (go_at_call 36; (with_reducible refine (HE.out _ ((H.old RO).rd _)).mono ?_); rintro e w' ⟨A7, c7, rfl, ho, hb⟩; replace H := H.pushRow hb ho; clear hb ho)
      | (go_at_call 35; refine (alive07_any _).mono ?_; rintro e w' ⟨rfl, hb⟩; replace H := H.step hb; clear hb)
      | ((with_reducible refine gDst 3 ?_); refine aBox H _ rfl rfl rfl ?_; clear H; intro b3 w3 H)
      | ((with_reducible refine gDst 9 ?_); refine aAlloc H rfl rfl ?_; clear H; intro b9 w9 H)
      | ((with_reducible refine gDst 12 ?_); refine aAlloc H rfl rfl ?_; clear H; intro b12 w12 H)
      | ((with_reducible refine gDst 14 ?_); refine aAlloc H rfl rfl ?_; clear H; intro b14 w14 H)
      | ((with_reducible refine gLoad ?_); first | (refine aLoad1 H _ rfl rfl (by first | exact (rfl : _ = some (Value.int _ _)) | exact (rfl : _ = some (Value.slice _ _ _)) | exact (rfl : _ = some (Value.bool _)) | exact (rfl : _ = some (Value.string _)) | exact (rfl : _ = some (Value.pointer _)) | rfl | (simp [List.getElem?_append]; done)) rfl ?_) | (refine aLoadR1 RO H _ rfl rfl (by first | exact (rfl : _ = some (Value.int _ _)) | exact (rfl : _ = some (Value.slice _ _ _)) | exact (rfl : _ = some (Value.bool _)) | exact (rfl : _ = some (Value.string _)) | exact (rfl : _ = some (Value.pointer _)) | rfl | (simp [List.getElem?_append]; done)) rfl ?_) | (refine aLoadC _ rfl rfl (by assumption) rfl ?_) | (refine aLoad H _ rfl rfl (by first | exact part_all (by first | rfl | simp []) | (simp only [List.drop_succ_cons, List.drop_zero, List.take_succ_cons, List.take_zero]; rfl) | (simp [List.drop_append, List.take_append]; rfl)) (by first | rfl | simp []) rfl ?_) | (refine aLoadR RO H _ rfl rfl (by first | exact part_all (by first | rfl | simp []) | (simp only [List.drop_succ_cons, List.drop_zero, List.take_succ_cons, List.take_zero]; rfl) | (simp [List.drop_append, List.take_append]; rfl)) (by first | rfl | simp []) rfl ?_))
      | ((with_reducible refine gStore ?_); (first | (refine aCell H _ _ rfl rfl (by first | exact (rfl : _ = Value.int _ _) | exact (rfl : _ = Value.bool _) | exact (rfl : _ = Value.slice _ _ _) | exact (rfl : _ = Value.string _) | exact (rfl : _ = Value.pointer _) | exact (rfl : _ = Value.func _ _ _) | rfl) (by rfl) (by rfl) (by first | exact of_decide_eq_true rfl | (simp []; done) | (simp []; omega)) (by first | (simp only [List.set_cons_zero, List.set_cons_succ]; rfl) | (simp [List.set_append]; rfl)) rfl ?_) | (refine aStore H _ _ rfl rfl rfl (by (first | exact ⟨rfl, rfl⟩ | exact ⟨by decide, rfl⟩ | (simp []; done) | (constructor <;> simp [] <;> omega))) (by first | rfl | simp [List.all_append, one_all]) rfl ?_) | (refine aLay H _ _ rfl rfl rfl (by (first | exact ⟨rfl, rfl⟩ | exact ⟨by decide, rfl⟩ | (simp []; done) | (constructor <;> simp [] <;> omega))) (by first | rfl | simp [List.all_append, one_all]) (by simp only [lay, List.take_succ_cons, List.take_zero, List.drop_succ_cons, List.drop_zero, List.nil_append, List.cons_append, List.length_cons, List.length_nil, Nat.zero_add, Nat.reduceAdd]; rfl) rfl ?_)); clear H; intro w' H; try dsimp only at H))
    go_ret
    exact ⟨rfl, H.below⟩
  | true =>
    have hx : xs.length = 64 := by rw [labOk, Bool.and_eq_true, beq_iff_eq] at hok; exact hok.2
    have hll := labW_len u p xs hx
    obtain ⟨k1, k2, k3, k4⟩ := lab_back u p xs hok
    have hsum : shaL ((labW u p xs).take 224) = (labW u p xs).drop 224 := by
      obtain ⟨q1, q2, -⟩ := lab_parts u p xs (shaL (labB u p xs)) hx
      rw [labW, q1, q2]
    have e1 : decLU (labW u p xs) = u := by rw [decLU, if_pos k1, k2]
    have e2 : decLP (labW u p xs) = p := by rw [decLP, if_pos k1, k3]
    have e3 : decLM (labW u p xs) = xs := by rw [decLM, if_pos k1, k4]
    have HD := Lib.hid (fun A n c W (h : RB W (.slice A n c) (labW u p xs)) hc => labDecode_any A n c _ W h hc)
    unfold LabTold at HD
    rw [e1, e2, e3, k1] at HD
    have HSM := Lib.hid (fun A1 A2 n1 c1 n2 c2 W h1 h2 => LSame_true u p A1 A2 n1 c1 n2 c2 xs W h1 h2)
    rw [labE, labL, hok, if_pos rfl, if_pos rfl, hll] at HE
    obtain ⟨i, hi, hand⟩ := and255 at_
    have hsp : ∀ z, x ≠ 0 → 224 ≤ i → z = (labW u p xs).getD i 0 ^^^ x → lbE ((labW u p xs).set i z) = 14 := fun z hx0 hi2 hz => lab_spoilt _ hll hsum i hi hi2 z (fun e => hx0 (by
      have k : x = (labW u p xs).getD i 0 ^^^ ((labW u p xs).getD i 0 ^^^ x) := by rw [← UInt8.xor_assoc, UInt8.xor_self, UInt8.zero_xor]
      rw [k, ← hz, e, UInt8.xor_self]))
    generalize labW u p xs = lb at *
    clear k1 k2 k3 k4 e1 e2 e3 hsum hok rd hx
    have HLB := Lib.hid hll
    obtain ⟨y, hy⟩ : ∃ y, y = lb.getD i 0 := ⟨_, rfl⟩
    obtain ⟨z, hz⟩ : ∃ z, z = y ^^^ x := ⟨_, rfl⟩
    have hx8 : bits .xor .u8 (y.toNat : Int) (x.toNat : Int) = (z.toNat : Int) := by
      rw [u8_xor_nat _ _ (UInt8.toNat_lt y) (UInt8.toNat_lt x), hz, UInt8.toNat_xor]
    have hg58 : ∀ tail : List Value, (B8.all lb ++ tail)[i]? = some (.int .u8 (y.toNat : Int)) := fun tail => by
      rw [U8_all, List.getElem?_append_left (by rw [List.length_map, hll]; exact hi), List.getElem?_map, List.getElem?_eq_getElem (by rw [hll]; exact hi), hy, List.getD_eq_getElem?_getD, List.getElem?_eq_getElem (by rw [hll]; exact hi)]; rfl
    have hset : ∀ tail : List Value, (B8.all lb ++ tail).set i (cb z) = (lb.set i z).map cb ++ tail := fun tail => by
      rw [U8_all, List.set_append_left _ _ (by rw [List.length_map, hll]; exact hi), List.map_set]
    have hlt : ∀ tail : List Value, i < (B8.all lb ++ tail).length := fun tail => by
      rw [U8_all, List.length_append, List.length_map, hll]; omega
    have hlen2 : (lb.set i z).length = 256 := by rw [List.length_set, hll]
    have hcase : x = 0 ∨ (x ≠ 0 ∧ i < 224) ∨ (x ≠ 0 ∧ 224 ≤ i ∧ lbE (lb.set i z) = 14) := by
      by_cases h0 : x = 0
      · exact .inl h0
      · by_cases h1 : i < 224
        · exact .inr (.inl ⟨h0, h1⟩)
        · exact .inr (.inr ⟨h0, by omega, hsp z h0 (by omega) (by rw [hz, hy])⟩)
    generalize hb2 : lb.set i z = b2 at *
    have HD2 := Lib.hid (fun A n c W (h : RB W (.slice A n c) b2) hc => labDecode_any A n c b2 W h hc)
    have HR2 := Lib.hid (fun A n c W (h : RB W (.slice A n c) b2) => rlabDecode_any A n c b2 W h)
    unfold LabTold at HD2 HR2
    have hee : (lbE b2 == lbE b2) = true := by simp
    generalize lbE b2 = eb at *
    have HG58 := Lib.hid hg58
    have HSET := Lib.hid hset
    have HLT := Lib.hid hlt
    have HL2 := Lib.hid hlen2
    have HCASE := Lib.hid hcase
    have h256n : (0 : Nat) < lb.length := by omega
    have H0L := Lib.hid h256n
    have hii : (i : Int) < 256 := by omega
    have H1256 := Lib.hid (show (256 : Nat) ≤ 1000000 by decide)
    clear hll hg58 hset hlt hlen2 hcase hsp hy hz h256n hb2
    go_enter Tryd.func9, Tryd.ntmps9
    go_wp2_with (first
      | ((with_reducible refine gDst 17 ?_); refine aLoad H _ rfl rfl (part_all (HLL.out _ _ _)) (HLL.out _ _ _) rfl ?_)
      | ((with_reducible refine gDst 46 ?_); refine aLoad H _ rfl rfl (part_all (HLL.out _ _ _)) (HLL.out _ _ _) rfl ?_)
      | ((with_reducible refine gDst 47 ?_); refine aLoad H _ rfl rfl (part_all (HLL.out _ _ _)) (HLL.out _ _ _) rfl ?_)
      | ((with_reducible refine gDst 58 ?_); refine aLoad1 H _ rfl rfl (HG58.out _) rfl ?_)
      | ((with_reducible refine gSto (.tmp 61) (.tmp 60) ?_); refine aCell (v := cb z) (new := b2.map cb ++ tail) H _ _ rfl rfl rfl rfl rfl (HLT.out _) (HSET.out _) rfl ?_; clear H; intro w' H; (try dsimp only at H))
      | (go_at_call 36; (with_reducible refine (HE.out _ ((H.old RO).rd _)).mono ?_); rintro e w' ⟨A7, c7, rfl, ho, hb⟩; have hcap := OR.cap ho; replace H := H.pushRow hb ho; clear hb ho)
      | (go_at_call 40; (with_reducible refine (HD.out _ _ _ _ (H.hold.rr (.slice A7 256 c7)) hcap).mono ?_); rintro e w' ⟨⟨A9, c9, rfl, ho⟩, hb⟩; replace H := H.pushRow hb ho; clear hb ho)
      | (go_at_call 40; (with_reducible refine (HD2.out _ _ _ _ (VA.rbPre (H.hold.va (b := g)) 256 c7 HL2.out (by have := HLB.out; omega) H1256.out) hcap).mono ?_); rintro e w' ⟨⟨A12, c12, rfl, ho⟩, hb⟩; replace H := H.pushRow hb ho; clear hb ho)
      | (go_at_call 41; (with_reducible refine (HR2.out _ _ _ _ (VA.rbPre (H.hold.va (b := g)) 256 c7 HL2.out (by have := HLB.out; omega) H1256.out)).mono ?_); rintro e w' ⟨⟨A14, c14, rfl, hr⟩, hb⟩; replace H := H.step hb; clear hb hr)
      | ((with_reducible refine gSto (.tmp 9) (.tmp 41) ?_); refine aStore H _ _ rfl rfl rfl ⟨by rfl, HLL.out _ _ _⟩ (HLO.out _ _ _ _ _) rfl ?_; clear H; intro w' H; (try dsimp only at H))
      | ((with_reducible refine gSto (.tmp 12) (.tmp 65) ?_); refine aStore H _ _ rfl rfl rfl ⟨by rfl, HLL.out _ _ _⟩ (HLO.out _ _ _ _ _) rfl ?_; clear H; intro w' H; (try dsimp only at H))
      | ((with_reducible refine gSto (.tmp 14) (.tmp 70) ?_); refine aStore H _ _ rfl rfl rfl ⟨by rfl, HLL.out _ _ _⟩ (HLO.out _ _ _ _ _) rfl ?_; clear H; intro w' H; (try dsimp only at H))
      | (go_at_call 42; (with_reducible refine (HSM.out _ _ _ _ _ _ _ ((H.old RO).rd _) (H.hold.rr (.slice A9 xs.length c9))).mono ?_); rintro e w' ⟨rfl, hb⟩; replace H := H.step hb; clear hb; obtain ⟨g, tail, rfl, -, hc7, HB⟩ := (H.bring 2 rfl).toBlkG H0L.out; clear H; have H := HB; clear HB; (try dsimp only [List.eraseIdx] at H))
      | ((with_reducible refine gDst 3 ?_); refine aBox H _ rfl rfl rfl ?_; clear H; intro b3 w3 H)
      | ((with_reducible refine gDst 9 ?_); refine aAlloc H rfl rfl ?_; clear H; intro b9 w9 H)
      | ((with_reducible refine gDst 12 ?_); refine aAlloc H rfl rfl ?_; clear H; intro b12 w12 H)
      | ((with_reducible refine gDst 14 ?_); refine aAlloc H rfl rfl ?_; clear H; intro b14 w14 H)
      | ((with_reducible refine gLoad ?_); first | (refine aLoad1 H _ rfl rfl (by first | exact (rfl : _ = some (Value.int _ _)) | exact (rfl : _ = some (Value.slice _ _ _)) | exact (rfl : _ = some (Value.bool _)) | exact (rfl : _ = some (Value.string _)) | exact (rfl : _ = some (Value.pointer _)) | rfl | (simp [List.getElem?_append]; done)) rfl ?_) | (refine aLoadR1 RO H _ rfl rfl (by first | exact (rfl : _ = some (Value.int _ _)) | exact (rfl : _ = some (Value.slice _ _ _)) | exact (rfl : _ = some (Value.bool _)) | exact (rfl : _ = some (Value.string _)) | exact (rfl : _ = some (Value.pointer _)) | rfl | (simp [List.getElem?_append]; done)) rfl ?_) | (refine aLoadC _ rfl rfl (by assumption) rfl ?_) | (refine aLoad H _ rfl rfl (by first | exact part_all (by first | rfl | simp []) | (simp only [List.drop_succ_cons, List.drop_zero, List.take_succ_cons, List.take_zero]; rfl) | (simp [List.drop_append, List.take_append]; rfl)) (by first | rfl | simp []) rfl ?_) | (refine aLoadR RO H _ rfl rfl (by first | exact part_all (by first | rfl | simp []) | (simp only [List.drop_succ_cons, List.drop_zero, List.take_succ_cons, List.take_zero]; rfl) | (simp [List.drop_append, List.take_append]; rfl)) (by first | rfl | simp []) rfl ?_))
      | ((with_reducible refine gStore ?_); (first | (refine aCell H _ _ rfl rfl (by first | exact (rfl : _ = Value.int _ _) | exact (rfl : _ = Value.bool _) | exact (rfl : _ = Value.slice _ _ _) | exact (rfl : _ = Value.string _) | exact (rfl : _ = Value.pointer _) | exact (rfl : _ = Value.func _ _ _) | rfl) (by rfl) (by rfl) (by first | exact of_decide_eq_true rfl | (simp []; done) | (simp []; omega)) (by first | (simp only [List.set_cons_zero, List.set_cons_succ]; rfl) | (simp [List.set_append]; rfl)) rfl ?_) | (refine aStore H _ _ rfl rfl rfl (by (first | exact ⟨rfl, rfl⟩ | exact ⟨by decide, rfl⟩ | (simp []; done) | (constructor <;> simp [] <;> omega))) (by first | rfl | simp [List.all_append, one_all]) rfl ?_) | (refine aLay H _ _ rfl rfl rfl (by (first | exact ⟨rfl, rfl⟩ | exact ⟨by decide, rfl⟩ | (simp []; done) | (constructor <;> simp [] <;> omega))) (by first | rfl | simp [List.all_append, one_all]) (by simp only [lay, List.take_succ_cons, List.take_zero, List.drop_succ_cons, List.drop_zero, List.nil_append, List.cons_append, List.length_cons, List.length_nil, Nat.zero_add, Nat.reduceAdd]; rfl) rfl ?_)); clear H; intro w' H; try dsimp only at H))
    rcases HCASE.out with h0 | ⟨h0, h1⟩ | ⟨h0, h1, h2⟩
    · have k0 : ((x.toNat : Int) == 0) = true := by rw [h0]; rfl
      go_wp2_with (first
        | (go_at_call 35; refine (alive07_any _).mono ?_; rintro e w' ⟨rfl, hb⟩; replace H := H.step hb; clear hb))
      go_ret
      exact ⟨rfl, H.below⟩
    · have k0 : ((x.toNat : Int) == 0) = false := beq_eq_false_iff_ne.2 (fun h => h0 (UInt8.toNat_inj.mp (by rw [UInt8.toNat_zero]; omega)))
      have k1 : (i : Int) < 224 := by omega
      go_wp2_with (first
        | (go_at_call 35; refine (alive07_any _).mono ?_; rintro e w' ⟨rfl, hb⟩; replace H := H.step hb; clear hb))
      go_ret
      exact ⟨rfl, H.below⟩
    · have k0 : ((x.toNat : Int) == 0) = false := beq_eq_false_iff_ne.2 (fun h => h0 (UInt8.toNat_inj.mp (by rw [UInt8.toNat_zero]; omega)))
      have k1 : ((i : Int) < 224) = False := eq_false (by omega)
      subst h2
      go_wp2_with (first
        | (go_at_call 35; refine (alive07_any _).mono ?_; rintro e w' ⟨rfl, hb⟩; replace H := H.step hb; clear hb))
      go_ret
      exact ⟨rfl, H.below⟩
end Go.Proofs.YticfcelbnkiopaaDoor

namespace Go.Proofs.YticfcelbnkiopaaDoor
set_option maxRecDepth 100000
open Go.RowKit Go.ChangeShapes Go.WideShapes

theorem trod_leaf {H : Type} {enc : TypeId × Value → H} {P : Program} {W : World} {base : Nat} {spare : Nat → Bool} {held : Bool} {t : TypeId} {k : IntKind} {cs : List Value} {x : DataW H × List MemPlace} {fuel : Nat}
    (hu : P.underlying t = some (.int k)) (h : DataW.trod enc P W base spare held fuel t cs = some x) : ∃ n, cs = [.int k n] ∧ (Lit.int k n).wf = true := by
  cases fuel with
  | zero => simp [DataW.trod] at h
  | succ fuel =>
    rcases cs with _ | ⟨v, _ | ⟨u, r⟩⟩
    · simp [DataW.trod, hu] at h
    · cases v <;> simp [DataW.trod, hu] at h
      rename_i k' n
      obtain ⟨⟨rfl, h1⟩, _⟩ := h
      exact ⟨n, rfl, h1⟩
    · simp [DataW.trod, hu] at h
theorem mapM_each {β γ : Type} (f : β → Option γ) : ∀ (l : List β) (r : List γ), l.mapM f = some r → ∀ x ∈ l, ∃ y, f x = some y
  | [], _, _, x, hx => by simp at hx
  | b :: l, r, h, x, hx => by
    simp only [List.mapM_cons, Option.bind_eq_bind, Option.pure_def] at h
    cases hb : f b with
    | none => simp [hb] at h
    | some y =>
      cases hl : l.mapM f with
      | none => simp [hb, hl] at h
      | some ys =>
        rcases List.mem_cons.mp hx with rfl | hx
        · exact ⟨y, hb⟩
        · exact mapM_each f l ys hl x hx
/-- A row of m elements, each one of which reads. -/
theorem trod_array {H : Type} {enc : TypeId × Value → H} {P : Program} {W : World} {base : Nat} {spare : Nat → Bool} {held : Bool} {t e : TypeId} {m : Nat} {cs : List Value} {x : DataW H × List MemPlace} {fuel : Nat}
    (hu : P.underlying t = some (.array m e)) (h : DataW.trod enc P W base spare held (fuel + 1) t cs = some x) :
    cs.length = P.cellsOf t ∧ ∀ i, i < m → ∃ y, DataW.trod enc P W base spare held fuel e ((cs.drop (i * P.cellsOf e)).take (P.cellsOf e)) = some y := by
  unfold DataW.trod at h
  rw [hu] at h
  simp only at h
  split at h
  · rename_i hl
    refine ⟨hl, fun i hi => ?_⟩
    cases hm : (List.range m).mapM fun i => DataW.trod enc P W base spare held fuel e ((cs.drop (i * P.cellsOf e)).take (P.cellsOf e)) with
    | none => simp [hm] at h
    | some r => exact mapM_each _ _ _ hm i (by simpa using hi)
  · cases h
theorem trod_fields {H : Type} {enc : TypeId × Value → H} {P : Program} {W : World} {base : Nat} {spare : Nat → Bool} {held : Bool} {t : TypeId} {fs : Array Field} {cs : List Value} {x : DataW H × List MemPlace} {fuel : Nat}
    (hu : P.underlying t = some (.struct fs)) (h : DataW.trod enc P W base spare held (fuel + 1) t cs = some x) :
    cs.length = P.cellsOf t ∧ ∀ f ∈ fs.toList, ∃ y, DataW.trod enc P W base spare held fuel f.type ((cs.drop f.offset).take (P.cellsOf f.type)) = some y := by
  unfold DataW.trod at h
  rw [hu] at h
  simp only at h
  split at h
  · rename_i hl
    refine ⟨hl, fun f hf => ?_⟩
    cases hm : fs.toList.mapM fun f => DataW.trod enc P W base spare held fuel f.type ((cs.drop f.offset).take (P.cellsOf f.type)) with
    | none => simp [hm] at h
    | some r => exact mapM_each _ _ _ hm f hf
  · cases h

/-- A list, each cell of which is told. -/
theorem list_of {α : Type} (f : α → Value) (cs : List Value) (h : ∀ i, i < cs.length → ∃ x, cs[i]? = some (f x)) : ∃ l : List α, l.length = cs.length ∧ cs = l.map f := by
  induction cs with
  | nil => exact ⟨[], rfl, rfl⟩
  | cons c cs ih =>
    obtain ⟨x, hx⟩ := h 0 (by simp)
    obtain ⟨l, hl, he⟩ := ih (fun i hi => by
      obtain ⟨y, hy⟩ := h (i + 1) (by simpa using hi)
      exact ⟨y, by simpa using hy⟩)
    refine ⟨x :: l, by simp [hl], ?_⟩
    rw [List.map_cons, ← he]
    simp at hx
    rw [hx]
theorem wf_u32' {a : Int} (h : (Lit.int .u32 a).wf = true) : ∃ x : UInt32, a = (x.toNat : Int) := by
  obtain ⟨n, rfl, hn⟩ := wf_u32 h
  exact ⟨UInt32.ofNat n, by rw [UInt32.toNat_ofNat', Nat.mod_eq_of_lt hn]⟩
theorem take_one {cs : List Value} {i : Nat} {v : Value} (h : (cs.drop i).take 1 = [v]) : cs[i]? = some v := by
  have := congrArg (fun l => l[0]?) h
  simp only [List.getElem?_take, List.getElem?_drop, Nat.add_zero] at this
  simpa using this

theorem open_pt {H : Type} {enc : TypeId × Value → H} {W : World} {base : Nat} {spare : Nat → Bool} {held : Bool} {cs : List Value} {x : DataW H × List MemPlace} {fuel : Nat}
    (h : DataW.trod enc Tryd.prog W base spare held fuel 33 cs = some x) : ∃ p : PT, cs = p.cells := by
  cases fuel with
  | zero => simp [DataW.trod] at h
  | succ fuel =>
    have hc35 : Tryd.prog.cellsOf 33 = 35 := by kernel_rfl
    have hc32 : Tryd.prog.cellsOf 29 = 32 := by kernel_rfl
    have hc2 : Tryd.prog.cellsOf 31 = 2 := by kernel_rfl
    have hc1 : Tryd.prog.cellsOf 5 = 1 := by kernel_rfl
    have hc4 : Tryd.prog.cellsOf 30 = 1 := by kernel_rfl
    obtain ⟨hl, hf⟩ := trod_fields Tryd.underlying33 h
    rw [hc35] at hl
    simp only [List.mem_cons, List.not_mem_nil, or_false, forall_eq_or_imp, forall_eq] at hf
    obtain ⟨⟨y0, h0⟩, ⟨y1, h1⟩, ⟨y2, h2⟩⟩ := hf
    rw [hc32, List.drop_zero] at h0
    rw [hc4] at h1
    rw [hc2] at h2
    cases fuel with
    | zero => simp [DataW.trod] at h0
    | succ fuel =>
      obtain ⟨hl0, ha0⟩ := trod_array Tryd.underlying29 h0
      obtain ⟨hl2, ha2⟩ := trod_array Tryd.underlying31 h2
      obtain ⟨nb, eb, wb⟩ := trod_leaf Tryd.underlying30 h1
      obtain ⟨b, rfl⟩ := wf_u32' wb
      have hu8 : ∀ i, i < 32 → ∃ x : UInt8, (cs.take 32)[i]? = some (cb x) := fun i hi => by
        obtain ⟨y, hy⟩ := ha0 i hi
        rw [hc1] at hy
        obtain ⟨n, en, wn⟩ := trod_leaf Tryd.underlying5 hy
        obtain ⟨z, rfl⟩ := wf_u8 wn
        rw [Nat.mul_one] at en
        exact ⟨z, take_one en⟩
      have hu32 : ∀ i, i < 2 → ∃ x : UInt32, ((cs.drop 33).take 2)[i]? = some (u32 x) := fun i hi => by
        obtain ⟨y, hy⟩ := ha2 i hi
        rw [hc4] at hy
        obtain ⟨n, en, wn⟩ := trod_leaf Tryd.underlying30 hy
        obtain ⟨z, rfl⟩ := wf_u32' wn
        rw [Nat.mul_one] at en
        exact ⟨z, take_one en⟩
      have hlt : (cs.take 32).length = 32 := by rw [List.length_take]; omega
      obtain ⟨hh, hhl, hhe⟩ := list_of cb (cs.take 32) (fun i hi => hu8 i (by omega))
      obtain ⟨z0, hz0⟩ := hu32 0 (by omega)
      obtain ⟨z1, hz1⟩ := hu32 1 (by omega)
      refine ⟨⟨hh, by rw [hhl, hlt], b, z0, z1⟩, ?_⟩
      have e1 := take_one eb
      rw [List.getElem?_take, List.getElem?_drop] at hz0 hz1
      simp only [Nat.add_zero, Nat.reduceAdd] at hz0 hz1
      rw [if_pos (by omega)] at hz0 hz1
      obtain ⟨k0, g0⟩ := List.getElem?_eq_some_iff.1 e1
      obtain ⟨k1, g1⟩ := List.getElem?_eq_some_iff.1 hz0
      obtain ⟨k2, g2⟩ := List.getElem?_eq_some_iff.1 hz1
      have hd : cs.drop 32 = [u32 b, u32 z0, u32 z1] := by
        rw [List.drop_eq_getElem_cons k0, List.drop_eq_getElem_cons k1, List.drop_eq_getElem_cons k2, g0, g1, g2, List.drop_of_length_le (by omega)]
        rfl
      unfold PT.cells
      rw [← hhe, ← hd, List.take_append_drop]

theorem open_ptr {H : Type} {enc : TypeId × Value → H} {W : World} {base : Nat} {spare : Nat → Bool} {held : Bool} {v : Value} {d : DataW H} {ps : List MemPlace} {r : Reach} {b2 : Nat} {W2 : World}
    (h : DataW.Trod enc Tryd.prog W base spare held 33 v d ps) (hv : Value.okWide Tryd.prog W2 r b2 33 v) : ∃ p : PT, v = p.val := by
  obtain ⟨cs, rfl, _⟩ := okWide_struct Tryd.underlying33 hv
  obtain ⟨fuel, hf⟩ := h
  obtain ⟨p, hp⟩ := open_pt hf
  refine ⟨p, ?_⟩
  unfold PT.val
  rw [← hp]
  simp [Value.cells]

theorem open_pts : ∀ (n : Nat) (cs : List Value), cs.length = n * 35 → (∀ i, i < n → ∃ p : PT, (cs.drop (i * 35)).take 35 = p.cells) → ∃ l : List PT, l.length = n ∧ cs = l.flatMap PT.cells
  | 0, cs, hl, _ => ⟨[], rfl, by simpa using List.length_eq_zero_iff.mp (by omega)⟩
  | n + 1, cs, hl, h => by
    obtain ⟨p, hp⟩ := h 0 (by omega)
    obtain ⟨l, h1, h2⟩ := open_pts n (cs.drop 35) (by rw [List.length_drop]; omega) (fun i hi => by
      obtain ⟨q, hq⟩ := h (i + 1) (by omega)
      exact ⟨q, by rw [List.drop_drop, ← hq]; congr 2; omega⟩)
    refine ⟨p :: l, by simp [h1], ?_⟩
    rw [List.flatMap_cons, ← hp, ← h2]
    simp
theorem open_ptr4 {H : Type} {enc : TypeId × Value → H} {W : World} {base : Nat} {spare : Nat → Bool} {held : Bool} {v : Value} {d : DataW H} {ps : List MemPlace} {r : Reach} {b2 : Nat} {W2 : World}
    (h : DataW.Trod enc Tryd.prog W base spare held 188 v d ps) (hv : Value.okWide Tryd.prog W2 r b2 188 v) : ∃ l : PL, v = l.val := by
  have hw : ∃ cs, v = .agg cs := by
    simp only [Value.okWide, Tryd.underlying188] at hv
    obtain ⟨cs, h1, _⟩ := hv
    exact ⟨cs, h1⟩
  obtain ⟨cs, rfl⟩ := hw
  obtain ⟨fuel, hf⟩ := h
  cases fuel with
  | zero => simp [DataW.trod] at hf
  | succ fuel =>
    have hc : Tryd.prog.cellsOf 188 = 140 := by kernel_rfl
    have hc35 : Tryd.prog.cellsOf 33 = 35 := by kernel_rfl
    obtain ⟨hl, ha⟩ := trod_array Tryd.underlying188 hf
    rw [hc] at hl
    obtain ⟨l, h1, h2⟩ := open_pts 4 (Value.agg cs).cells.toList (by rw [hl]) (fun i hi => by
      obtain ⟨y, hy⟩ := ha i hi
      rw [hc35] at hy
      exact open_pt hy)
    refine ⟨⟨l, h1⟩, ?_⟩
    unfold PL.val PL.cells
    rw [← h2]
    simp [Value.cells]
end Go.Proofs.YticfcelbnkiopaaDoor

namespace Go.Proofs.YticfcelbnkiopaaDoor
set_option maxRecDepth 100000
open Go.RowKit Go.ChangeShapes Go.WideShapes

theorem addr_addadd (a : Addr) (i j : Nat) : (a.add i).add j = a.add (i + j) := by
  unfold Addr.add
  by_cases h1 : i = 0
  · subst h1; simp
  · by_cases h2 : j = 0
    · subst h2; simp
    · have h3 : i + j ≠ 0 := by omega
      simp [h1, h2, h3, Nat.add_assoc]
/-- A slice of any elements. -/
theorem open_row {α : Type} {H : Type} {enc : TypeId × Value → H} {P : Program} {W : World} {base : Nat} {spare : Nat → Bool} {held : Bool} {t : TypeId} {cs : List Value} {x : DataW H × List MemPlace} {fuel : Nat}
    (T : Ty α) (R : α → Prop) (e : TypeId) (hu : P.underlying t = some (.slice e)) (hsz : P.cellsOf e = T.sz)
    (hel : ∀ (n : Nat) (ecs : List Value) (y : DataW H × List MemPlace), DataW.trod enc P W base spare held n e ecs = some y → ∃ x : α, ecs = T.enc x ∧ R x)
    (h : DataW.trod enc P W base spare held fuel t cs = some x) : ∃ (A : Option Addr) (xs : List α) (cap : Nat), cs = [.slice A xs.length cap] ∧ RR T W (.slice A xs.length cap) xs ∧ xs.length ≤ cap ∧ cap ≤ 9223372036854775807 ∧ ∀ x ∈ xs, R x := by
  rcases DataW.trod_slice hu h with ⟨rfl, -⟩ | ⟨a, len, cap, elems, rest, n, rfl, rfl, -, hb, hl, hm, hlen, hel2, -, -⟩
  · exact ⟨none, [], 0, rfl, RR.nil W, by simp, by simp, by simp⟩
  · have hm' : cap ≤ 9223372036854775807 := by simpa [maxLen] using hm
    have each : ∀ i, i < len → ∃ x : α, R x ∧ ∀ j u, (T.enc x)[j]? = some u → W.cell? (a.add (i * T.sz + j)) = some u := fun i hi => by
      have h1 := hel2 i hi
      rw [List.getElem?_eq_getElem (by omega)] at h1
      obtain ⟨ecs, h2, h3⟩ := Option.bind_eq_some_iff.1 h1
      obtain ⟨x, rfl, hx⟩ := hel n ecs _ h3
      refine ⟨x, hx, fun j u hj => ?_⟩
      have h4 := (World.cells?_some h2).2.2 j
      rw [hsz] at h4
      have hjl : j < T.sz := by have := (List.getElem?_eq_some_iff.1 hj).1; rwa [T.hlen] at this
      have := h4 hjl
      rw [addr_addadd] at this
      rw [this]; exact hj
    have build : ∀ k, k ≤ len → ∃ xs : List α, xs.length = k ∧ (∀ x ∈ xs, R x) ∧ ∀ j u, (T.all xs)[j]? = some u → W.cell? (a.add j) = some u := fun k => by
      induction k with
      | zero => exact fun _ => ⟨[], rfl, by simp, fun j u hj => by simp [Ty.all] at hj⟩
      | succ k ih =>
        intro hk
        obtain ⟨xs, h1, h2, h3⟩ := ih (by omega)
        obtain ⟨x, hx, hc⟩ := each k (by omega)
        refine ⟨xs ++ [x], by rw [List.length_append, h1]; rfl, fun y hy => ?_, fun j u hj => ?_⟩
        · rcases List.mem_append.1 hy with hy | hy
          · exact h2 y hy
          · rw [List.mem_singleton.1 hy]; exact hx
        · rw [Ty.all_append] at hj
          by_cases hjl : j < (T.all xs).length
          · rw [List.getElem?_append_left hjl] at hj
            exact h3 j u hj
          · rw [List.getElem?_append_right (by omega)] at hj
            have hal : (T.all xs).length = k * T.sz := by rw [Ty.all_length, h1]
            have e1 : T.all [x] = T.enc x := by simp [Ty.all]
            rw [e1, hal] at hj
            have := hc _ u hj
            rwa [show k * T.sz + (j - k * T.sz) = j by omega] at this
    obtain ⟨xs, h1, h2, h3⟩ := build len (Nat.le_refl _)
    subst h1
    exact ⟨some a, xs, cap, rfl, ⟨_, _, rfl, hl, by omega, fun _ => ⟨a, rfl, h3⟩⟩, hl, hm', h2⟩
/-- Bytes. -/
theorem open_u8s {H : Type} {enc : TypeId × Value → H} {W : World} {base : Nat} {spare : Nat → Bool} {held : Bool} {cs : List Value} {x : DataW H × List MemPlace} {fuel : Nat}
    (h : DataW.trod enc Tryd.prog W base spare held fuel 22 cs = some x) : ∃ (A : Option Addr) (xs : List UInt8) (cap : Nat), cs = [.slice A xs.length cap] ∧ RB W (.slice A xs.length cap) xs ∧ xs.length ≤ cap ∧ cap ≤ 9223372036854775807 := by
  obtain ⟨A, xs, cap, h1, h2, h3, h4, -⟩ := open_row B8 (fun _ => True) 5 Tryd.underlying22 (by kernel_rfl) (fun n ecs y hy => by
    obtain ⟨n', en, wn⟩ := trod_leaf Tryd.underlying5 hy
    obtain ⟨z, rfl⟩ := wf_u8 wn
    exact ⟨z, en, trivial⟩) h
  exact ⟨A, xs, cap, h1, h2, h3, h4⟩
/-- A truth. -/
theorem trod_bool {H : Type} {enc : TypeId × Value → H} {P : Program} {W : World} {base : Nat} {spare : Nat → Bool} {held : Bool} {t : TypeId} {cs : List Value} {x : DataW H × List MemPlace} {fuel : Nat}
    (hu : P.underlying t = some .bool) (h : DataW.trod enc P W base spare held fuel t cs = some x) : ∃ b, cs = [.bool b] := by
  cases fuel with
  | zero => simp [DataW.trod] at h
  | succ fuel =>
    rcases cs with _ | ⟨v, _ | ⟨u, r⟩⟩
    · simp [DataW.trod, hu] at h
    · cases v <;> simp [DataW.trod, hu] at h
      exact ⟨_, rfl⟩
    · simp [DataW.trod, hu] at h
/-- A text. -/
theorem trod_str {H : Type} {enc : TypeId × Value → H} {P : Program} {W : World} {base : Nat} {spare : Nat → Bool} {held : Bool} {t : TypeId} {cs : List Value} {x : DataW H × List MemPlace} {fuel : Nat}
    (hu : P.underlying t = some .string) (h : DataW.trod enc P W base spare held fuel t cs = some x) : ∃ xs : List UInt8, cs = [.string (str xs)] ∧ xs.length ≤ 9223372036854775807 := by
  cases fuel with
  | zero => simp [DataW.trod] at h
  | succ fuel =>
    rcases cs with _ | ⟨v, _ | ⟨u, r⟩⟩
    · simp [DataW.trod, hu] at h
    · cases v <;> simp [DataW.trod, hu] at h
      rename_i s
      refine ⟨s.data.toList, ?_, ?_⟩
      · first | rfl | simp [str]
      · have := h.1
        simpa [maxLen] using this
    · simp [DataW.trod, hu] at h
end Go.Proofs.YticfcelbnkiopaaDoor

namespace Go.Proofs.YticfcelbnkiopaaDoor
set_option maxRecDepth 100000
open Go.RowKit Go.ChangeShapes Go.WideShapes

theorem open_lbC {H : Type} {enc : TypeId × Value → H} {W : World} {base : Nat} {spare : Nat → Bool} {held : Bool} {cs : List Value} {x : DataW H × List MemPlace} {fuel : Nat}
    (h : DataW.trod enc Tryd.prog W base spare held fuel 80 cs = some x) : ∃ (u : UInt32) (p : PT) (A : Option Addr) (xs : List UInt8) (cap : Nat), cs = lbC u p (.slice A xs.length cap) ∧ RB W (.slice A xs.length cap) xs := by
  cases fuel with
  | zero => simp [DataW.trod] at h
  | succ fuel =>
    have hc37 : Tryd.prog.cellsOf 80 = 37 := by kernel_rfl
    have hc35 : Tryd.prog.cellsOf 33 = 35 := by kernel_rfl
    have hc1 : Tryd.prog.cellsOf 30 = 1 := by kernel_rfl
    have hcs : Tryd.prog.cellsOf 22 = 1 := by kernel_rfl
    obtain ⟨hl, hf⟩ := trod_fields Tryd.underlying80 h
    rw [hc37] at hl
    simp only [List.mem_cons, List.not_mem_nil, or_false, forall_eq_or_imp, forall_eq] at hf
    obtain ⟨⟨y0, h0⟩, ⟨y1, h1⟩, ⟨y2, h2⟩⟩ := hf
    rw [hc1] at h0
    rw [hc35] at h1
    rw [hcs] at h2
    obtain ⟨nb, eb, wb⟩ := trod_leaf Tryd.underlying30 h0
    obtain ⟨u, rfl⟩ := wf_u32' wb
    obtain ⟨p, hp⟩ := open_pt h1
    obtain ⟨A, xs, cap, e2, hx, -, -⟩ := open_u8s h2
    refine ⟨u, p, A, xs, cap, ?_, hx⟩
    have g0 := take_one eb
    have g2 := take_one e2
    rcases cs with _ | ⟨c0, cs⟩
    · simp at hl
    · simp only [List.length_cons] at hl
      simp only [List.getElem?_cons_zero, Option.some.injEq] at g0
      subst g0
      rw [List.drop_succ_cons, List.drop_zero] at hp
      rw [List.getElem?_cons_succ] at g2
      unfold lbC
      congr 1
      rw [← hp]
      obtain ⟨k, gk⟩ := List.getElem?_eq_some_iff.1 g2
      have : cs.drop 35 = [.slice A xs.length cap] := by
        rw [List.drop_eq_getElem_cons k, gk, List.drop_of_length_le (by omega)]
      rw [← this, List.take_append_drop]
theorem open_lab {H : Type} {enc : TypeId × Value → H} {W : World} {base : Nat} {spare : Nat → Bool} {held : Bool} {v : Value} {d : DataW H} {ps : List MemPlace} {r : Reach} {b2 : Nat} {W2 : World}
    (h : DataW.Trod enc Tryd.prog W base spare held 80 v d ps) (hv : Value.okWide Tryd.prog W2 r b2 80 v) : ∃ (u : UInt32) (p : PT) (A : Option Addr) (xs : List UInt8) (cap : Nat), v = .agg (lbC u p (.slice A xs.length cap)).toArray ∧ RB W (.slice A xs.length cap) xs := by
  obtain ⟨cs, rfl, _⟩ := okWide_struct Tryd.underlying80 hv
  obtain ⟨fuel, hf⟩ := h
  obtain ⟨u, p, A, xs, cap, h1, h2⟩ := open_lbC hf
  refine ⟨u, p, A, xs, cap, ?_, h2⟩
  rw [← h1]
  simp [Value.cells]
end Go.Proofs.YticfcelbnkiopaaDoor
