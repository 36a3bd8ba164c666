/- Layer 26: the reference's product of matrices. -/
import Derived.Test.YtfnneneaalaagaaMx22
namespace Go.Proofs.Ytfnneneaalaagaa
open Go.RowKit
set_option linter.unusedSimpArgs false
set_option linter.unusedVariables false

set_option maxHeartbeats 1600000 in
set_option maxRecDepth 100000 in
theorem rMul_bad (r c r2 c2 : Int) (n n2 : Nat) (A A2 : Option Addr) (cp cp2 : Nat) (w : World) (hbad : mulBad r c n r2 c2 n2) :
    Calls Try.prog 34 #[.agg (rxT.enc (r, c, A, n, cp)).toArray, .agg (rxT.enc (r2, c2, A2, n2, cp2)).toArray] w fun e w' => GivesP rxT w 0 0 [] 1 e w' := by
  have H := SH.start Nil w
  have cM : ∀ W, Calls Try.prog 38 #[.agg (rxT.enc (r, c, A, n, cp)).toArray] W fun e w' => e = .returned (.bool (mayB r c n)) ∧ Below W.heap.size W w' := fun W => rMay_any _ _ _ _ _ W
  have cM2 : ∀ W, Calls Try.prog 38 #[.agg (rxT.enc (r2, c2, A2, n2, cp2)).toArray] W fun e w' => e = .returned (.bool (mayB r2 c2 n2)) ∧ Below W.heap.size W w' := fun W => rMay_any _ _ _ _ _ W
  rcases hbad with h1 | ⟨h1, h2⟩ | ⟨h1, h2, h3⟩
  all_goals
    rw [h1] at cM
    try rw [h2] at cM2
    clear h1
    try clear h2
    go_enter Try.func34, Try.ntmps34
    go_wp2_with (first
      | ((with_reducible refine gDst 2 ?_); refine aBox H _ rfl rfl rfl ?_; clear H; intro b2 w2 H)
      | ((with_reducible refine gDst 3 ?_); refine aBox H _ rfl rfl rfl ?_; clear H; intro b3 w3 H)
      | ((with_reducible refine gDst 4 ?_); refine aAlloc H rfl rfl ?_; clear H; intro b4 w4 H)
      | ((with_reducible refine gDst 6 ?_); refine aAlloc H rfl rfl ?_; clear H; intro b6 w6 H)
      | ((with_reducible refine gLoad ?_); first | (refine aLoad1 H _ rfl rfl (by first | rfl | (simp [List.getElem?_append]; done)) rfl ?_) | (refine aLoadC _ rfl rfl (by assumption) rfl ?_) | (refine aLoad H _ rfl rfl (by first | exact part_all (by first | rfl | simp []) | (simp only [List.drop_succ_cons, List.drop_zero, List.take_succ_cons, List.take_zero]; rfl) | (simp [List.drop_append, List.take_append]; rfl)) (by first | rfl | simp []) rfl ?_))
      | ((with_reducible refine gBuild ?_); refine aZero rfl rfl ?_)
      | ((with_reducible refine gStore ?_); (first | (refine aCell H _ _ rfl rfl (by first | exact (rfl : _ = Value.int _ _) | exact (rfl : _ = Value.bool _) | exact (rfl : _ = Value.slice _ _ _) | exact (rfl : _ = Value.string _) | exact (rfl : _ = Value.pointer _) | exact (rfl : _ = Value.func _ _ _) | rfl) (by rfl) (by rfl) (by first | exact of_decide_eq_true rfl | (simp []; done) | (simp []; omega)) (by first | (simp only [List.set_cons_zero, List.set_cons_succ]; rfl) | (simp [List.set_append]; rfl)) rfl ?_) | (refine aStore H _ _ rfl rfl rfl (by (first | exact ⟨rfl, rfl⟩ | exact ⟨by decide, rfl⟩ | (simp []; done) | (constructor <;> simp [] <;> omega))) (by first | rfl | simp [List.all_append, one_all]) rfl ?_) | (refine aLay H _ _ rfl rfl rfl (by (first | exact ⟨rfl, rfl⟩ | exact ⟨by decide, rfl⟩ | (simp []; done) | (constructor <;> simp [] <;> omega))) (by first | rfl | simp [List.all_append, one_all]) (by simp only [lay, List.take_succ_cons, List.take_zero, List.drop_succ_cons, List.drop_zero, List.nil_append, List.cons_append, List.length_cons, List.length_nil, Nat.zero_add, Nat.reduceAdd]; rfl) rfl ?_)); clear H; intro w' H; try dsimp only at H)
      | (at_builtin; refine aAppB1 _ H _ _ rfl rfl rfl (by first | omega | (have := HCL.out; omega)) rfl ?_; clear H; intro v' w' ys HY H; (try dsimp only at H); obtain ⟨A', c', rfl, hc'⟩ := (H.hold.rr v').len)
      | (go_at_call 38; (with_reducible refine (cM _).mono ?_); rintro e w' ⟨rfl, hb⟩; replace H := H.step hb; clear hb)
      | (go_at_call 38; (with_reducible refine (cM2 _).mono ?_); rintro e w' ⟨rfl, hb⟩; replace H := H.step hb; clear hb))
    refine bodyPost_ret (res_cell_tmp rfl _ H.hold rfl rfl) rfl ?_
    exact .zero rfl ⟨rfl, H.below⟩
def mulRest (ra ca : Int) (A : Option Addr) (n p : Nat) (rb cb : Int) (A2 : Option Addr) (n2 p2 : Nat) (b2 b3 b4 : Nat) : List Own := [.blk b4 38 (rxT.enc (0, 0, none, 0, 0)), .blk b3 38 (rxT.enc (rb, cb, A2, n2, p2)), .blk b2 38 (rxT.enc (ra, ca, A, n, p))]
def relM1 (ra cb : Nat) (f : Nat → Nat → UInt8) (w : World) (b6 : Nat) (L : List Own) (v7 : Value) (wr : World) : Prop := ∃ (i : Nat) (A : Option Addr) (cp : Nat), v7 = .int .i64 (i : Int) ∧ i ≤ ra ∧ SH Nil w wr (.row B8 (.slice A (fillL i cb f).length cp) (fillL i cb f) :: .blk b6 38 [.int .i64 (ra : Int), .int .i64 (cb : Int), .slice A (fillL i cb f).length cp] :: L)
def relM2 (ra cb i : Nat) (f : Nat → Nat → UInt8) (w : World) (b6 : Nat) (L : List Own) (v8 : Value) (wr : World) : Prop := ∃ (j : Nat) (cur : List UInt8) (A : Option Addr) (cp : Nat), v8 = .int .i64 (j : Int) ∧ j ≤ cb ∧ Hid (cur = fillL i cb f ++ (List.range j).map (f i)) ∧ SH Nil w wr (.row B8 (.slice A cur.length cp) cur :: .blk b6 38 [.int .i64 (ra : Int), .int .i64 (cb : Int), .slice A cur.length cp] :: L)
def relM3 (c : Nat) (g : Nat → UInt8) (w : World) (L : List Own) (v9 v10 : Value) (wr : World) : Prop := ∃ (k : Nat), v10 = .int .i64 (k : Int) ∧ k ≤ c ∧ v9 = .int .u8 ((sumX k g).toNat : Int) ∧ SH Nil w wr L
set_option maxHeartbeats 3200000 in
set_option maxRecDepth 100000 in
theorem rMul_ok (la lb : List UInt8) (ra c cb : Nat) (Aa Ab : Option Addr) (pa pb : Nat) (w : World)
    (ha : RB w (.slice Aa la.length pa) la) (hb : RB w (.slice Ab lb.length pb) lb) (hma : mayB ra c la.length = true) (hmb : mayB c cb lb.length = true) :
    Calls Try.prog 34 #[.agg (rxT.enc ((ra : Int), (c : Int), Aa, la.length, pa)).toArray, .agg (rxT.enc ((c : Int), (cb : Int), Ab, lb.length, pb)).toArray] w fun e w' => GivesP rxT w ra cb (fillL ra cb (mulE la c lb cb)) 0 e w' := by
  have H := SH.start Nil w
  have cM : ∀ W, Calls Try.prog 38 #[.agg (rxT.enc (ra, c, Aa, la.length, pa)).toArray] W fun e w' => e = .returned (.bool (mayB ra c la.length)) ∧ Below W.heap.size W w' := fun W => rMay_any _ _ _ _ _ W
  have cM2 : ∀ W, Calls Try.prog 38 #[.agg (rxT.enc (c, cb, Ab, lb.length, pb)).toArray] W fun e w' => e = .returned (.bool (mayB c cb lb.length)) ∧ Below W.heap.size W w' := fun W => rMay_any _ _ _ _ _ W
  obtain ⟨x1, x2, e1, e2, h1, h2, h3, h4, hla⟩ := mayB_ok hma
  obtain ⟨x3, x4, e3, e4, h5, h6, h7, h8, hlb⟩ := mayB_ok hmb
  rw [show x1 = ra by omega, show x2 = c by omega] at hla
  rw [show x3 = c by omega, show x4 = cb by omega] at hlb
  rw [hma] at cM
  rw [hmb] at cM2
  have cA1 := fun (W : World) (h : Below w.heap.size w W) (i k : Nat) (hi : i < ra) (hk : k < c) => rat_any la ra c i k Aa la.length pa W (ha.below h) rfl (by have := Nat.mul_le_mul (show ra ≤ 32 by omega) (show c ≤ 32 by omega); omega) (by omega) (by omega) (by omega) (by have := row_in (c := c) hi; rw [Nat.add_mul, Nat.one_mul] at this; omega)
  have cA2 := fun (W : World) (h : Below w.heap.size w W) (k j : Nat) (hk : k < c) (hj : j < cb) => rat_any lb c cb k j Ab lb.length pb W (hb.below h) rfl (by have := Nat.mul_le_mul (show c ≤ 32 by omega) (show cb ≤ 32 by omega); omega) (by omega) (by omega) (by omega) (by have := row_in (c := cb) hk; rw [Nat.add_mul, Nat.one_mul] at this; omega)
  have hra : ra ≤ 32 := by omega
  have hcc : c ≤ 32 := by omega
  have hcb : cb ≤ 32 := by omega
  have CA1 := Lib.hid cA1
  have CA2 := Lib.hid cA2
  clear cA1 cA2 hma hmb ha hb hla hlb e1 e2 e3 e4 h1 h2 h3 h4 h5 h6 h7 h8
  go_enter Try.func34, Try.ntmps34
  go_wp2_with (first
    | ((with_reducible refine gDst 2 ?_); refine aBox H _ rfl rfl rfl ?_; clear H; intro b2 w2 H)
    | ((with_reducible refine gDst 3 ?_); refine aBox H _ rfl rfl rfl ?_; clear H; intro b3 w3 H)
    | ((with_reducible refine gDst 4 ?_); refine aAlloc H rfl rfl ?_; clear H; intro b4 w4 H)
    | ((with_reducible refine gDst 6 ?_); refine aAlloc H rfl rfl ?_; clear H; intro b6 w6 H)
    | ((with_reducible refine gLoad ?_); first | (refine aLoad1 H _ rfl rfl (by first | rfl | (simp [List.getElem?_append]; done)) rfl ?_) | (refine aLoadC _ rfl rfl (by assumption) rfl ?_) | (refine aLoad H _ rfl rfl (by first | exact part_all (by first | rfl | simp []) | (simp only [List.drop_succ_cons, List.drop_zero, List.take_succ_cons, List.take_zero]; rfl) | (simp [List.drop_append, List.take_append]; rfl)) (by first | rfl | simp []) rfl ?_))
    | ((with_reducible refine gBuild ?_); refine aZero rfl rfl ?_)
    | ((with_reducible refine gStore ?_); (first | (refine aCell H _ _ rfl rfl (by first | exact (rfl : _ = Value.int _ _) | exact (rfl : _ = Value.bool _) | exact (rfl : _ = Value.slice _ _ _) | exact (rfl : _ = Value.string _) | exact (rfl : _ = Value.pointer _) | exact (rfl : _ = Value.func _ _ _) | rfl) (by rfl) (by rfl) (by first | exact of_decide_eq_true rfl | (simp []; done) | (simp []; omega)) (by first | (simp only [List.set_cons_zero, List.set_cons_succ]; rfl) | (simp [List.set_append]; rfl)) rfl ?_) | (refine aStore H _ _ rfl rfl rfl (by (first | exact ⟨rfl, rfl⟩ | exact ⟨by decide, rfl⟩ | (simp []; done) | (constructor <;> simp [] <;> omega))) (by first | rfl | simp [List.all_append, one_all]) rfl ?_) | (refine aLay H _ _ rfl rfl rfl (by (first | exact ⟨rfl, rfl⟩ | exact ⟨by decide, rfl⟩ | (simp []; done) | (constructor <;> simp [] <;> omega))) (by first | rfl | simp [List.all_append, one_all]) (by simp only [lay, List.take_succ_cons, List.take_zero, List.drop_succ_cons, List.drop_zero, List.nil_append, List.cons_append, List.length_cons, List.length_nil, Nat.zero_add, Nat.reduceAdd]; rfl) rfl ?_)); clear H; intro w' H; try dsimp only at H)
    | (at_builtin; refine aAppB1 _ H _ _ rfl rfl rfl (by first | omega | (have := HCL.out; omega)) rfl ?_; clear H; intro v' w' ys HY H; (try dsimp only at H); obtain ⟨A', c', rfl, hc'⟩ := (H.hold.rr v').len)
    | (go_at_call 38; (with_reducible refine (cM _).mono ?_); rintro e w' ⟨rfl, hb⟩; replace H := H.step hb; clear hb)
    | (go_at_call 38; (with_reducible refine (cM2 _).mono ?_); rintro e w' ⟨rfl, hb⟩; replace H := H.step hb; clear hb))
  go_loopw [7] (fun v7 wr => relM1 ra cb (mulE la c lb cb) w b6 (mulRest ra c Aa la.length pa c cb Ab lb.length pb b2 b3 b4) v7 wr) (fun v _ => ra - (intOf v).toNat)
  case atStart => exact ⟨0, none, 0, rfl, by omega, H.nilRow B8⟩
  case round =>
    obtain ⟨i, A, cp, rfl, hi, HS⟩ := hrel
    clear H
    have H := HS
    clear HS
    unfold mulRest at H
    by_cases hir : i < ra
    · have hii : (i : Int) < (ra : Int) := by omega
      go_wp2_with (first
        | ((with_reducible refine gDst 2 ?_); refine aBox H _ rfl rfl rfl ?_; clear H; intro b2 w2 H)
        | ((with_reducible refine gDst 3 ?_); refine aBox H _ rfl rfl rfl ?_; clear H; intro b3 w3 H)
        | ((with_reducible refine gDst 4 ?_); refine aAlloc H rfl rfl ?_; clear H; intro b4 w4 H)
        | ((with_reducible refine gDst 6 ?_); refine aAlloc H rfl rfl ?_; clear H; intro b6 w6 H)
        | ((with_reducible refine gLoad ?_); first | (refine aLoad1 H _ rfl rfl (by first | rfl | (simp [List.getElem?_append]; done)) rfl ?_) | (refine aLoadC _ rfl rfl (by assumption) rfl ?_) | (refine aLoad H _ rfl rfl (by first | exact part_all (by first | rfl | simp []) | (simp only [List.drop_succ_cons, List.drop_zero, List.take_succ_cons, List.take_zero]; rfl) | (simp [List.drop_append, List.take_append]; rfl)) (by first | rfl | simp []) rfl ?_))
        | ((with_reducible refine gBuild ?_); refine aZero rfl rfl ?_)
        | ((with_reducible refine gStore ?_); (first | (refine aCell H _ _ rfl rfl (by first | exact (rfl : _ = Value.int _ _) | exact (rfl : _ = Value.bool _) | exact (rfl : _ = Value.slice _ _ _) | exact (rfl : _ = Value.string _) | exact (rfl : _ = Value.pointer _) | exact (rfl : _ = Value.func _ _ _) | rfl) (by rfl) (by rfl) (by first | exact of_decide_eq_true rfl | (simp []; done) | (simp []; omega)) (by first | (simp only [List.set_cons_zero, List.set_cons_succ]; rfl) | (simp [List.set_append]; rfl)) rfl ?_) | (refine aStore H _ _ rfl rfl rfl (by (first | exact ⟨rfl, rfl⟩ | exact ⟨by decide, rfl⟩ | (simp []; done) | (constructor <;> simp [] <;> omega))) (by first | rfl | simp [List.all_append, one_all]) rfl ?_) | (refine aLay H _ _ rfl rfl rfl (by (first | exact ⟨rfl, rfl⟩ | exact ⟨by decide, rfl⟩ | (simp []; done) | (constructor <;> simp [] <;> omega))) (by first | rfl | simp [List.all_append, one_all]) (by simp only [lay, List.take_succ_cons, List.take_zero, List.drop_succ_cons, List.drop_zero, List.nil_append, List.cons_append, List.length_cons, List.length_nil, Nat.zero_add, Nat.reduceAdd]; rfl) rfl ?_)); clear H; intro w' H; try dsimp only at H)
        | (at_builtin; refine aAppB1 _ H _ _ rfl rfl rfl (by first | omega | (have := HCL.out; omega)) rfl ?_; clear H; intro v' w' ys HY H; (try dsimp only at H); obtain ⟨A', c', rfl, hc'⟩ := (H.hold.rr v').len))
      go_loopw [8] (fun v8 wr => relM2 ra cb i (mulE la c lb cb) w b6 (mulRest ra c Aa la.length pa c cb Ab lb.length pb b2 b3 b4) v8 wr) (fun v _ => cb - (intOf v).toNat)
      case atStart => exact ⟨0, _, A, cp, rfl, by omega, by simp [Hid], H⟩
      case round =>
        obtain ⟨j, cur, A, cp, rfl, hj, HC, HS⟩ := hrel
        clear H
        have H := HS
        clear HS
        unfold mulRest at H
        by_cases hjc : j < cb
        · have hji : (j : Int) < (cb : Int) := by omega
          have hcl : cur.length ≤ 5000 := by
            rw [HC.out, List.length_append, fillL_len, List.length_map, List.length_range]
            have := Nat.mul_le_mul hi hcb
            have := Nat.mul_le_mul hra (Nat.le_refl 32)
            omega
          have HCL := Lib.hid hcl
          have hst : cur ++ [mulE la c lb cb i j] = fillL i cb (mulE la c lb cb) ++ (List.range (j + 1)).map (mulE la c lb cb i) := by rw [HC.out, List.range_succ, List.map_append, List.append_assoc]; rfl
          have hmx : mulE la c lb cb i j = sumX c fun k => fmul (la.getD (i * c + k) 0) (lb.getD (k * cb + j) 0) := rfl
          obtain ⟨g, hg⟩ : ∃ g, g = fun k => fmul (la.getD (i * c + k) 0) (lb.getD (k * cb + j) 0) := ⟨_, rfl⟩
          rw [← hg] at hmx
          have hgk : ∀ k, g k = fmul (la.getD (i * c + k) 0) (lb.getD (k * cb + j) 0) := fun k => by rw [hg]
          rw [hmx] at hst
          have HST := Lib.hid hst
          have HG := Lib.hid hgk
          clear hcl hst hmx hg hgk
          go_wp2_with (first
            | ((with_reducible refine gDst 2 ?_); refine aBox H _ rfl rfl rfl ?_; clear H; intro b2 w2 H)
            | ((with_reducible refine gDst 3 ?_); refine aBox H _ rfl rfl rfl ?_; clear H; intro b3 w3 H)
            | ((with_reducible refine gDst 4 ?_); refine aAlloc H rfl rfl ?_; clear H; intro b4 w4 H)
            | ((with_reducible refine gDst 6 ?_); refine aAlloc H rfl rfl ?_; clear H; intro b6 w6 H)
            | ((with_reducible refine gLoad ?_); first | (refine aLoad1 H _ rfl rfl (by first | rfl | (simp [List.getElem?_append]; done)) rfl ?_) | (refine aLoadC _ rfl rfl (by assumption) rfl ?_) | (refine aLoad H _ rfl rfl (by first | exact part_all (by first | rfl | simp []) | (simp only [List.drop_succ_cons, List.drop_zero, List.take_succ_cons, List.take_zero]; rfl) | (simp [List.drop_append, List.take_append]; rfl)) (by first | rfl | simp []) rfl ?_))
            | ((with_reducible refine gBuild ?_); refine aZero rfl rfl ?_)
            | ((with_reducible refine gStore ?_); (first | (refine aCell H _ _ rfl rfl (by first | exact (rfl : _ = Value.int _ _) | exact (rfl : _ = Value.bool _) | exact (rfl : _ = Value.slice _ _ _) | exact (rfl : _ = Value.string _) | exact (rfl : _ = Value.pointer _) | exact (rfl : _ = Value.func _ _ _) | rfl) (by rfl) (by rfl) (by first | exact of_decide_eq_true rfl | (simp []; done) | (simp []; omega)) (by first | (simp only [List.set_cons_zero, List.set_cons_succ]; rfl) | (simp [List.set_append]; rfl)) rfl ?_) | (refine aStore H _ _ rfl rfl rfl (by (first | exact ⟨rfl, rfl⟩ | exact ⟨by decide, rfl⟩ | (simp []; done) | (constructor <;> simp [] <;> omega))) (by first | rfl | simp [List.all_append, one_all]) rfl ?_) | (refine aLay H _ _ rfl rfl rfl (by (first | exact ⟨rfl, rfl⟩ | exact ⟨by decide, rfl⟩ | (simp []; done) | (constructor <;> simp [] <;> omega))) (by first | rfl | simp [List.all_append, one_all]) (by simp only [lay, List.take_succ_cons, List.take_zero, List.drop_succ_cons, List.drop_zero, List.nil_append, List.cons_append, List.length_cons, List.length_nil, Nat.zero_add, Nat.reduceAdd]; rfl) rfl ?_)); clear H; intro w' H; try dsimp only at H)
            | (at_builtin; refine aAppB1 _ H _ _ rfl rfl rfl (by first | omega | (have := HCL.out; omega)) rfl ?_; clear H; intro v' w' ys HY H; (try dsimp only at H); obtain ⟨A', c', rfl, hc'⟩ := (H.hold.rr v').len))
          go_loopw [9, 10] (fun v9 v10 wr => relM3 c g w (.row B8 (.slice A cur.length cp) cur :: .blk b6 38 [.int .i64 (ra : Int), .int .i64 (cb : Int), .slice A cur.length cp] :: mulRest ra c Aa la.length pa c cb Ab lb.length pb b2 b3 b4) v9 v10 wr) (fun _ v _ => c - (intOf v).toNat)
          case atStart => exact ⟨0, rfl, by omega, rfl, H⟩
          case round =>
            obtain ⟨k, rfl, hk, rfl, HS⟩ := hrel
            clear H
            have H := HS
            clear HS
            unfold mulRest at H
            by_cases hkc : k < c
            · have hki : (k : Int) < (c : Int) := by omega
              have c1 := fun W h => CA1.out W h i k hir hkc
              have c2 := fun W h => CA2.out W h k j hkc hjc
              have hs : sumX (k + 1) g = sumX k g ^^^ fmul (la.getD (i * c + k) 0) (lb.getD (k * cb + j) 0) := by rw [sumX, HG.out]
              generalize la.getD (i * c + k) 0 = x at *
              generalize lb.getD (k * cb + j) 0 = y at *
              have c3 := fun W => RMul_f x y W
              have hx := xor8 (sumX k g) (fmul x y)
              rw [← hs] at hx
              generalize sumX k g = s at *
              generalize fmul x y = p at *
              have HX := Lib.hid hs
              clear hs
              go_wp2_with (first
                | ((with_reducible refine gDst 2 ?_); refine aBox H _ rfl rfl rfl ?_; clear H; intro b2 w2 H)
                | ((with_reducible refine gDst 3 ?_); refine aBox H _ rfl rfl rfl ?_; clear H; intro b3 w3 H)
                | ((with_reducible refine gDst 4 ?_); refine aAlloc H rfl rfl ?_; clear H; intro b4 w4 H)
                | ((with_reducible refine gDst 6 ?_); refine aAlloc H rfl rfl ?_; clear H; intro b6 w6 H)
                | ((with_reducible refine gLoad ?_); first | (refine aLoad1 H _ rfl rfl (by first | rfl | (simp [List.getElem?_append]; done)) rfl ?_) | (refine aLoadC _ rfl rfl (by assumption) rfl ?_) | (refine aLoad H _ rfl rfl (by first | exact part_all (by first | rfl | simp []) | (simp only [List.drop_succ_cons, List.drop_zero, List.take_succ_cons, List.take_zero]; rfl) | (simp [List.drop_append, List.take_append]; rfl)) (by first | rfl | simp []) rfl ?_))
                | ((with_reducible refine gBuild ?_); refine aZero rfl rfl ?_)
                | ((with_reducible refine gStore ?_); (first | (refine aCell H _ _ rfl rfl (by first | exact (rfl : _ = Value.int _ _) | exact (rfl : _ = Value.bool _) | exact (rfl : _ = Value.slice _ _ _) | exact (rfl : _ = Value.string _) | exact (rfl : _ = Value.pointer _) | exact (rfl : _ = Value.func _ _ _) | rfl) (by rfl) (by rfl) (by first | exact of_decide_eq_true rfl | (simp []; done) | (simp []; omega)) (by first | (simp only [List.set_cons_zero, List.set_cons_succ]; rfl) | (simp [List.set_append]; rfl)) rfl ?_) | (refine aStore H _ _ rfl rfl rfl (by (first | exact ⟨rfl, rfl⟩ | exact ⟨by decide, rfl⟩ | (simp []; done) | (constructor <;> simp [] <;> omega))) (by first | rfl | simp [List.all_append, one_all]) rfl ?_) | (refine aLay H _ _ rfl rfl rfl (by (first | exact ⟨rfl, rfl⟩ | exact ⟨by decide, rfl⟩ | (simp []; done) | (constructor <;> simp [] <;> omega))) (by first | rfl | simp [List.all_append, one_all]) (by simp only [lay, List.take_succ_cons, List.take_zero, List.drop_succ_cons, List.drop_zero, List.nil_append, List.cons_append, List.length_cons, List.length_nil, Nat.zero_add, Nat.reduceAdd]; rfl) rfl ?_)); clear H; intro w' H; try dsimp only at H)
                | (at_builtin; refine aAppB1 _ H _ _ rfl rfl rfl (by first | omega | (have := HCL.out; omega)) rfl ?_; clear H; intro v' w' ys HY H; (try dsimp only at H); obtain ⟨A', c', rfl, hc'⟩ := (H.hold.rr v').len))
              refine startA (fun i => false) (by kernel_rfl) (fun wS hS => ?_)
              replace H := H.drew
              rw [← hS] at H
              have HH := H.hold
              have HS0 : Below wS.heap.size wS wS := Below.refl _ _
              clear hS
              refine takeP 0 rfl (by kernel_rfl) (by kernel_rfl) (by kernel_rfl) (by kernel_rfl) (fun _ _ _ h => h) rfl (v := ?_) ?_ ?_
              rotate_left
              · intro w'; go_simp; (try with_reducible rfl)
              (try simp only [Act.put, List.setIfInBounds_toArray, List.set_cons_zero, List.set_cons_succ])
              refine takeL 1 HS0 rfl (by kernel_rfl) (by kernel_rfl) (by kernel_rfl) (by kernel_rfl) (by kernel_rfl) (fun _ _ _ h => h) rfl (v := ?_) ?_ ?_
              rotate_left
              · intro w' hw'; first | (refine Eq.trans (xLoad (HH.below hw') _ rfl rfl (by first | exact part_all (by first | rfl | simp []) | (simp only [List.drop_succ_cons, List.drop_zero, List.take_succ_cons, List.take_zero]; rfl) | (simp [List.drop_append, List.take_append]; rfl)) (by first | rfl | simp [])) ?_; with_reducible rfl)
              (try simp only [Act.put, List.setIfInBounds_toArray, List.set_cons_zero, List.set_cons_succ])
              refine takeP 2 rfl (by kernel_rfl) (by kernel_rfl) (by kernel_rfl) (by kernel_rfl) (fun _ _ _ h => h) rfl (v := ?_) ?_ ?_
              rotate_left
              · intro w'; go_simp; (try with_reducible rfl)
              (try simp only [Act.put, List.setIfInBounds_toArray, List.set_cons_zero, List.set_cons_succ])
              refine takeP 3 rfl (by kernel_rfl) (by kernel_rfl) (by kernel_rfl) (by kernel_rfl) (fun _ _ _ h => h) rfl (v := ?_) ?_ ?_
              rotate_left
              · intro w'; go_simp; (try with_reducible rfl)
              (try simp only [Act.put, List.setIfInBounds_toArray, List.set_cons_zero, List.set_cons_succ])
              refine takeL 5 HS0 rfl (by kernel_rfl) (by kernel_rfl) (by kernel_rfl) (by kernel_rfl) (by kernel_rfl) (fun _ _ _ h => h) rfl (v := ?_) ?_ ?_
              rotate_left
              · intro w' hw'; first | (refine Eq.trans (xLoad (HH.below hw') _ rfl rfl (by first | exact part_all (by first | rfl | simp []) | (simp only [List.drop_succ_cons, List.drop_zero, List.take_succ_cons, List.take_zero]; rfl) | (simp [List.drop_append, List.take_append]; rfl)) (by first | rfl | simp [])) ?_; with_reducible rfl)
              (try simp only [Act.put, List.setIfInBounds_toArray, List.set_cons_zero, List.set_cons_succ])
              refine takeP 6 rfl (by kernel_rfl) (by kernel_rfl) (by kernel_rfl) (by kernel_rfl) (fun _ _ _ h => h) rfl (v := ?_) ?_ ?_
              rotate_left
              · intro w'; go_simp; (try with_reducible rfl)
              (try simp only [Act.put, List.setIfInBounds_toArray, List.set_cons_zero, List.set_cons_succ])
              refine takeP 7 rfl (by kernel_rfl) (by kernel_rfl) (by kernel_rfl) (by kernel_rfl) (fun _ _ _ h => h) rfl (v := ?_) ?_ ?_
              rotate_left
              · intro w'; go_simp; (try with_reducible rfl)
              (try simp only [Act.put, List.setIfInBounds_toArray, List.set_cons_zero, List.set_cons_succ])
              refine stepL 4 rfl (by kernel_rfl) rfl (fun K hK => ?_)
              (go_simp; (with_reducible refine (c1 _ H.below).mono ?_); rintro e w' ⟨rfl, hb⟩; replace H := H.step hb; replace HS0 := below_two HS0 HS0.size hb; clear hb; refine hK.out _ _ (fun _ _ => HS0) ?_; clear K hK)
              (try simp only [Act.put, List.setIfInBounds_toArray, List.set_cons_zero, List.set_cons_succ])
              refine stepL 8 rfl (by kernel_rfl) rfl (fun K hK => ?_)
              (go_simp; (with_reducible refine (c2 _ H.below).mono ?_); rintro e w' ⟨rfl, hb⟩; replace H := H.step hb; replace HS0 := below_two HS0 HS0.size hb; clear hb; refine hK.out _ _ (fun _ _ => HS0) ?_; clear K hK)
              (try simp only [Act.put, List.setIfInBounds_toArray, List.set_cons_zero, List.set_cons_succ])
              refine stepL 9 rfl (by kernel_rfl) rfl (fun K hK => ?_)
              (go_simp; (with_reducible refine (c3 _).mono ?_); rintro e w' ⟨rfl, hb⟩; replace H := H.step hb; replace HS0 := below_two HS0 HS0.size hb; clear hb; refine hK.out _ _ (fun _ _ => HS0) ?_; clear K hK)
              (try simp only [Act.put, List.setIfInBounds_toArray, List.set_cons_zero, List.set_cons_succ])
              refine takeP 10 rfl (by kernel_rfl) (by kernel_rfl) (by kernel_rfl) (by kernel_rfl) (fun _ _ _ h => h) rfl (v := ?_) ?_ ?_
              rotate_left
              · intro w'; go_simp; (try with_reducible rfl)
              (try simp only [Act.put, List.setIfInBounds_toArray, List.set_cons_zero, List.set_cons_succ])
              refine takeP 11 rfl (by kernel_rfl) (by kernel_rfl) (by kernel_rfl) (by kernel_rfl) (fun _ _ _ h => h) rfl (v := ?_) ?_ ?_
              rotate_left
              · intro w'; go_simp; (try with_reducible rfl)
              (try simp only [Act.put, List.setIfInBounds_toArray, List.set_cons_zero, List.set_cons_succ])
              refine doneL (by kernel_rfl) ?_
              go_wp2
              go_roundw
              case rel => first | exact ⟨k + 1, by go_num, by omega, rfl, H⟩ | exact ⟨_, ⟨k + 1, by go_num, by omega, rfl, H⟩, rfl⟩ | exact ⟨_, _, ⟨k + 1, by go_num, by omega, rfl, H⟩, rfl, rfl⟩ | exact ⟨_, _, _, ⟨k + 1, by go_num, by omega, rfl, H⟩, rfl, rfl, rfl⟩ | exact ⟨_, _, _, _, ⟨k + 1, by go_num, by omega, rfl, H⟩, rfl, rfl, rfl, rfl⟩ | exact ⟨_, _, _, _, _, ⟨k + 1, by go_num, by omega, rfl, H⟩, rfl, rfl, rfl, rfl, rfl⟩
              case measure => simp [intOf] <;> omega
            · obtain rfl : k = c := by omega
              go_wp2_with (first
                | ((with_reducible refine gDst 2 ?_); refine aBox H _ rfl rfl rfl ?_; clear H; intro b2 w2 H)
                | ((with_reducible refine gDst 3 ?_); refine aBox H _ rfl rfl rfl ?_; clear H; intro b3 w3 H)
                | ((with_reducible refine gDst 4 ?_); refine aAlloc H rfl rfl ?_; clear H; intro b4 w4 H)
                | ((with_reducible refine gDst 6 ?_); refine aAlloc H rfl rfl ?_; clear H; intro b6 w6 H)
                | ((with_reducible refine gLoad ?_); first | (refine aLoad1 H _ rfl rfl (by first | rfl | (simp [List.getElem?_append]; done)) rfl ?_) | (refine aLoadC _ rfl rfl (by assumption) rfl ?_) | (refine aLoad H _ rfl rfl (by first | exact part_all (by first | rfl | simp []) | (simp only [List.drop_succ_cons, List.drop_zero, List.take_succ_cons, List.take_zero]; rfl) | (simp [List.drop_append, List.take_append]; rfl)) (by first | rfl | simp []) rfl ?_))
                | ((with_reducible refine gBuild ?_); refine aZero rfl rfl ?_)
                | ((with_reducible refine gStore ?_); (first | (refine aCell H _ _ rfl rfl (by first | exact (rfl : _ = Value.int _ _) | exact (rfl : _ = Value.bool _) | exact (rfl : _ = Value.slice _ _ _) | exact (rfl : _ = Value.string _) | exact (rfl : _ = Value.pointer _) | exact (rfl : _ = Value.func _ _ _) | rfl) (by rfl) (by rfl) (by first | exact of_decide_eq_true rfl | (simp []; done) | (simp []; omega)) (by first | (simp only [List.set_cons_zero, List.set_cons_succ]; rfl) | (simp [List.set_append]; rfl)) rfl ?_) | (refine aStore H _ _ rfl rfl rfl (by (first | exact ⟨rfl, rfl⟩ | exact ⟨by decide, rfl⟩ | (simp []; done) | (constructor <;> simp [] <;> omega))) (by first | rfl | simp [List.all_append, one_all]) rfl ?_) | (refine aLay H _ _ rfl rfl rfl (by (first | exact ⟨rfl, rfl⟩ | exact ⟨by decide, rfl⟩ | (simp []; done) | (constructor <;> simp [] <;> omega))) (by first | rfl | simp [List.all_append, one_all]) (by simp only [lay, List.take_succ_cons, List.take_zero, List.drop_succ_cons, List.drop_zero, List.nil_append, List.cons_append, List.length_cons, List.length_nil, Nat.zero_add, Nat.reduceAdd]; rfl) rfl ?_)); clear H; intro w' H; try dsimp only at H)
                | (at_builtin; refine aAppB1 _ H _ _ rfl rfl rfl (by first | omega | (have := HCL.out; omega)) rfl ?_; clear H; intro v' w' ys HY H; (try dsimp only at H); obtain ⟨A', c', rfl, hc'⟩ := (H.hold.rr v').len))
              go_roundw
              case rel => first | exact ⟨j + 1, _, _, _, by go_num, by omega, HY.out.trans HST.out, H⟩ | exact ⟨_, ⟨j + 1, _, _, _, by go_num, by omega, HY.out.trans HST.out, H⟩, rfl⟩ | exact ⟨_, _, ⟨j + 1, _, _, _, by go_num, by omega, HY.out.trans HST.out, H⟩, rfl, rfl⟩ | exact ⟨_, _, _, ⟨j + 1, _, _, _, by go_num, by omega, HY.out.trans HST.out, H⟩, rfl, rfl, rfl⟩ | exact ⟨_, _, _, _, ⟨j + 1, _, _, _, by go_num, by omega, HY.out.trans HST.out, H⟩, rfl, rfl, rfl, rfl⟩ | exact ⟨_, _, _, _, _, ⟨j + 1, _, _, _, by go_num, by omega, HY.out.trans HST.out, H⟩, rfl, rfl, rfl, rfl, rfl⟩
              case measure => simp [intOf] <;> omega
        · obtain rfl : j = cb := by omega
          have hcur := HC.out
          rw [← fillL_succ] at hcur
          subst hcur
          clear HC
          go_wp2_with (first
            | ((with_reducible refine gDst 2 ?_); refine aBox H _ rfl rfl rfl ?_; clear H; intro b2 w2 H)
            | ((with_reducible refine gDst 3 ?_); refine aBox H _ rfl rfl rfl ?_; clear H; intro b3 w3 H)
            | ((with_reducible refine gDst 4 ?_); refine aAlloc H rfl rfl ?_; clear H; intro b4 w4 H)
            | ((with_reducible refine gDst 6 ?_); refine aAlloc H rfl rfl ?_; clear H; intro b6 w6 H)
            | ((with_reducible refine gLoad ?_); first | (refine aLoad1 H _ rfl rfl (by first | rfl | (simp [List.getElem?_append]; done)) rfl ?_) | (refine aLoadC _ rfl rfl (by assumption) rfl ?_) | (refine aLoad H _ rfl rfl (by first | exact part_all (by first | rfl | simp []) | (simp only [List.drop_succ_cons, List.drop_zero, List.take_succ_cons, List.take_zero]; rfl) | (simp [List.drop_append, List.take_append]; rfl)) (by first | rfl | simp []) rfl ?_))
            | ((with_reducible refine gBuild ?_); refine aZero rfl rfl ?_)
            | ((with_reducible refine gStore ?_); (first | (refine aCell H _ _ rfl rfl (by first | exact (rfl : _ = Value.int _ _) | exact (rfl : _ = Value.bool _) | exact (rfl : _ = Value.slice _ _ _) | exact (rfl : _ = Value.string _) | exact (rfl : _ = Value.pointer _) | exact (rfl : _ = Value.func _ _ _) | rfl) (by rfl) (by rfl) (by first | exact of_decide_eq_true rfl | (simp []; done) | (simp []; omega)) (by first | (simp only [List.set_cons_zero, List.set_cons_succ]; rfl) | (simp [List.set_append]; rfl)) rfl ?_) | (refine aStore H _ _ rfl rfl rfl (by (first | exact ⟨rfl, rfl⟩ | exact ⟨by decide, rfl⟩ | (simp []; done) | (constructor <;> simp [] <;> omega))) (by first | rfl | simp [List.all_append, one_all]) rfl ?_) | (refine aLay H _ _ rfl rfl rfl (by (first | exact ⟨rfl, rfl⟩ | exact ⟨by decide, rfl⟩ | (simp []; done) | (constructor <;> simp [] <;> omega))) (by first | rfl | simp [List.all_append, one_all]) (by simp only [lay, List.take_succ_cons, List.take_zero, List.drop_succ_cons, List.drop_zero, List.nil_append, List.cons_append, List.length_cons, List.length_nil, Nat.zero_add, Nat.reduceAdd]; rfl) rfl ?_)); clear H; intro w' H; try dsimp only at H)
            | (at_builtin; refine aAppB1 _ H _ _ rfl rfl rfl (by first | omega | (have := HCL.out; omega)) rfl ?_; clear H; intro v' w' ys HY H; (try dsimp only at H); obtain ⟨A', c', rfl, hc'⟩ := (H.hold.rr v').len))
          go_roundw
          case rel => first | exact ⟨i + 1, _, _, by go_num, by omega, H⟩ | exact ⟨_, ⟨i + 1, _, _, by go_num, by omega, H⟩, rfl⟩ | exact ⟨_, _, ⟨i + 1, _, _, by go_num, by omega, H⟩, rfl, rfl⟩ | exact ⟨_, _, _, ⟨i + 1, _, _, by go_num, by omega, H⟩, rfl, rfl, rfl⟩ | exact ⟨_, _, _, _, ⟨i + 1, _, _, by go_num, by omega, H⟩, rfl, rfl, rfl, rfl⟩ | exact ⟨_, _, _, _, _, ⟨i + 1, _, _, by go_num, by omega, H⟩, rfl, rfl, rfl, rfl, rfl⟩
          case measure => simp [intOf] <;> omega
    · obtain rfl : i = ra := by omega
      go_wp2_with (first
        | ((with_reducible refine gDst 2 ?_); refine aBox H _ rfl rfl rfl ?_; clear H; intro b2 w2 H)
        | ((with_reducible refine gDst 3 ?_); refine aBox H _ rfl rfl rfl ?_; clear H; intro b3 w3 H)
        | ((with_reducible refine gDst 4 ?_); refine aAlloc H rfl rfl ?_; clear H; intro b4 w4 H)
        | ((with_reducible refine gDst 6 ?_); refine aAlloc H rfl rfl ?_; clear H; intro b6 w6 H)
        | ((with_reducible refine gLoad ?_); first | (refine aLoad1 H _ rfl rfl (by first | rfl | (simp [List.getElem?_append]; done)) rfl ?_) | (refine aLoadC _ rfl rfl (by assumption) rfl ?_) | (refine aLoad H _ rfl rfl (by first | exact part_all (by first | rfl | simp []) | (simp only [List.drop_succ_cons, List.drop_zero, List.take_succ_cons, List.take_zero]; rfl) | (simp [List.drop_append, List.take_append]; rfl)) (by first | rfl | simp []) rfl ?_))
        | ((with_reducible refine gBuild ?_); refine aZero rfl rfl ?_)
        | ((with_reducible refine gStore ?_); (first | (refine aCell H _ _ rfl rfl (by first | exact (rfl : _ = Value.int _ _) | exact (rfl : _ = Value.bool _) | exact (rfl : _ = Value.slice _ _ _) | exact (rfl : _ = Value.string _) | exact (rfl : _ = Value.pointer _) | exact (rfl : _ = Value.func _ _ _) | rfl) (by rfl) (by rfl) (by first | exact of_decide_eq_true rfl | (simp []; done) | (simp []; omega)) (by first | (simp only [List.set_cons_zero, List.set_cons_succ]; rfl) | (simp [List.set_append]; rfl)) rfl ?_) | (refine aStore H _ _ rfl rfl rfl (by (first | exact ⟨rfl, rfl⟩ | exact ⟨by decide, rfl⟩ | (simp []; done) | (constructor <;> simp [] <;> omega))) (by first | rfl | simp [List.all_append, one_all]) rfl ?_) | (refine aLay H _ _ rfl rfl rfl (by (first | exact ⟨rfl, rfl⟩ | exact ⟨by decide, rfl⟩ | (simp []; done) | (constructor <;> simp [] <;> omega))) (by first | rfl | simp [List.all_append, one_all]) (by simp only [lay, List.take_succ_cons, List.take_zero, List.drop_succ_cons, List.drop_zero, List.nil_append, List.cons_append, List.length_cons, List.length_nil, Nat.zero_add, Nat.reduceAdd]; rfl) rfl ?_)); clear H; intro w' H; try dsimp only at H)
        | (at_builtin; refine aAppB1 _ H _ _ rfl rfl rfl (by first | omega | (have := HCL.out; omega)) rfl ?_; clear H; intro v' w' ys HY H; (try dsimp only at H); obtain ⟨A', c', rfl, hc'⟩ := (H.hold.rr v').len))
      refine bodyPost_ret (res_cell_tmp rfl _ H.hold rfl rfl) rfl ?_
      exact ⟨A, cp, rfl, H.ow _, H.below⟩
end Go.Proofs.Ytfnneneaalaagaa
