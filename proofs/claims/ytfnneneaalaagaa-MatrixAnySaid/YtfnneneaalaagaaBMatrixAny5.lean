/- Ground of the statement MatrixAny, part 5: Mx31, Mx32, Mx33, Mx36, Mx24, Mx34, Mx37, RowKit, RowPtrB, Law26b, RowMx. -/
import Derived.WalkKit
import Derived.ProofKit
import Derived.OpenShut
import Derived.ShutString
import Derived.ChangeOld
import Derived.Below
import Derived.SizedLaws
import Derived.ChangeSlices
import Derived.Test.YtfnneneaalaagaaBMatrixAny4
namespace Go.Proofs.Ytfnneneaalaagaa
set_option maxRecDepth 100000
open Go.RowKit
set_option linter.unusedSimpArgs false
set_option linter.unusedVariables false

set_option maxHeartbeats 3200000 in
set_option maxRecDepth 100000 in
theorem rInverse_bad (r c : Int) (n : Nat) (A : Option Addr) (cp : Nat) (w : World) (hbad : mayB r c n = false ∨ (mayB r c n = true ∧ (r == c) = false)) :
    Calls Try.prog 30 #[.agg (rxT.enc (r, c, A, n, cp)).toArray] w (Gives26 rxT w (0, 0, [], 1)) := by
  have H := SH.start Nil w
  have cM : ∀ W, Calls Try.prog 38 #[.agg (rxT.enc (r, c, A, n, cp)).toArray] W fun e w' => e = .returned (.bool (mayB r c n)) ∧ Below W.heap.size W w' := fun W => rMay_any _ _ _ _ _ W
  rcases hbad with h1 | ⟨h1, h2⟩
  all_goals
    rw [h1] at cM
    clear h1
    go_enter Try.func30, Try.ntmps30
    go_wp2_with (first
      | ((with_reducible refine gDst 1 ?_); refine aBox H _ rfl rfl rfl ?_; clear H; intro b1 w1 H)
      | ((with_reducible refine gDst 2 ?_); refine aAlloc H rfl rfl ?_; clear H; intro b2 w2 H)
      | ((with_reducible refine gDst 4 ?_); refine aAlloc H rfl rfl ?_; clear H; intro b4 w4 H)
      | ((with_reducible refine gDst 35 ?_); refine aEmpty sV H rfl rfl ?_; clear H; intro b35 w35 H)
      | ((with_reducible refine gDst 42 ?_); refine aEmpty sB H rfl rfl ?_; clear H; intro b42 w42 H)
      | ((with_reducible refine gDst 12 ?_); refine aAlloc H rfl rfl ?_; clear H; intro b12 w12 H)
      | ((with_reducible refine gLoad ?_); first | (refine aLoad1 H _ rfl rfl (by first | exact (rfl : _ = some (Value.int _ _)) | exact (rfl : _ = some (Value.slice _ _ _)) | exact (rfl : _ = some (Value.bool _)) | exact (rfl : _ = some (Value.string _)) | exact (rfl : _ = some (Value.pointer _)) | rfl | (simp [List.getElem?_append]; done)) rfl ?_) | (refine aLoadC _ rfl rfl (by assumption) rfl ?_) | (refine aLoad H _ rfl rfl (by first | exact part_all (by first | rfl | simp []) | (simp only [List.drop_succ_cons, List.drop_zero, List.take_succ_cons, List.take_zero]; rfl) | (simp [List.drop_append, List.take_append]; rfl)) (by first | rfl | simp []) rfl ?_))
      | ((with_reducible refine gBuild ?_); refine aZero rfl rfl ?_)
      | ((with_reducible refine gStore ?_); (first | (refine aStore H _ _ rfl rfl rfl (by (first | exact ⟨rfl, rfl⟩ | exact ⟨by decide, rfl⟩ | (simp []; done) | (constructor <;> simp [] <;> omega))) (by first | rfl | simp [List.all_append, one_all]) rfl ?_) | (refine aLay H _ _ rfl rfl rfl (by (first | exact ⟨rfl, rfl⟩ | exact ⟨by decide, rfl⟩ | (simp []; done) | (constructor <;> simp [] <;> omega))) (by first | rfl | simp [List.all_append, one_all]) (by simp only [lay, List.take_succ_cons, List.take_zero, List.drop_succ_cons, List.drop_zero, List.nil_append, List.cons_append, List.length_cons, List.length_nil, Nat.zero_add, Nat.reduceAdd]; rfl) rfl ?_)); clear H; intro w' H; try dsimp only at H)
      | (at_builtin; refine aAppS1 H _ _ rfl rfl rfl (by first | omega | (have := HCL.out; omega)) rfl ?_; clear H; intro v' w' ys HY H; (try dsimp only at H); obtain ⟨A', c', rfl, hc'⟩ := (H.hold.rr v').len)
      | (at_builtin; refine aAppB1 _ H _ _ rfl rfl rfl (by first | omega | (have := HCL.out; omega)) rfl ?_; clear H; intro v' w' ys HY H; (try dsimp only at H); obtain ⟨A', c', rfl, hc'⟩ := (H.hold.rr v').len)
      | (go_at_call 38; (with_reducible refine (cM _).mono ?_); rintro e w' ⟨rfl, hb⟩; replace H := H.step hb; clear hb))
    refine bodyPost_ret (res_cell_tmp rfl _ H.hold rfl rfl) rfl ?_
    exact GivesP.zero rfl ⟨rfl, H.below⟩
def relI1 (l : List UInt8) (n m : Nat) (w : World) (v8 v9 : Value) (wr : World) : Prop := ∃ (i : Nat) (ss : List SVV) (A : Option Addr) (cp : Nat), v9 = .int .i64 (i : Int) ∧ i ≤ n ∧ v8 = .slice A ss.length cp ∧ ss.length = i ∧ SH Nil w wr [.rdAll ss (wideT l n m i), .row SVT (.slice A ss.length cp) ss]
def relI2 (E : List (List UInt8)) (n b12 : Nat) (w : World) (v13 : Value) (wr : World) : Prop := ∃ (i : Nat) (cur : List UInt8) (A : Option Addr) (cp : Nat), v13 = .int .i64 (i : Int) ∧ i ≤ n ∧ Hid (cur = fillL i n (fun i j => fe E i (n + j))) ∧ SH Nil w wr [.row B8 (.slice A cur.length cp) cur, .blk b12 38 [.int .i64 (n : Int), .int .i64 (n : Int), .slice A cur.length cp]]
set_option maxHeartbeats 3200000 in
set_option maxRecDepth 100000 in
theorem rInverse_ok (l : List UInt8) (n : Nat) (A : Option Addr) (cp : Nat) (w : World) (hv : RB w (.slice A l.length cp) l) (hcp : l.length ≤ cp) (hm : mayB n n l.length = true) :
    Calls Try.prog 30 #[.agg (rxT.enc ((n : Int), (n : Int), A, l.length, cp)).toArray] w (Gives26 rxT w (invT (runG lzI n (n + n) (wideM l n (n + n)) n) n)) := by
  have H := SH.start Nil w
  have cM : ∀ W, Calls Try.prog 38 #[.agg (rxT.enc (n, n, A, l.length, cp)).toArray] W fun e w' => e = .returned (.bool (mayB n n l.length)) ∧ Below W.heap.size W w' := fun W => rMay_any _ _ _ _ _ W
  rw [hm] at cM
  obtain ⟨x1, x2, e1, e2, h1, h2, h3, h4, hl⟩ := mayB_ok hm
  rw [show x1 = n by omega, show x2 = n by omega] at hl
  have hn1 : 1 ≤ n := by omega
  have hn2 : n ≤ 32 := by omega
  obtain ⟨m, hmm⟩ : ∃ m, m = n + n := ⟨_, rfl⟩
  rw [← hmm]
  have hp : 0 < l.length := by rw [hl]; exact Nat.mul_pos (by omega) (by omega)
  obtain ⟨ad, rfl, -⟩ := hv.byte hp
  have cU := fun W => rUnit_ok n W hn1 hn2
  have hul : (fillL n n unitF).length = n * n := fillL_len _ _ _
  have cR := fun W => rowsOf_any n n l.length ad cp W hl hcp (by omega) (by omega) hn1
  have cR2 := fun (W : World) (ua : Addr) (uc : Nat) (h : (fillL n n unitF).length ≤ uc) => rowsOf_any n n (fillL n n unitF).length ua uc W hul h (by omega) (by omega) hn1
  have hLx := fun (W : World) (hB : Below w.heap.size w W) => rowSS_LB (r := n) (c := n) (hv.below hB) hl hcp hn1
  have hLy := fun (W : World) (ua : Addr) (uc : Nat) (h : RB W (.slice (some ua) (fillL n n unitF).length uc) (fillL n n unitF)) (h2 : (fillL n n unitF).length ≤ uc) => rowSS_LB (r := n) (c := n) h hul h2 hn1
  have hwr := fun i (hi : i < n) => wide_row l n i hl hi
  rw [← hmm] at hwr
  have cC := fun (W : World) (vr : Value) (ss : List SVV) (hR : RR SVT W vr ss) (hL : LB W ss (wideM l n m)) => cleared_any vr ss (wideM l n m) n m n W hR hL (wideM_mat l n m) hn1 (by omega) (by omega) (by omega) (by omega)
  have hME := (runG_mat picks_lz (wideM_mat l n m) n (by omega)).1
  generalize runG lzI n m (wideM l n m) n = s at *
  have hulp : 0 < (fillL n n unitF).length := by rw [hul]; exact Nat.mul_pos (by omega) (by omega)
  have hrq : ∀ i, i < n → (rowq l n i).length = n ∧ (rowq (fillL n n unitF) n i).length = n := fun i hi => ⟨rowq_len (by rw [hl]; exact row_in hi), rowq_len (by rw [hul]; exact row_in hi)⟩
  generalize fillL n n unitF = ul at *
  have CR := Lib.hid cR
  have CR2 := Lib.hid cR2
  have HLX := Lib.hid hLx
  have HLY := Lib.hid hLy
  have HWR := Lib.hid hwr
  have CC := Lib.hid cC
  have HRQ := Lib.hid hrq
  have HULP := Lib.hid hulp
  have HME := Lib.hid hME
  have HMM := Lib.hid hmm
  have hni : (n : Int) ≤ 32 := by omega
  have hnn : ((n : Int) != (n : Int)) = false := by simp
  clear cR cR2 hLx hLy hwr cC hv hcp hm hl e1 e2 h1 h2 h3 h4 hul hrq hulp hp hME hmm
  have hd : (decide ((s.2 : Int) < (n : Int)) = true ∧ s.2 < n) ∨ (decide ((s.2 : Int) < (n : Int)) = false ∧ ¬ s.2 < n) := by
    by_cases h : s.2 < n
    · exact .inl ⟨decide_eq_true (by omega), h⟩
    · exact .inr ⟨decide_eq_false (by omega), h⟩
  go_enter Try.func30, Try.ntmps30
  go_wp2_with (first
    | ((with_reducible refine gDst 1 ?_); refine aBox H _ rfl rfl rfl ?_; clear H; intro b1 w1 H)
    | ((with_reducible refine gDst 2 ?_); refine aAlloc H rfl rfl ?_; clear H; intro b2 w2 H)
    | ((with_reducible refine gDst 4 ?_); refine aAlloc H rfl rfl ?_; clear H; intro b4 w4 H)
    | ((with_reducible refine gDst 35 ?_); refine aEmpty sV H rfl rfl ?_; clear H; intro b35 w35 H)
    | ((with_reducible refine gDst 42 ?_); refine aEmpty sB H rfl rfl ?_; clear H; intro b42 w42 H)
    | ((with_reducible refine gDst 12 ?_); refine aAlloc H rfl rfl ?_; clear H; intro b12 w12 H)
    | ((with_reducible refine gLoad ?_); first | (refine aLoad1 H _ rfl rfl (by first | exact (rfl : _ = some (Value.int _ _)) | exact (rfl : _ = some (Value.slice _ _ _)) | exact (rfl : _ = some (Value.bool _)) | exact (rfl : _ = some (Value.string _)) | exact (rfl : _ = some (Value.pointer _)) | rfl | (simp [List.getElem?_append]; done)) rfl ?_) | (refine aLoadC _ rfl rfl (by assumption) rfl ?_) | (refine aLoad H _ rfl rfl (by first | exact part_all (by first | rfl | simp []) | (simp only [List.drop_succ_cons, List.drop_zero, List.take_succ_cons, List.take_zero]; rfl) | (simp [List.drop_append, List.take_append]; rfl)) (by first | rfl | simp []) rfl ?_))
    | ((with_reducible refine gBuild ?_); refine aZero rfl rfl ?_)
    | ((with_reducible refine gStore ?_); (first | (refine aStore H _ _ rfl rfl rfl (by (first | exact ⟨rfl, rfl⟩ | exact ⟨by decide, rfl⟩ | (simp []; done) | (constructor <;> simp [] <;> omega))) (by first | rfl | simp [List.all_append, one_all]) rfl ?_) | (refine aLay H _ _ rfl rfl rfl (by (first | exact ⟨rfl, rfl⟩ | exact ⟨by decide, rfl⟩ | (simp []; done) | (constructor <;> simp [] <;> omega))) (by first | rfl | simp [List.all_append, one_all]) (by simp only [lay, List.take_succ_cons, List.take_zero, List.drop_succ_cons, List.drop_zero, List.nil_append, List.cons_append, List.length_cons, List.length_nil, Nat.zero_add, Nat.reduceAdd]; rfl) rfl ?_)); clear H; intro w' H; try dsimp only at H)
    | (at_builtin; refine aAppS1 H _ _ rfl rfl rfl (by first | omega | (have := HCL.out; omega)) rfl ?_; clear H; intro v' w' ys HY H; (try dsimp only at H); obtain ⟨A', c', rfl, hc'⟩ := (H.hold.rr v').len)
    | (at_builtin; refine aAppB1 _ H _ _ rfl rfl rfl (by first | omega | (have := HCL.out; omega)) rfl ?_; clear H; intro v' w' ys HY H; (try dsimp only at H); obtain ⟨A', c', rfl, hc'⟩ := (H.hold.rr v').len)
    | (go_at_call 38; (with_reducible refine (cM _).mono ?_); rintro e w' ⟨rfl, hb⟩; replace H := H.step hb; clear hb)
    | (go_at_call 25; (with_reducible refine (cU _).mono ?_); rintro e w' ⟨Au, uc, rfl, ho, hb⟩; replace H := H.pushRow hb ho; clear hb ho; have hrd : RB w' (.slice Au ul.length uc) ul := H.hold.rr (.slice Au ul.length uc); obtain ⟨ua, rfl, -⟩ := hrd.byte HULP.out; have huc := rb_cap hrd; clear hrd))
  refine startA (fun i => false) (by kernel_rfl) (fun wS hS => ?_)
  replace H := H.drew
  rw [← hS] at H
  have HH := H.hold
  have HS0 : Below wS.heap.size wS wS := Below.refl _ _
  clear hS
  refine takeL 0 HS0 rfl (by kernel_rfl) (by kernel_rfl) (by kernel_rfl) (by kernel_rfl) (by kernel_rfl) (fun _ _ _ h => h) rfl (v := ?_) ?_ ?_
  rotate_left
  · intro w' hw'; first | (refine Eq.trans (xLoad (HH.below hw') _ rfl rfl (by first | exact part_all (by first | rfl | simp []) | (simp only [List.drop_succ_cons, List.drop_zero, List.take_succ_cons, List.take_zero]; rfl) | (simp [List.drop_append, List.take_append]; rfl)) (by first | rfl | simp [])) ?_; with_reducible rfl)
  (try simp only [Act.put, List.setIfInBounds_toArray, List.set_cons_zero, List.set_cons_succ])
  refine takeL 2 HS0 rfl (by kernel_rfl) (by kernel_rfl) (by kernel_rfl) (by kernel_rfl) (by kernel_rfl) (fun _ _ _ h => h) rfl (v := ?_) ?_ ?_
  rotate_left
  · intro w' hw'; first | (refine Eq.trans (xLoad (HH.below hw') _ rfl rfl (by first | exact part_all (by first | rfl | simp []) | (simp only [List.drop_succ_cons, List.drop_zero, List.take_succ_cons, List.take_zero]; rfl) | (simp [List.drop_append, List.take_append]; rfl)) (by first | rfl | simp [])) ?_; with_reducible rfl)
  (try simp only [Act.put, List.setIfInBounds_toArray, List.set_cons_zero, List.set_cons_succ])
  refine stepL 1 rfl (by kernel_rfl) rfl (fun K hK => ?_)
  (go_simp; (with_reducible refine (CR.out _).mono ?_); rintro e w' ⟨Ax, px, rfl, ho, hb⟩; replace H := H.pushRow hb ho; clear ho; replace HS0 := below_two HS0 HS0.size hb; clear hb; refine hK.out _ _ (fun _ _ => HS0) ?_; clear K hK)
  (try simp only [Act.put, List.setIfInBounds_toArray, List.set_cons_zero, List.set_cons_succ])
  refine stepL 3 rfl (by kernel_rfl) rfl (fun K hK => ?_)
  (go_simp; (with_reducible refine (CR2.out _ ua uc huc).mono ?_); rintro e w' ⟨Ay, py, rfl, ho, hb⟩; replace H := H.pushRow hb ho; clear ho; replace HS0 := below_two HS0 HS0.size hb; clear hb; refine hK.out _ _ (fun _ _ => HS0) ?_; clear K hK)
  (try simp only [Act.put, List.setIfInBounds_toArray, List.set_cons_zero, List.set_cons_succ])
  refine takeP 4 rfl (by kernel_rfl) (by kernel_rfl) (by kernel_rfl) (by kernel_rfl) (fun _ _ _ h => h) rfl (v := ?_) ?_ ?_
  rotate_left
  · intro w'; go_simp; (try with_reducible rfl)
  (try simp only [Act.put, List.setIfInBounds_toArray, List.set_cons_zero, List.set_cons_succ])
  refine takeP 5 rfl (by kernel_rfl) (by kernel_rfl) (by kernel_rfl) (by kernel_rfl) (fun _ _ _ h => h) rfl (v := ?_) ?_ ?_
  rotate_left
  · intro w'; go_simp; (try with_reducible rfl)
  (try simp only [Act.put, List.setIfInBounds_toArray, List.set_cons_zero, List.set_cons_succ])
  refine doneL (by kernel_rfl) ?_
  have hlx := HLX.out _ H.below
  have hly := HLY.out _ ua uc (H.hold.rd _) huc
  have hrx := H.hold.rr (.slice Ax n px)
  have hry := H.hold.rr (.slice Ay n py)
  obtain ⟨adx, rfl, -⟩ := hrx.at_ 0 (by rw [rowSS_len]; omega)
  obtain ⟨ady, rfl, -⟩ := hry.at_ 0 (by rw [rowSS_len]; omega)
  have hcx := fun i (hi : i < n) => svAt hrx i (by rw [rowSS_len]; exact hi)
  have hcy := fun i (hi : i < n) => svAt hry i (by rw [rowSS_len]; exact hi)
  have H0 := H
  have RO := H0.hold
  clear H hrx hry
  rename World => wf
  have H := SH.start Nil wf
  go_wp2_with (first
    | ((with_reducible refine gDst 1 ?_); refine aBox H _ rfl rfl rfl ?_; clear H; intro b1 w1 H)
    | ((with_reducible refine gDst 2 ?_); refine aAlloc H rfl rfl ?_; clear H; intro b2 w2 H)
    | ((with_reducible refine gDst 4 ?_); refine aAlloc H rfl rfl ?_; clear H; intro b4 w4 H)
    | ((with_reducible refine gDst 35 ?_); refine aEmpty sV H rfl rfl ?_; clear H; intro b35 w35 H)
    | ((with_reducible refine gDst 42 ?_); refine aEmpty sB H rfl rfl ?_; clear H; intro b42 w42 H)
    | ((with_reducible refine gDst 12 ?_); refine aAlloc H rfl rfl ?_; clear H; intro b12 w12 H)
    | ((with_reducible refine gLoad ?_); first | (refine aLoad1 H _ rfl rfl (by first | exact (rfl : _ = some (Value.int _ _)) | exact (rfl : _ = some (Value.slice _ _ _)) | exact (rfl : _ = some (Value.bool _)) | exact (rfl : _ = some (Value.string _)) | exact (rfl : _ = some (Value.pointer _)) | rfl | (simp [List.getElem?_append]; done)) rfl ?_) | (refine aLoadR1 RO H _ rfl rfl (by first | exact (rfl : _ = some (Value.int _ _)) | exact (rfl : _ = some (Value.slice _ _ _)) | exact (rfl : _ = some (Value.bool _)) | exact (rfl : _ = some (Value.string _)) | exact (rfl : _ = some (Value.pointer _)) | rfl | (simp [List.getElem?_append]; done)) rfl ?_) | (refine aLoadC _ rfl rfl (by assumption) rfl ?_) | (refine aLoad H _ rfl rfl (by first | exact part_all (by first | rfl | simp []) | (simp only [List.drop_succ_cons, List.drop_zero, List.take_succ_cons, List.take_zero]; rfl) | (simp [List.drop_append, List.take_append]; rfl)) (by first | rfl | simp []) rfl ?_) | (refine aLoadR RO H _ rfl rfl (by first | exact part_all (by first | rfl | simp []) | (simp only [List.drop_succ_cons, List.drop_zero, List.take_succ_cons, List.take_zero]; rfl) | (simp [List.drop_append, List.take_append]; rfl)) (by first | rfl | simp []) rfl ?_))
    | ((with_reducible refine gBuild ?_); refine aZero rfl rfl ?_)
    | ((with_reducible refine gStore ?_); (first | (refine aStore H _ _ rfl rfl rfl (by (first | exact ⟨rfl, rfl⟩ | exact ⟨by decide, rfl⟩ | (simp []; done) | (constructor <;> simp [] <;> omega))) (by first | rfl | simp [List.all_append, one_all]) rfl ?_) | (refine aLay H _ _ rfl rfl rfl (by (first | exact ⟨rfl, rfl⟩ | exact ⟨by decide, rfl⟩ | (simp []; done) | (constructor <;> simp [] <;> omega))) (by first | rfl | simp [List.all_append, one_all]) (by simp only [lay, List.take_succ_cons, List.take_zero, List.drop_succ_cons, List.drop_zero, List.nil_append, List.cons_append, List.length_cons, List.length_nil, Nat.zero_add, Nat.reduceAdd]; rfl) rfl ?_)); clear H; intro w' H; try dsimp only at H)
    | (at_builtin; refine aAppS1 H _ _ rfl rfl rfl (by first | omega | (have := HCL.out; omega)) rfl ?_; clear H; intro v' w' ys HY H; (try dsimp only at H); obtain ⟨A', c', rfl, hc'⟩ := (H.hold.rr v').len)
    | (at_builtin; refine aAppB1 _ H _ _ rfl rfl rfl (by first | omega | (have := HCL.out; omega)) rfl ?_; clear H; intro v' w' ys HY H; (try dsimp only at H); obtain ⟨A', c', rfl, hc'⟩ := (H.hold.rr v').len))
  go_loopw [8, 9] (fun v8 v9 wr => relI1 l n m wf v8 v9 wr) (fun _ v _ => n - (intOf v).toNat)
  case atStart => exact ⟨0, [], _, _, rfl, by omega, rfl, rfl, H.rdNil⟩
  case round =>
    obtain ⟨i, ss, A, cpr, rfl, hi, rfl, hsl, HS⟩ := hrel
    clear H
    have H := HS
    clear HS
    have hsb : ss.length ≤ 64 := by omega
    have HSL := Lib.hid hsl
    clear hsl
    by_cases hir : i < n
    · have hii : (i : Int) < (n : Int) := by omega
      have hx0 := hcx i hir
      have hy0 := hcy i hir
      rw [rowSS_get _ _ _ _ _ hir] at hx0 hy0
      change _ = some (Value.slice (some (ad.add (i * n))) n (cp - i * n)) at hx0
      change _ = some (Value.slice (some (ua.add (i * n))) n (uc - i * n)) at hy0
      have hRx := hlx.2 i (by simp [rowsL]; exact hir)
      have hRy := hly.2 i (by simp [rowsL]; exact hir)
      rw [rowSS_get _ _ _ _ _ hir, rowsL_get _ _ _ _ hir] at hRx hRy
      change RB wf (Value.slice (some (ad.add (i * n))) n (cp - i * n)) _ at hRx
      change RB wf (Value.slice (some (ua.add (i * n))) n (uc - i * n)) _ at hRy
      have hw1 := HWR.out i hir
      obtain ⟨hxl, hyl⟩ := HRQ.out i hir
      generalize rowq l n i = xi at *
      generalize rowq ul n i = yi at *
      generalize ad.add (i * n) = pa at *
      generalize ua.add (i * n) = pu at *
      generalize cp - i * n = ca at *
      generalize uc - i * n = cu at *
      have HW := Lib.hid hw1
      have HXL := Lib.hid hxl
      have HYL := Lib.hid hyl
      have HX0 := Lib.hid hx0
      have HY0 := Lib.hid hy0
      have HRX := Lib.hid hRx
      have HRY := Lib.hid hRy
      clear hw1 hxl hyl hx0 hy0 hRx hRy
      have hni2 : (n : Int) ≤ 32 := hni
      go_wp2_with (first
        | ((with_reducible refine gDst 46 ?_); refine aLoadC _ rfl rfl (cell_below H.below HX0.out) rfl ?_)
        | ((with_reducible refine gDst 52 ?_); refine aLoadC _ rfl rfl (cell_below H.below HY0.out) rfl ?_)
        | (at_builtin; refine aAppBs H _ _ rfl rfl rfl (HRX.out.below H.below) ⟨by simp, by rw [HXL.out]; omega⟩ rfl ?_; clear H; intro v' w' ys1 HY1 H; (try dsimp only at H); obtain ⟨A1, c1, rfl, hc1⟩ := (H.hold.rr v').len)
        | (at_builtin; refine aAppBs H _ _ rfl rfl rfl (HRY.out.below H.below) ⟨by rw [HY1.out, List.nil_append, HXL.out]; omega, by rw [HYL.out]; omega⟩ rfl ?_; clear H; intro v' w' ys2 HY2 H; (try dsimp only at H); obtain ⟨A2, c2, rfl, hc2⟩ := (H.hold.rr v').len)
        | ((with_reducible refine gDst 1 ?_); refine aBox H _ rfl rfl rfl ?_; clear H; intro b1 w1 H)
        | ((with_reducible refine gDst 2 ?_); refine aAlloc H rfl rfl ?_; clear H; intro b2 w2 H)
        | ((with_reducible refine gDst 4 ?_); refine aAlloc H rfl rfl ?_; clear H; intro b4 w4 H)
        | ((with_reducible refine gDst 35 ?_); refine aEmpty sV H rfl rfl ?_; clear H; intro b35 w35 H)
        | ((with_reducible refine gDst 42 ?_); refine aEmpty sB H rfl rfl ?_; clear H; intro b42 w42 H)
        | ((with_reducible refine gDst 12 ?_); refine aAlloc H rfl rfl ?_; clear H; intro b12 w12 H)
        | ((with_reducible refine gLoad ?_); first | (refine aLoad1 H _ rfl rfl (by first | exact (rfl : _ = some (Value.int _ _)) | exact (rfl : _ = some (Value.slice _ _ _)) | exact (rfl : _ = some (Value.bool _)) | exact (rfl : _ = some (Value.string _)) | exact (rfl : _ = some (Value.pointer _)) | rfl | (simp [List.getElem?_append]; done)) rfl ?_) | (refine aLoadR1 RO H _ rfl rfl (by first | exact (rfl : _ = some (Value.int _ _)) | exact (rfl : _ = some (Value.slice _ _ _)) | exact (rfl : _ = some (Value.bool _)) | exact (rfl : _ = some (Value.string _)) | exact (rfl : _ = some (Value.pointer _)) | rfl | (simp [List.getElem?_append]; done)) rfl ?_) | (refine aLoadC _ rfl rfl (by assumption) rfl ?_) | (refine aLoad H _ rfl rfl (by first | exact part_all (by first | rfl | simp []) | (simp only [List.drop_succ_cons, List.drop_zero, List.take_succ_cons, List.take_zero]; rfl) | (simp [List.drop_append, List.take_append]; rfl)) (by first | rfl | simp []) rfl ?_) | (refine aLoadR RO H _ rfl rfl (by first | exact part_all (by first | rfl | simp []) | (simp only [List.drop_succ_cons, List.drop_zero, List.take_succ_cons, List.take_zero]; rfl) | (simp [List.drop_append, List.take_append]; rfl)) (by first | rfl | simp []) rfl ?_))
        | ((with_reducible refine gBuild ?_); refine aZero rfl rfl ?_)
        | ((with_reducible refine gStore ?_); (first | (refine aStore H _ _ rfl rfl rfl (by (first | exact ⟨rfl, rfl⟩ | exact ⟨by decide, rfl⟩ | (simp []; done) | (constructor <;> simp [] <;> omega))) (by first | rfl | simp [List.all_append, one_all]) rfl ?_) | (refine aLay H _ _ rfl rfl rfl (by (first | exact ⟨rfl, rfl⟩ | exact ⟨by decide, rfl⟩ | (simp []; done) | (constructor <;> simp [] <;> omega))) (by first | rfl | simp [List.all_append, one_all]) (by simp only [lay, List.take_succ_cons, List.take_zero, List.drop_succ_cons, List.drop_zero, List.nil_append, List.cons_append, List.length_cons, List.length_nil, Nat.zero_add, Nat.reduceAdd]; rfl) rfl ?_)); clear H; intro w' H; try dsimp only at H)
        | (at_builtin; refine aAppS1 H _ _ rfl rfl rfl (by first | omega | (have := HCL.out; omega)) rfl ?_; clear H; intro v' w' ys HY H; (try dsimp only at H); obtain ⟨A', c', rfl, hc'⟩ := (H.hold.rr v').len)
        | (at_builtin; refine aAppB1 _ H _ _ rfl rfl rfl (by first | omega | (have := HCL.out; omega)) rfl ?_; clear H; intro v' w' ys HY H; (try dsimp only at H); obtain ⟨A', c', rfl, hc'⟩ := (H.hold.rr v').len))
      have hH := H.rdSnoc
      rw [← HY.out, show wideT l n m i ++ [ys2] = wideT l n m (i + 1) from by rw [wideT_succ, HW.out, HY2.out, HY1.out, List.nil_append]] at hH
      go_roundw
      case rel => first | exact ⟨i + 1, _, _, _, by go_num, by omega, rfl, by rw [HY.out, List.length_append, HSL.out]; rfl, hH⟩ | exact ⟨_, ⟨i + 1, _, _, _, by go_num, by omega, rfl, by rw [HY.out, List.length_append, HSL.out]; rfl, hH⟩, rfl⟩ | exact ⟨_, _, ⟨i + 1, _, _, _, by go_num, by omega, rfl, by rw [HY.out, List.length_append, HSL.out]; rfl, hH⟩, rfl, rfl⟩ | exact ⟨_, _, _, ⟨i + 1, _, _, _, by go_num, by omega, rfl, by rw [HY.out, List.length_append, HSL.out]; rfl, hH⟩, rfl, rfl, rfl⟩ | exact ⟨_, _, _, _, ⟨i + 1, _, _, _, by go_num, by omega, rfl, by rw [HY.out, List.length_append, HSL.out]; rfl, hH⟩, rfl, rfl, rfl, rfl⟩ | exact ⟨_, _, _, _, _, ⟨i + 1, _, _, _, by go_num, by omega, rfl, by rw [HY.out, List.length_append, HSL.out]; rfl, hH⟩, rfl, rfl, rfl, rfl, rfl⟩
      case measure => simp [intOf] <;> omega
    · obtain rfl : n = i := by omega
      have hLBw : LB wr ss (wideM l n m) := H.at_ 0 rfl
      have HLBw := Lib.hid hLBw
      clear hLBw hcx hcy hlx hly HLX HLY CR CR2 cU cM HWR HRQ HULP huc
      have hsl := HSL.out
      rw [hsl] at H ⊢
      rcases hd with ⟨d1, d2⟩ | ⟨d1, d2⟩
      · go_wp2_with (first
          | (go_at_call 63; (with_reducible refine (CC.out _ _ ss (H.hold.rr _) HLBw.out).mono ?_); rintro e w' ⟨A5, p5, ss5, rfl, -, -, -, hb⟩; replace H := H0.join (H.step hb); simp only [List.cons_append, List.nil_append] at H; clear hb HLBw RO)
          | ((with_reducible refine gDst 1 ?_); refine aBox H _ rfl rfl rfl ?_; clear H; intro b1 w1 H)
          | ((with_reducible refine gDst 2 ?_); refine aAlloc H rfl rfl ?_; clear H; intro b2 w2 H)
          | ((with_reducible refine gDst 4 ?_); refine aAlloc H rfl rfl ?_; clear H; intro b4 w4 H)
          | ((with_reducible refine gDst 35 ?_); refine aEmpty sV H rfl rfl ?_; clear H; intro b35 w35 H)
          | ((with_reducible refine gDst 42 ?_); refine aEmpty sB H rfl rfl ?_; clear H; intro b42 w42 H)
          | ((with_reducible refine gDst 12 ?_); refine aAlloc H rfl rfl ?_; clear H; intro b12 w12 H)
          | ((with_reducible refine gLoad ?_); first | (refine aLoad1 H _ rfl rfl (by first | exact (rfl : _ = some (Value.int _ _)) | exact (rfl : _ = some (Value.slice _ _ _)) | exact (rfl : _ = some (Value.bool _)) | exact (rfl : _ = some (Value.string _)) | exact (rfl : _ = some (Value.pointer _)) | rfl | (simp [List.getElem?_append]; done)) rfl ?_) | (refine aLoadR1 RO H _ rfl rfl (by first | exact (rfl : _ = some (Value.int _ _)) | exact (rfl : _ = some (Value.slice _ _ _)) | exact (rfl : _ = some (Value.bool _)) | exact (rfl : _ = some (Value.string _)) | exact (rfl : _ = some (Value.pointer _)) | rfl | (simp [List.getElem?_append]; done)) rfl ?_) | (refine aLoadC _ rfl rfl (by assumption) rfl ?_) | (refine aLoad H _ rfl rfl (by first | exact part_all (by first | rfl | simp []) | (simp only [List.drop_succ_cons, List.drop_zero, List.take_succ_cons, List.take_zero]; rfl) | (simp [List.drop_append, List.take_append]; rfl)) (by first | rfl | simp []) rfl ?_) | (refine aLoadR RO H _ rfl rfl (by first | exact part_all (by first | rfl | simp []) | (simp only [List.drop_succ_cons, List.drop_zero, List.take_succ_cons, List.take_zero]; rfl) | (simp [List.drop_append, List.take_append]; rfl)) (by first | rfl | simp []) rfl ?_))
          | ((with_reducible refine gBuild ?_); refine aZero rfl rfl ?_)
          | ((with_reducible refine gStore ?_); (first | (refine aStore H _ _ rfl rfl rfl (by (first | exact ⟨rfl, rfl⟩ | exact ⟨by decide, rfl⟩ | (simp []; done) | (constructor <;> simp [] <;> omega))) (by first | rfl | simp [List.all_append, one_all]) rfl ?_) | (refine aLay H _ _ rfl rfl rfl (by (first | exact ⟨rfl, rfl⟩ | exact ⟨by decide, rfl⟩ | (simp []; done) | (constructor <;> simp [] <;> omega))) (by first | rfl | simp [List.all_append, one_all]) (by simp only [lay, List.take_succ_cons, List.take_zero, List.drop_succ_cons, List.drop_zero, List.nil_append, List.cons_append, List.length_cons, List.length_nil, Nat.zero_add, Nat.reduceAdd]; rfl) rfl ?_)); clear H; intro w' H; try dsimp only at H)
          | (at_builtin; refine aAppS1 H _ _ rfl rfl rfl (by first | omega | (have := HCL.out; omega)) rfl ?_; clear H; intro v' w' ys HY H; (try dsimp only at H); obtain ⟨A', c', rfl, hc'⟩ := (H.hold.rr v').len)
          | (at_builtin; refine aAppB1 _ H _ _ rfl rfl rfl (by first | omega | (have := HCL.out; omega)) rfl ?_; clear H; intro v' w' ys HY H; (try dsimp only at H); obtain ⟨A', c', rfl, hc'⟩ := (H.hold.rr v').len))
        refine bodyPost_ret (res_cell_tmp rfl _ H.hold rfl rfl) rfl ?_
        rw [invT, if_pos d2]
        exact ⟨none, 0, rfl, OR.nil _ _, H.below⟩
      · go_wp2_with (first
          | (go_at_call 63; (with_reducible refine (CC.out _ _ ss (H.hold.rr _) HLBw.out).mono ?_); rintro e w' ⟨A5, p5, ss5, rfl, hLB5, hsl5, hRR5, hb⟩; have H1 := H0.join (H.step hb); simp only [List.cons_append, List.nil_append] at H1; clear H0 RO H hb HLBw; have H0 := H1; clear H1; rename World => w5; have RO := H0.hold; have H := SH.start Nil w5)
          | ((with_reducible refine gDst 1 ?_); refine aBox H _ rfl rfl rfl ?_; clear H; intro b1 w1 H)
          | ((with_reducible refine gDst 2 ?_); refine aAlloc H rfl rfl ?_; clear H; intro b2 w2 H)
          | ((with_reducible refine gDst 4 ?_); refine aAlloc H rfl rfl ?_; clear H; intro b4 w4 H)
          | ((with_reducible refine gDst 35 ?_); refine aEmpty sV H rfl rfl ?_; clear H; intro b35 w35 H)
          | ((with_reducible refine gDst 42 ?_); refine aEmpty sB H rfl rfl ?_; clear H; intro b42 w42 H)
          | ((with_reducible refine gDst 12 ?_); refine aAlloc H rfl rfl ?_; clear H; intro b12 w12 H)
          | ((with_reducible refine gLoad ?_); first | (refine aLoad1 H _ rfl rfl (by first | exact (rfl : _ = some (Value.int _ _)) | exact (rfl : _ = some (Value.slice _ _ _)) | exact (rfl : _ = some (Value.bool _)) | exact (rfl : _ = some (Value.string _)) | exact (rfl : _ = some (Value.pointer _)) | rfl | (simp [List.getElem?_append]; done)) rfl ?_) | (refine aLoadR1 RO H _ rfl rfl (by first | exact (rfl : _ = some (Value.int _ _)) | exact (rfl : _ = some (Value.slice _ _ _)) | exact (rfl : _ = some (Value.bool _)) | exact (rfl : _ = some (Value.string _)) | exact (rfl : _ = some (Value.pointer _)) | rfl | (simp [List.getElem?_append]; done)) rfl ?_) | (refine aLoadC _ rfl rfl (by assumption) rfl ?_) | (refine aLoad H _ rfl rfl (by first | exact part_all (by first | rfl | simp []) | (simp only [List.drop_succ_cons, List.drop_zero, List.take_succ_cons, List.take_zero]; rfl) | (simp [List.drop_append, List.take_append]; rfl)) (by first | rfl | simp []) rfl ?_) | (refine aLoadR RO H _ rfl rfl (by first | exact part_all (by first | rfl | simp []) | (simp only [List.drop_succ_cons, List.drop_zero, List.take_succ_cons, List.take_zero]; rfl) | (simp [List.drop_append, List.take_append]; rfl)) (by first | rfl | simp []) rfl ?_))
          | ((with_reducible refine gBuild ?_); refine aZero rfl rfl ?_)
          | ((with_reducible refine gStore ?_); (first | (refine aStore H _ _ rfl rfl rfl (by (first | exact ⟨rfl, rfl⟩ | exact ⟨by decide, rfl⟩ | (simp []; done) | (constructor <;> simp [] <;> omega))) (by first | rfl | simp [List.all_append, one_all]) rfl ?_) | (refine aLay H _ _ rfl rfl rfl (by (first | exact ⟨rfl, rfl⟩ | exact ⟨by decide, rfl⟩ | (simp []; done) | (constructor <;> simp [] <;> omega))) (by first | rfl | simp [List.all_append, one_all]) (by simp only [lay, List.take_succ_cons, List.take_zero, List.drop_succ_cons, List.drop_zero, List.nil_append, List.cons_append, List.length_cons, List.length_nil, Nat.zero_add, Nat.reduceAdd]; rfl) rfl ?_)); clear H; intro w' H; try dsimp only at H)
          | (at_builtin; refine aAppS1 H _ _ rfl rfl rfl (by first | omega | (have := HCL.out; omega)) rfl ?_; clear H; intro v' w' ys HY H; (try dsimp only at H); obtain ⟨A', c', rfl, hc'⟩ := (H.hold.rr v').len)
          | (at_builtin; refine aAppB1 _ H _ _ rfl rfl rfl (by first | omega | (have := HCL.out; omega)) rfl ?_; clear H; intro v' w' ys HY H; (try dsimp only at H); obtain ⟨A', c', rfl, hc'⟩ := (H.hold.rr v').len))
        obtain ⟨adl, rfl, -⟩ := hRR5.at_ 0 (by omega)
        have hME := HME.out
        have hmm := HMM.out
        go_loopw [13] (fun v13 wr => relI2 s.1 n b12 w5 v13 wr) (fun v _ => n - (intOf v).toNat)
        case atStart => exact ⟨0, [], none, 0, rfl, by omega, rfl, H.nilRow B8⟩
        case round =>
          obtain ⟨i, cur, A6, cp6, rfl, hi, HC, HS⟩ := hrel
          clear H
          have H := HS
          clear HS
          by_cases hir : i < n
          · have hii : (i : Int) < (n : Int) := by omega
            obtain ⟨adi, ci, hsi, hcle, hrb⟩ := hLB5.row hME hir (by omega)
            have hc5 := svAt hRR5 i (by omega)
            rw [hsi] at hc5
            change _ = some (Value.slice (some adi) m ci) at hc5
            have hck := cut1 adi m ci n (by omega) hcle
            have hrd := hrb.dropAt n (by rw [hME.get hir]; omega)
            have hmn : m - n = n := by omega
            rw [hmn] at hck hrd
            have hdl : (s.1.getD i []).drop n = (List.range n).map (fun j => fe s.1 i (n + j)) := by
              refine List.ext_getElem (by rw [List.length_drop, hME.get hir, List.length_map, List.length_range]; omega) fun j h1 h2 => ?_
              rw [List.length_map, List.length_range] at h2
              simp only [List.getElem_drop, List.getElem_map, List.getElem_range]
              rw [fe, List.getD_eq_getElem?_getD (l := s.1.getD i []), List.getElem?_eq_getElem (by rw [hME.get hir]; omega)]; rfl
            have hst := fillL_succ i n (fun i j => fe s.1 i (n + j))
            rw [← hdl, ← HC.out] at hst
            have hxl : ((s.1.getD i []).drop n).length = n := by rw [List.length_drop, hME.get hir]; omega
            have hcl : cur.length ≤ 5000 := by
              rw [HC.out, fillL_len]
              have := Nat.mul_le_mul (show i ≤ 32 by omega) hn2
              omega
            have hc := cell_below H.below hc5
            generalize (s.1.getD i []).drop n = xi at *
            generalize adi.add n = pa at *
            generalize ci - n = ca at *
            have HST := Lib.hid hst
            have HCL := Lib.hid hcl
            have HXL := Lib.hid hxl
            have HRD := Lib.hid hrd
            have HB0 := Lib.hid H.below
            have hBS : ∀ wS, wS = wr.drew → Below w5.heap.size w5 wS := fun wS e => by subst e; exact pw_below_drewN (HB0.out) 1
            have hni3 : (n : Int) < (m : Int) := by omega
            have hmb : (m : Int) ≤ 64 := by omega
            clear hst hcl hxl hrd hdl hsi hrb hc5 hcle hmm hmn
            go_wp2_with (first
              | ((with_reducible refine gDst 1 ?_); refine aBox H _ rfl rfl rfl ?_; clear H; intro b1 w1 H)
              | ((with_reducible refine gDst 2 ?_); refine aAlloc H rfl rfl ?_; clear H; intro b2 w2 H)
              | ((with_reducible refine gDst 4 ?_); refine aAlloc H rfl rfl ?_; clear H; intro b4 w4 H)
              | ((with_reducible refine gDst 35 ?_); refine aEmpty sV H rfl rfl ?_; clear H; intro b35 w35 H)
              | ((with_reducible refine gDst 42 ?_); refine aEmpty sB H rfl rfl ?_; clear H; intro b42 w42 H)
              | ((with_reducible refine gDst 12 ?_); refine aAlloc H rfl rfl ?_; clear H; intro b12 w12 H)
              | ((with_reducible refine gLoad ?_); first | (refine aLoad1 H _ rfl rfl (by first | exact (rfl : _ = some (Value.int _ _)) | exact (rfl : _ = some (Value.slice _ _ _)) | exact (rfl : _ = some (Value.bool _)) | exact (rfl : _ = some (Value.string _)) | exact (rfl : _ = some (Value.pointer _)) | rfl | (simp [List.getElem?_append]; done)) rfl ?_) | (refine aLoadR1 RO H _ rfl rfl (by first | exact (rfl : _ = some (Value.int _ _)) | exact (rfl : _ = some (Value.slice _ _ _)) | exact (rfl : _ = some (Value.bool _)) | exact (rfl : _ = some (Value.string _)) | exact (rfl : _ = some (Value.pointer _)) | rfl | (simp [List.getElem?_append]; done)) rfl ?_) | (refine aLoadC _ rfl rfl (by assumption) rfl ?_) | (refine aLoad H _ rfl rfl (by first | exact part_all (by first | rfl | simp []) | (simp only [List.drop_succ_cons, List.drop_zero, List.take_succ_cons, List.take_zero]; rfl) | (simp [List.drop_append, List.take_append]; rfl)) (by first | rfl | simp []) rfl ?_) | (refine aLoadR RO H _ rfl rfl (by first | exact part_all (by first | rfl | simp []) | (simp only [List.drop_succ_cons, List.drop_zero, List.take_succ_cons, List.take_zero]; rfl) | (simp [List.drop_append, List.take_append]; rfl)) (by first | rfl | simp []) rfl ?_))
              | ((with_reducible refine gBuild ?_); refine aZero rfl rfl ?_)
              | ((with_reducible refine gStore ?_); (first | (refine aStore H _ _ rfl rfl rfl (by (first | exact ⟨rfl, rfl⟩ | exact ⟨by decide, rfl⟩ | (simp []; done) | (constructor <;> simp [] <;> omega))) (by first | rfl | simp [List.all_append, one_all]) rfl ?_) | (refine aLay H _ _ rfl rfl rfl (by (first | exact ⟨rfl, rfl⟩ | exact ⟨by decide, rfl⟩ | (simp []; done) | (constructor <;> simp [] <;> omega))) (by first | rfl | simp [List.all_append, one_all]) (by simp only [lay, List.take_succ_cons, List.take_zero, List.drop_succ_cons, List.drop_zero, List.nil_append, List.cons_append, List.length_cons, List.length_nil, Nat.zero_add, Nat.reduceAdd]; rfl) rfl ?_)); clear H; intro w' H; try dsimp only at H)
              | (at_builtin; refine aAppS1 H _ _ rfl rfl rfl (by first | omega | (have := HCL.out; omega)) rfl ?_; clear H; intro v' w' ys HY H; (try dsimp only at H); obtain ⟨A', c', rfl, hc'⟩ := (H.hold.rr v').len)
              | (at_builtin; refine aAppB1 _ H _ _ rfl rfl rfl (by first | omega | (have := HCL.out; omega)) rfl ?_; clear H; intro v' w' ys HY H; (try dsimp only at H); obtain ⟨A', c', rfl, hc'⟩ := (H.hold.rr v').len))
            refine startA (fun i => i == 9 || i == 11) (by kernel_rfl) (fun wS hS => ?_)
            replace H := H.drew
            rw [← hS] at H
            have HH := H.hold
            have HR := H.old RO
            have HS0 : Below wS.heap.size wS wS := Below.refl _ _
            replace hc := cellS hS hc
            have hB5 := hBS wS hS
            clear hS
            refine takeP 0 rfl (by kernel_rfl) (by kernel_rfl) (by kernel_rfl) (by kernel_rfl) (fun _ _ _ h => h) rfl (v := ?_) ?_ ?_
            rotate_left
            · intro w'; go_simp; (try with_reducible rfl)
            (try simp only [Act.put, List.setIfInBounds_toArray, List.set_cons_zero, List.set_cons_succ])
            refine takeL 1 HS0 rfl (by kernel_rfl) (by kernel_rfl) (by kernel_rfl) (by kernel_rfl) (by kernel_rfl) (fun _ _ _ h => h) rfl (v := ?_) ?_ ?_
            rotate_left
            · intro w' hw'; first | (refine Eq.trans (xLoad1 (HR.below hw') _ rfl rfl (by first | exact (rfl : _ = some (Value.int _ _)) | exact (rfl : _ = some (Value.slice _ _ _)) | exact (rfl : _ = some (Value.bool _)) | exact (rfl : _ = some (Value.string _)) | exact (rfl : _ = some (Value.pointer _)) | rfl | (simp [List.getElem?_append]; done))) ?_; with_reducible rfl) | (refine Eq.trans (xLoad1 (HH.below hw') _ rfl rfl (by first | exact (rfl : _ = some (Value.int _ _)) | exact (rfl : _ = some (Value.slice _ _ _)) | exact (rfl : _ = some (Value.bool _)) | exact (rfl : _ = some (Value.string _)) | exact (rfl : _ = some (Value.pointer _)) | rfl | (simp [List.getElem?_append]; done))) ?_; with_reducible rfl) | (refine Eq.trans (xLoadC _ rfl rfl (cell_below hw' (by assumption))) ?_; with_reducible rfl)
            (try simp only [Act.put, List.setIfInBounds_toArray, List.set_cons_zero, List.set_cons_succ])
            refine takeP 2 rfl (by kernel_rfl) (by kernel_rfl) (by kernel_rfl) (by kernel_rfl) (fun _ _ _ h => h) rfl (v := ?_) ?_ ?_
            rotate_left
            · intro w'; go_simp; (try with_reducible rfl)
            (try simp only [Act.put, List.setIfInBounds_toArray, List.set_cons_zero, List.set_cons_succ])
            refine takeP 3 rfl (by kernel_rfl) (by kernel_rfl) (by kernel_rfl) (by kernel_rfl) (fun _ _ _ h => h) rfl (v := ?_) ?_ ?_
            rotate_left
            · intro w'; go_simp; (try with_reducible rfl)
            (try simp only [Act.put, List.setIfInBounds_toArray, List.set_cons_zero, List.set_cons_succ])
            refine takeP 4 rfl (by kernel_rfl) (by kernel_rfl) (by kernel_rfl) (by kernel_rfl) (fun _ _ _ h => h) rfl (v := ?_) ?_ ?_
            rotate_left
            · intro w'; go_simp; (try with_reducible rfl)
            (try simp only [Act.put, List.setIfInBounds_toArray, List.set_cons_zero, List.set_cons_succ])
            refine takeL 5 HS0 rfl (by kernel_rfl) (by kernel_rfl) (by kernel_rfl) (by kernel_rfl) (by kernel_rfl) (fun _ _ _ h => h) rfl (v := ?_) ?_ ?_
            rotate_left
            · intro w' hw'; first | (refine Eq.trans (xLoad1 (HR.below hw') _ rfl rfl (by first | exact (rfl : _ = some (Value.int _ _)) | exact (rfl : _ = some (Value.slice _ _ _)) | exact (rfl : _ = some (Value.bool _)) | exact (rfl : _ = some (Value.string _)) | exact (rfl : _ = some (Value.pointer _)) | rfl | (simp [List.getElem?_append]; done))) ?_; with_reducible rfl) | (refine Eq.trans (xLoad1 (HH.below hw') _ rfl rfl (by first | exact (rfl : _ = some (Value.int _ _)) | exact (rfl : _ = some (Value.slice _ _ _)) | exact (rfl : _ = some (Value.bool _)) | exact (rfl : _ = some (Value.string _)) | exact (rfl : _ = some (Value.pointer _)) | rfl | (simp [List.getElem?_append]; done))) ?_; with_reducible rfl) | (refine Eq.trans (xLoadC _ rfl rfl (cell_below hw' (by assumption))) ?_; with_reducible rfl)
            (try simp only [Act.put, List.setIfInBounds_toArray, List.set_cons_zero, List.set_cons_succ])
            refine takeP 6 rfl (by kernel_rfl) (by kernel_rfl) (by kernel_rfl) (by kernel_rfl) (fun _ _ _ h => h) rfl (v := ?_) ?_ ?_
            rotate_left
            · intro w'; go_simp; (try with_reducible rfl)
            (try simp only [Act.put, List.setIfInBounds_toArray, List.set_cons_zero, List.set_cons_succ])
            refine takeL 7 HS0 rfl (by kernel_rfl) (by kernel_rfl) (by kernel_rfl) (by kernel_rfl) (by kernel_rfl) (fun _ _ _ h => h) rfl (v := ?_) ?_ ?_
            rotate_left
            · intro w' hw'; first | (refine Eq.trans (xLoad1 (HR.below hw') _ rfl rfl (by first | exact (rfl : _ = some (Value.int _ _)) | exact (rfl : _ = some (Value.slice _ _ _)) | exact (rfl : _ = some (Value.bool _)) | exact (rfl : _ = some (Value.string _)) | exact (rfl : _ = some (Value.pointer _)) | rfl | (simp [List.getElem?_append]; done))) ?_; with_reducible rfl) | (refine Eq.trans (xLoad1 (HH.below hw') _ rfl rfl (by first | exact (rfl : _ = some (Value.int _ _)) | exact (rfl : _ = some (Value.slice _ _ _)) | exact (rfl : _ = some (Value.bool _)) | exact (rfl : _ = some (Value.string _)) | exact (rfl : _ = some (Value.pointer _)) | rfl | (simp [List.getElem?_append]; done))) ?_; with_reducible rfl) | (refine Eq.trans (xLoadC _ rfl rfl (cell_below hw' (by assumption))) ?_; with_reducible rfl)
            (try simp only [Act.put, List.setIfInBounds_toArray, List.set_cons_zero, List.set_cons_succ])
            refine takeP 8 rfl (by kernel_rfl) (by kernel_rfl) (by kernel_rfl) (by kernel_rfl) (fun _ _ _ h => h) rfl (v := ?_) ?_ ?_
            rotate_left
            · intro w'; go_simp; (try with_reducible rfl)
            (try simp only [Act.put, List.setIfInBounds_toArray, List.set_cons_zero, List.set_cons_succ])
            refine stepL 9 rfl (by kernel_rfl) rfl (fun K hK => ?_)
            (refine oAppN sB H _ _ rfl rfl rfl (HRD.out.below (below_two hB5 hB5.size HS0)) (by rw [HXL.out]; show (cur.length + n) * 1 ≤ _; have := HCL.out; omega) ?_; clear H; intro v' w' ys HY H; (try dsimp only at H); obtain ⟨A7, c7, rfl, hc7⟩ := (H.hold.rr v').len; refine hK.out _ _ (fun h => by cases h) ?_; clear K hK HS0)
            (try simp only [Act.put, List.setIfInBounds_toArray, List.set_cons_zero, List.set_cons_succ])
            refine takeP 10 rfl (by kernel_rfl) (by kernel_rfl) (by kernel_rfl) (by kernel_rfl) (fun _ _ _ h => h) rfl (v := ?_) ?_ ?_
            rotate_left
            · intro w'; go_simp; (try with_reducible rfl)
            (try simp only [Act.put, List.setIfInBounds_toArray, List.set_cons_zero, List.set_cons_succ])
            refine stepL 11 rfl (by kernel_rfl) rfl (fun K hK => ?_)
            refine oCellA H _ _ rfl rfl (by first | exact (rfl : _ = Value.int _ _) | exact (rfl : _ = Value.bool _) | exact (rfl : _ = Value.slice _ _ _) | exact (rfl : _ = Value.string _) | exact (rfl : _ = Value.pointer _) | exact (rfl : _ = Value.func _ _ _) | rfl) (by rfl) (by rfl) (by first | exact of_decide_eq_true rfl | (simp []; done) | (simp []; omega)) (by first | (simp only [List.set_cons_zero, List.set_cons_succ]; rfl) | (simp [List.set_append]; rfl)) ?_
            clear H; intro w' H; (try dsimp only at H); refine hK.out _ _ (fun h => by cases h) ?_; clear K hK HS0
            (try simp only [Act.put, List.setIfInBounds_toArray, List.set_cons_zero, List.set_cons_succ])
            refine doneL (by kernel_rfl) ?_
            go_wp2
            go_roundw
            case rel => first | exact ⟨i + 1, _, _, _, by go_num, by omega, HY.out.trans HST.out.symm, H⟩ | exact ⟨_, ⟨i + 1, _, _, _, by go_num, by omega, HY.out.trans HST.out.symm, H⟩, rfl⟩ | exact ⟨_, _, ⟨i + 1, _, _, _, by go_num, by omega, HY.out.trans HST.out.symm, H⟩, rfl, rfl⟩ | exact ⟨_, _, _, ⟨i + 1, _, _, _, by go_num, by omega, HY.out.trans HST.out.symm, H⟩, rfl, rfl, rfl⟩ | exact ⟨_, _, _, _, ⟨i + 1, _, _, _, by go_num, by omega, HY.out.trans HST.out.symm, H⟩, rfl, rfl, rfl, rfl⟩ | exact ⟨_, _, _, _, _, ⟨i + 1, _, _, _, by go_num, by omega, HY.out.trans HST.out.symm, H⟩, rfl, rfl, rfl, rfl, rfl⟩
            case measure => simp [intOf] <;> omega
          · obtain rfl : n = i := by omega
            have H1 := H0.join H
            simp only [List.cons_append, List.nil_append] at H1
            clear H RO
            have H := H1
            clear H1
            go_wp2_with (first
              | ((with_reducible refine gDst 1 ?_); refine aBox H _ rfl rfl rfl ?_; clear H; intro b1 w1 H)
              | ((with_reducible refine gDst 2 ?_); refine aAlloc H rfl rfl ?_; clear H; intro b2 w2 H)
              | ((with_reducible refine gDst 4 ?_); refine aAlloc H rfl rfl ?_; clear H; intro b4 w4 H)
              | ((with_reducible refine gDst 35 ?_); refine aEmpty sV H rfl rfl ?_; clear H; intro b35 w35 H)
              | ((with_reducible refine gDst 42 ?_); refine aEmpty sB H rfl rfl ?_; clear H; intro b42 w42 H)
              | ((with_reducible refine gDst 12 ?_); refine aAlloc H rfl rfl ?_; clear H; intro b12 w12 H)
              | ((with_reducible refine gLoad ?_); first | (refine aLoad1 H _ rfl rfl (by first | exact (rfl : _ = some (Value.int _ _)) | exact (rfl : _ = some (Value.slice _ _ _)) | exact (rfl : _ = some (Value.bool _)) | exact (rfl : _ = some (Value.string _)) | exact (rfl : _ = some (Value.pointer _)) | rfl | (simp [List.getElem?_append]; done)) rfl ?_) | (refine aLoadR1 RO H _ rfl rfl (by first | exact (rfl : _ = some (Value.int _ _)) | exact (rfl : _ = some (Value.slice _ _ _)) | exact (rfl : _ = some (Value.bool _)) | exact (rfl : _ = some (Value.string _)) | exact (rfl : _ = some (Value.pointer _)) | rfl | (simp [List.getElem?_append]; done)) rfl ?_) | (refine aLoadC _ rfl rfl (by assumption) rfl ?_) | (refine aLoad H _ rfl rfl (by first | exact part_all (by first | rfl | simp []) | (simp only [List.drop_succ_cons, List.drop_zero, List.take_succ_cons, List.take_zero]; rfl) | (simp [List.drop_append, List.take_append]; rfl)) (by first | rfl | simp []) rfl ?_) | (refine aLoadR RO H _ rfl rfl (by first | exact part_all (by first | rfl | simp []) | (simp only [List.drop_succ_cons, List.drop_zero, List.take_succ_cons, List.take_zero]; rfl) | (simp [List.drop_append, List.take_append]; rfl)) (by first | rfl | simp []) rfl ?_))
              | ((with_reducible refine gBuild ?_); refine aZero rfl rfl ?_)
              | ((with_reducible refine gStore ?_); (first | (refine aStore H _ _ rfl rfl rfl (by (first | exact ⟨rfl, rfl⟩ | exact ⟨by decide, rfl⟩ | (simp []; done) | (constructor <;> simp [] <;> omega))) (by first | rfl | simp [List.all_append, one_all]) rfl ?_) | (refine aLay H _ _ rfl rfl rfl (by (first | exact ⟨rfl, rfl⟩ | exact ⟨by decide, rfl⟩ | (simp []; done) | (constructor <;> simp [] <;> omega))) (by first | rfl | simp [List.all_append, one_all]) (by simp only [lay, List.take_succ_cons, List.take_zero, List.drop_succ_cons, List.drop_zero, List.nil_append, List.cons_append, List.length_cons, List.length_nil, Nat.zero_add, Nat.reduceAdd]; rfl) rfl ?_)); clear H; intro w' H; try dsimp only at H)
              | (at_builtin; refine aAppS1 H _ _ rfl rfl rfl (by first | omega | (have := HCL.out; omega)) rfl ?_; clear H; intro v' w' ys HY H; (try dsimp only at H); obtain ⟨A', c', rfl, hc'⟩ := (H.hold.rr v').len)
              | (at_builtin; refine aAppB1 _ H _ _ rfl rfl rfl (by first | omega | (have := HCL.out; omega)) rfl ?_; clear H; intro v' w' ys HY H; (try dsimp only at H); obtain ⟨A', c', rfl, hc'⟩ := (H.hold.rr v').len))
            refine bodyPost_ret (res_cell_tmp rfl _ H.hold rfl rfl) rfl ?_
            rw [invT, if_neg d2, ← HC.out]
            exact ⟨A6, _, rfl, H.ow _, H.below⟩
end Go.Proofs.Ytfnneneaalaagaa

namespace Go.Proofs.Ytfnneneaalaagaa
set_option maxRecDepth 100000
open Go.RowKit
set_option linter.unusedSimpArgs false
set_option linter.unusedVariables false

def elF (l : List UInt8) (n i j : Nat) : UInt8 := l.getD (i * n + j) 0
theorem wide_fe (l : List UInt8) (n i j : Nat) (hi : i < n) (hj : j < n + n) : fe (wideM l n (n + n)) i j = wideF n (elF l n) i j := by
  rw [fe, wideM, List.getD_eq_getElem?_getD (a := ([] : List UInt8)), List.getElem?_map, List.getElem?_range hi]
  simp only [Option.map_some, Option.getD_some]
  rw [List.getD_eq_getElem?_getD, List.getElem?_map, List.getElem?_range hj]
  simp only [Option.map_some, Option.getD_some]
  rw [invF, wideF]
  rfl
theorem fillL_congr {r c : Nat} {f g : Nat → Nat → UInt8} (h : ∀ i j, i < r → j < c → f i j = g i j) : fillL r c f = fillL r c g := by
  unfold fillL
  rw [List.flatMap_def, List.flatMap_def]
  congr 1
  exact List.map_congr_left fun i hi => List.map_congr_left fun j hj => h i j (List.mem_range.1 hi) (List.mem_range.1 hj)
/-- The run of the program, and of the reference. -/
theorem run_wide (pk : List UInt8 → Int) (hp : Picks pk) (l : List UInt8) (n : Nat) : Run n (n + n) (fe (wideM l n (n + n))) n (runG pk n (n + n) (wideM l n (n + n)) n).2 (fe (runG pk n (n + n) (wideM l n (n + n)) n).1) ∧ (runG pk n (n + n) (wideM l n (n + n)) n).2 ≤ n :=
  ⟨(runG_mat hp (wideM_mat l n (n + n)) n (by omega)).2.2, (runG_mat hp (wideM_mat l n (n + n)) n (by omega)).2.1⟩
theorem run_undo {pk : List UInt8 → Int} (hp : Picks pk) (l : List UInt8) (n : Nat) (h : ¬ (runG pk n (n + n) (wideM l n (n + n)) n).2 < n) : Undo n (elF l n) (fun i j => fe (runG pk n (n + n) (wideM l n (n + n)) n).1 i (n + j)) := by
  obtain ⟨h1, h2⟩ := run_wide pk hp l n
  have e : (runG pk n (n + n) (wideM l n (n + n)) n).2 = n := by omega
  rw [e] at h1
  exact h1.undo fun i j hi hj => wide_fe l n i j hi hj
theorem inv_same (l : List UInt8) (n : Nat) : invT (runG lzI n (n + n) (wideM l n (n + n)) n) n = invT (clr n (n + n) (wideM l n (n + n)) n) n := by
  rw [clr_run]
  have e : (runG lzI n (n + n) (wideM l n (n + n)) n).2 = (runG nzI n (n + n) (wideM l n (n + n)) n).2 := (run_wide lzI picks_lz l n).1.same (run_wide nzI picks_nz l n).1 fun _ _ => Iff.rfl
  unfold invT
  rw [e]
  by_cases h : (runG nzI n (n + n) (wideM l n (n + n)) n).2 < n
  · rw [if_pos h, if_pos h]
  · rw [if_neg h, if_neg h, fillL_congr (Undo.same (run_undo picks_lz l n (by rw [e]; exact h)) (run_undo picks_nz l n h))]
theorem Inverse_pair (l : List UInt8) (r c : Int) (A0 : Option Addr) (cp0 : Nat) (hcp : l.length ≤ cp0) : ∃ x : Told26,
    (∀ w, RB w (.slice A0 l.length cp0) l → Calls Try.prog 29 #[.agg (mxT.enc (r, c, A0, l.length, cp0)).toArray] w (Gives26 mxT w x)) ∧
    (∀ w, RB w (.slice A0 l.length cp0) l → Calls Try.prog 30 #[.agg (rxT.enc (r, c, A0, l.length, cp0)).toArray] w (Gives26 rxT w x)) := by
  cases hm : mayB r c l.length with
  | false => exact ⟨_, fun w _ => Inverse_bad r c _ A0 cp0 w (.inl hm), fun w _ => rInverse_bad r c _ A0 cp0 w (.inl hm)⟩
  | true =>
    cases hrc : (r == c) with
    | false => exact ⟨_, fun w _ => Inverse_bad r c _ A0 cp0 w (.inr ⟨hm, hrc⟩), fun w _ => rInverse_bad r c _ A0 cp0 w (.inr ⟨hm, hrc⟩)⟩
    | true =>
      obtain rfl := beq_iff_eq.1 hrc
      obtain ⟨n, _, rfl, _⟩ := mayB_ok hm
      exact ⟨_, fun w h => Inverse_ok l n A0 cp0 w h hcp hm, fun w h => by rw [← inv_same]; exact rInverse_ok l n A0 cp0 w h hcp hm⟩
set_option maxHeartbeats 3200000 in
set_option maxRecDepth 100000 in
theorem MatrixInverse_any (r c : Int) (la : List UInt8) (Aa : Option Addr) (pa : Nat) (w : World) (ha : RB w (.slice Aa la.length pa) la) (hpa : la.length ≤ pa) :
    Calls Try.prog 8 #[.agg (mxT.enc (r, c, Aa, la.length, pa)).toArray] w fun e w' => e = .returned (.bool true) ∧ Below w.heap.size w w' := by
  have H := SH.start Nil w
  have RO := HOLD.rdOne ha
  obtain ⟨⟨r1, c1, l1, E1⟩, P1, P2⟩ := Inverse_pair la r c Aa pa hpa
  have cS : ∀ W, Calls Try.prog 19 #[.agg (mxT.enc (r, c, Aa, la.length, pa)).toArray] W fun e w' => e = .returned (.bool (smallB r c la.length)) ∧ Below W.heap.size W w' := fun W => small_any r c Aa la.length pa W
  have cL : ∀ W, Calls Try.prog 20 #[] W fun e w' => e = .returned (.bool true) ∧ Below W.heap.size W w' := alive26_any
  have cP : ∀ W, Calls Try.prog 23 #[.agg (mxT.enc (r, c, Aa, la.length, pa)).toArray] W fun e w' => e = .returned (.agg (rxT.enc (r, c, Aa, la.length, pa)).toArray) ∧ Below W.heap.size W w' := fun W => plain26_any r c Aa la.length pa W
  have hq : smallB r c la.length = true → la.length ≤ 64 := fun h => by simp [smallB] at h; omega
  have HP1 := Lib.hid P1
  have HP2 := Lib.hid P2
  have HE1 : (E1 == E1) = true := by simp
  clear P1 P2
  generalize hsm : smallB r c la.length = sm at cS hq
  cases sm with
  | false =>
    clear ha hpa hq hsm
    go_enter Try.func8, Try.ntmps8
    go_wp2_with (first
      | ((with_reducible refine gDst 1 ?_); refine aBox H _ rfl rfl rfl ?_; clear H; intro b1 w1 H)
      | ((with_reducible refine gDst 4 ?_); refine aAlloc H rfl rfl ?_; clear H; intro b4 w4 H)
      | ((with_reducible refine gDst 6 ?_); refine aAlloc H rfl rfl ?_; clear H; intro b6 w6 H)
      | ((with_reducible refine gLoad ?_); first | (refine aLoad1 H _ rfl rfl (by first | exact (rfl : _ = some (Value.int _ _)) | exact (rfl : _ = some (Value.slice _ _ _)) | exact (rfl : _ = some (Value.bool _)) | exact (rfl : _ = some (Value.string _)) | exact (rfl : _ = some (Value.pointer _)) | rfl | (simp [List.getElem?_append]; done)) rfl ?_) | (refine aLoadR1 RO H _ rfl rfl (by first | exact (rfl : _ = some (Value.int _ _)) | exact (rfl : _ = some (Value.slice _ _ _)) | exact (rfl : _ = some (Value.bool _)) | exact (rfl : _ = some (Value.string _)) | exact (rfl : _ = some (Value.pointer _)) | rfl | (simp [List.getElem?_append]; done)) rfl ?_) | (refine aLoadC _ rfl rfl (by assumption) rfl ?_) | (refine aLoad H _ rfl rfl (by first | exact part_all (by first | rfl | simp []) | (simp only [List.drop_succ_cons, List.drop_zero, List.take_succ_cons, List.take_zero]; rfl) | (simp [List.drop_append, List.take_append]; rfl)) (by first | rfl | simp []) rfl ?_) | (refine aLoadR RO H _ rfl rfl (by first | exact part_all (by first | rfl | simp []) | (simp only [List.drop_succ_cons, List.drop_zero, List.take_succ_cons, List.take_zero]; rfl) | (simp [List.drop_append, List.take_append]; rfl)) (by first | rfl | simp []) rfl ?_))
      | ((with_reducible refine gStore ?_); (first | (refine aStore H _ _ rfl rfl rfl (by (first | exact ⟨rfl, rfl⟩ | exact ⟨by decide, rfl⟩ | (simp []; done) | (constructor <;> simp [] <;> omega))) (by first | rfl | simp [List.all_append, one_all]) rfl ?_) | (refine aLay H _ _ rfl rfl rfl (by (first | exact ⟨rfl, rfl⟩ | exact ⟨by decide, rfl⟩ | (simp []; done) | (constructor <;> simp [] <;> omega))) (by first | rfl | simp [List.all_append, one_all]) (by simp only [lay, List.take_succ_cons, List.take_zero, List.drop_succ_cons, List.drop_zero, List.nil_append, List.cons_append, List.length_cons, List.length_nil, Nat.zero_add, Nat.reduceAdd]; rfl) rfl ?_)); clear H; intro w' H; try dsimp only at H)
      | ((with_reducible refine gConv ?_); first | (refine aStr H _ rfl rfl rfl ?_) | (refine aStrR RO H _ rfl rfl rfl ?_))
      | (go_at_call 19; (with_reducible refine (cS _).mono ?_); rintro e w' ⟨rfl, hb⟩; replace H := H.step hb; clear hb)
      | (go_at_call 20; (with_reducible refine (cL _).mono ?_); rintro e w' ⟨rfl, hb⟩; replace H := H.step hb; clear hb))
    go_ret
    exact ⟨rfl, H.below⟩
  | true =>
    have hql := hq rfl
    have cK1 := fun (W : World) (hB : Below w.heap.size w W) => Rank_any r c Aa pa la W (ha.below hB) (by omega)
    have cK2 := fun (W : World) (hB : Below w.heap.size w W) => rRank_any r c Aa pa la W (ha.below hB) hpa
    generalize (rankI r c la : Int) = q at *
    have hbb : (q == q) = true := by simp
    clear ha hpa hq hql hsm
    go_enter Try.func8, Try.ntmps8
    go_wp2_with (first
      | ((with_reducible refine gDst 1 ?_); refine aBox H _ rfl rfl rfl ?_; clear H; intro b1 w1 H)
      | ((with_reducible refine gDst 4 ?_); refine aAlloc H rfl rfl ?_; clear H; intro b4 w4 H)
      | ((with_reducible refine gDst 6 ?_); refine aAlloc H rfl rfl ?_; clear H; intro b6 w6 H)
      | ((with_reducible refine gLoad ?_); first | (refine aLoad1 H _ rfl rfl (by first | exact (rfl : _ = some (Value.int _ _)) | exact (rfl : _ = some (Value.slice _ _ _)) | exact (rfl : _ = some (Value.bool _)) | exact (rfl : _ = some (Value.string _)) | exact (rfl : _ = some (Value.pointer _)) | rfl | (simp [List.getElem?_append]; done)) rfl ?_) | (refine aLoadR1 RO H _ rfl rfl (by first | exact (rfl : _ = some (Value.int _ _)) | exact (rfl : _ = some (Value.slice _ _ _)) | exact (rfl : _ = some (Value.bool _)) | exact (rfl : _ = some (Value.string _)) | exact (rfl : _ = some (Value.pointer _)) | rfl | (simp [List.getElem?_append]; done)) rfl ?_) | (refine aLoadC _ rfl rfl (by assumption) rfl ?_) | (refine aLoad H _ rfl rfl (by first | exact part_all (by first | rfl | simp []) | (simp only [List.drop_succ_cons, List.drop_zero, List.take_succ_cons, List.take_zero]; rfl) | (simp [List.drop_append, List.take_append]; rfl)) (by first | rfl | simp []) rfl ?_) | (refine aLoadR RO H _ rfl rfl (by first | exact part_all (by first | rfl | simp []) | (simp only [List.drop_succ_cons, List.drop_zero, List.take_succ_cons, List.take_zero]; rfl) | (simp [List.drop_append, List.take_append]; rfl)) (by first | rfl | simp []) rfl ?_))
      | ((with_reducible refine gStore ?_); (first | (refine aStore H _ _ rfl rfl rfl (by (first | exact ⟨rfl, rfl⟩ | exact ⟨by decide, rfl⟩ | (simp []; done) | (constructor <;> simp [] <;> omega))) (by first | rfl | simp [List.all_append, one_all]) rfl ?_) | (refine aLay H _ _ rfl rfl rfl (by (first | exact ⟨rfl, rfl⟩ | exact ⟨by decide, rfl⟩ | (simp []; done) | (constructor <;> simp [] <;> omega))) (by first | rfl | simp [List.all_append, one_all]) (by simp only [lay, List.take_succ_cons, List.take_zero, List.drop_succ_cons, List.drop_zero, List.nil_append, List.cons_append, List.length_cons, List.length_nil, Nat.zero_add, Nat.reduceAdd]; rfl) rfl ?_)); clear H; intro w' H; try dsimp only at H)
      | ((with_reducible refine gConv ?_); first | (refine aStr H _ rfl rfl rfl ?_) | (refine aStrR RO H _ rfl rfl rfl ?_))
      | (go_at_call 19; (with_reducible refine (cS _).mono ?_); rintro e w' ⟨rfl, hb⟩; replace H := H.step hb; clear hb)
      | (go_at_call 29; (with_reducible refine (HP1.out _ ((H.old RO).rd _)).mono ?_); rintro e w' ⟨A1, cp1, rfl, ho, hb⟩; replace H := H.pushRow hb ho; clear hb ho)
      | (go_at_call 23; (with_reducible refine (cP _).mono ?_); rintro e w' ⟨rfl, hb⟩; replace H := H.step hb; clear hb)
      | (go_at_call 30; (with_reducible refine (HP2.out _ ((H.old RO).rd _)).mono ?_); rintro e w' ⟨A2, cp2, rfl, ho, hb⟩; replace H := H.pushRow hb ho; clear hb ho))
    refine startA (fun i => false) (by kernel_rfl) (fun wS hS => ?_)
    replace H := H.drew
    rw [← hS] at H
    have HH := H.hold
    have HR := H.old RO
    have HS0 : Below wS.heap.size wS wS := Below.refl _ _
    clear hS
    refine stepL 0 rfl (by kernel_rfl) rfl (fun K hK => ?_)
    (go_simp; (with_reducible refine (cL _).mono ?_); rintro e w' ⟨rfl, hb⟩; replace H := H.step hb; replace HS0 := below_two HS0 HS0.size hb; clear hb; refine hK.out _ _ (fun _ _ => HS0) ?_; clear K hK)
    (try simp only [Act.put, List.setIfInBounds_toArray, List.set_cons_zero, List.set_cons_succ])
    refine takeP 1 rfl (by kernel_rfl) (by kernel_rfl) (by kernel_rfl) (by kernel_rfl) (fun _ _ _ h => h) rfl (v := ?_) ?_ ?_
    rotate_left
    · intro w'; go_simp; (try with_reducible rfl)
    (try simp only [Act.put, List.setIfInBounds_toArray, List.set_cons_zero, List.set_cons_succ])
    refine takeL 2 HS0 rfl (by kernel_rfl) (by kernel_rfl) (by kernel_rfl) (by kernel_rfl) (by kernel_rfl) (fun _ _ _ h => h) rfl (v := ?_) ?_ ?_
    rotate_left
    · intro w' hw'; first | (refine Eq.trans (xLoad (HR.below hw') _ rfl rfl (by first | exact part_all (by first | rfl | simp []) | (simp only [List.drop_succ_cons, List.drop_zero, List.take_succ_cons, List.take_zero]; rfl) | (simp [List.drop_append, List.take_append]; rfl)) (by first | rfl | simp [])) ?_; with_reducible rfl) | (refine Eq.trans (xLoad (HH.below hw') _ rfl rfl (by first | exact part_all (by first | rfl | simp []) | (simp only [List.drop_succ_cons, List.drop_zero, List.take_succ_cons, List.take_zero]; rfl) | (simp [List.drop_append, List.take_append]; rfl)) (by first | rfl | simp [])) ?_; with_reducible rfl)
    (try simp only [Act.put, List.setIfInBounds_toArray, List.set_cons_zero, List.set_cons_succ])
    refine takeL 3 HS0 rfl (by kernel_rfl) (by kernel_rfl) (by kernel_rfl) (by kernel_rfl) (by kernel_rfl) (fun _ _ _ h => h) rfl (v := ?_) ?_ ?_
    rotate_left
    · intro w' hw'; first | (refine Eq.trans (xLoad (HR.below hw') _ rfl rfl (by first | exact part_all (by first | rfl | simp []) | (simp only [List.drop_succ_cons, List.drop_zero, List.take_succ_cons, List.take_zero]; rfl) | (simp [List.drop_append, List.take_append]; rfl)) (by first | rfl | simp [])) ?_; with_reducible rfl) | (refine Eq.trans (xLoad (HH.below hw') _ rfl rfl (by first | exact part_all (by first | rfl | simp []) | (simp only [List.drop_succ_cons, List.drop_zero, List.take_succ_cons, List.take_zero]; rfl) | (simp [List.drop_append, List.take_append]; rfl)) (by first | rfl | simp [])) ?_; with_reducible rfl)
    (try simp only [Act.put, List.setIfInBounds_toArray, List.set_cons_zero, List.set_cons_succ])
    refine stepL 4 rfl (by kernel_rfl) rfl (fun K hK => ?_)
    (go_simp; (with_reducible refine (same_true r1 c1 A1 A2 _ _ cp1 cp2 l1 _ (H.hold.rd _) (H.hold.rd _)).mono ?_); rintro e w' ⟨rfl, hb⟩; replace H := H.step hb; replace HS0 := below_two HS0 HS0.size hb; clear hb; refine hK.out _ _ (fun _ _ => HS0) ?_; clear K hK)
    (try simp only [Act.put, List.setIfInBounds_toArray, List.set_cons_zero, List.set_cons_succ])
    refine takeP 5 rfl (by kernel_rfl) (by kernel_rfl) (by kernel_rfl) (by kernel_rfl) (fun _ _ _ h => h) rfl (v := ?_) ?_ ?_
    rotate_left
    · intro w'; go_simp; (try with_reducible rfl)
    (try simp only [Act.put, List.setIfInBounds_toArray, List.set_cons_zero, List.set_cons_succ])
    refine takeP 6 rfl (by kernel_rfl) (by kernel_rfl) (by kernel_rfl) (by kernel_rfl) (fun _ _ _ h => h) rfl (v := ?_) ?_ ?_
    rotate_left
    · intro w'; go_simp; (try with_reducible rfl)
    (try simp only [Act.put, List.setIfInBounds_toArray, List.set_cons_zero, List.set_cons_succ])
    refine takeP 7 rfl (by kernel_rfl) (by kernel_rfl) (by kernel_rfl) (by kernel_rfl) (fun _ _ _ h => h) rfl (v := ?_) ?_ ?_
    rotate_left
    · intro w'; go_simp; (try with_reducible rfl)
    (try simp only [Act.put, List.setIfInBounds_toArray, List.set_cons_zero, List.set_cons_succ])
    refine takeP 8 rfl (by kernel_rfl) (by kernel_rfl) (by kernel_rfl) (by kernel_rfl) (fun _ _ _ h => h) rfl (v := ?_) ?_ ?_
    rotate_left
    · intro w'; go_simp; (try with_reducible rfl)
    (try simp only [Act.put, List.setIfInBounds_toArray, List.set_cons_zero, List.set_cons_succ])
    refine takeP 9 rfl (by kernel_rfl) (by kernel_rfl) (by kernel_rfl) (by kernel_rfl) (fun _ _ _ h => h) rfl (v := ?_) ?_ ?_
    rotate_left
    · intro w'; go_simp; (try with_reducible rfl)
    (try simp only [Act.put, List.setIfInBounds_toArray, List.set_cons_zero, List.set_cons_succ])
    refine takeP 10 rfl (by kernel_rfl) (by kernel_rfl) (by kernel_rfl) (by kernel_rfl) (fun _ _ _ h => h) rfl (v := ?_) ?_ ?_
    rotate_left
    · intro w'; go_simp; (try with_reducible rfl)
    (try simp only [Act.put, List.setIfInBounds_toArray, List.set_cons_zero, List.set_cons_succ])
    refine takeP 11 rfl (by kernel_rfl) (by kernel_rfl) (by kernel_rfl) (by kernel_rfl) (fun _ _ _ h => h) rfl (v := ?_) ?_ ?_
    rotate_left
    · intro w'; go_simp; (try with_reducible rfl)
    (try simp only [Act.put, List.setIfInBounds_toArray, List.set_cons_zero, List.set_cons_succ])
    refine takeL 12 HS0 rfl (by kernel_rfl) (by kernel_rfl) (by kernel_rfl) (by kernel_rfl) (by kernel_rfl) (fun _ _ _ h => h) rfl (v := ?_) ?_ ?_
    rotate_left
    · intro w' hw'; first | (refine Eq.trans (xLoad (HR.below hw') _ rfl rfl (by first | exact part_all (by first | rfl | simp []) | (simp only [List.drop_succ_cons, List.drop_zero, List.take_succ_cons, List.take_zero]; rfl) | (simp [List.drop_append, List.take_append]; rfl)) (by first | rfl | simp [])) ?_; with_reducible rfl) | (refine Eq.trans (xLoad (HH.below hw') _ rfl rfl (by first | exact part_all (by first | rfl | simp []) | (simp only [List.drop_succ_cons, List.drop_zero, List.take_succ_cons, List.take_zero]; rfl) | (simp [List.drop_append, List.take_append]; rfl)) (by first | rfl | simp [])) ?_; with_reducible rfl)
    (try simp only [Act.put, List.setIfInBounds_toArray, List.set_cons_zero, List.set_cons_succ])
    refine takeL 14 HS0 rfl (by kernel_rfl) (by kernel_rfl) (by kernel_rfl) (by kernel_rfl) (by kernel_rfl) (fun _ _ _ h => h) rfl (v := ?_) ?_ ?_
    rotate_left
    · intro w' hw'; first | (refine Eq.trans (xLoad (HR.below hw') _ rfl rfl (by first | exact part_all (by first | rfl | simp []) | (simp only [List.drop_succ_cons, List.drop_zero, List.take_succ_cons, List.take_zero]; rfl) | (simp [List.drop_append, List.take_append]; rfl)) (by first | rfl | simp [])) ?_; with_reducible rfl) | (refine Eq.trans (xLoad (HH.below hw') _ rfl rfl (by first | exact part_all (by first | rfl | simp []) | (simp only [List.drop_succ_cons, List.drop_zero, List.take_succ_cons, List.take_zero]; rfl) | (simp [List.drop_append, List.take_append]; rfl)) (by first | rfl | simp [])) ?_; with_reducible rfl)
    (try simp only [Act.put, List.setIfInBounds_toArray, List.set_cons_zero, List.set_cons_succ])
    refine stepL 13 rfl (by kernel_rfl) rfl (fun K hK => ?_)
    (go_simp; (with_reducible refine (cK1 _ H.below).mono ?_); rintro e w' ⟨rfl, hb⟩; replace H := H.step hb; replace HS0 := below_two HS0 HS0.size hb; clear hb; refine hK.out _ _ (fun _ _ => HS0) ?_; clear K hK)
    (try simp only [Act.put, List.setIfInBounds_toArray, List.set_cons_zero, List.set_cons_succ])
    refine stepL 15 rfl (by kernel_rfl) rfl (fun K hK => ?_)
    (go_simp; (with_reducible refine (cP _).mono ?_); rintro e w' ⟨rfl, hb⟩; replace H := H.step hb; replace HS0 := below_two HS0 HS0.size hb; clear hb; refine hK.out _ _ (fun _ _ => HS0) ?_; clear K hK)
    (try simp only [Act.put, List.setIfInBounds_toArray, List.set_cons_zero, List.set_cons_succ])
    refine stepL 16 rfl (by kernel_rfl) rfl (fun K hK => ?_)
    (go_simp; (with_reducible refine (cK2 _ H.below).mono ?_); rintro e w' ⟨rfl, hb⟩; replace H := H.step hb; replace HS0 := below_two HS0 HS0.size hb; clear hb; refine hK.out _ _ (fun _ _ => HS0) ?_; clear K hK)
    (try simp only [Act.put, List.setIfInBounds_toArray, List.set_cons_zero, List.set_cons_succ])
    refine takeP 17 rfl (by kernel_rfl) (by kernel_rfl) (by kernel_rfl) (by kernel_rfl) (fun _ _ _ h => h) rfl (v := ?_) ?_ ?_
    rotate_left
    · intro w'; go_simp; (try with_reducible rfl)
    (try simp only [Act.put, List.setIfInBounds_toArray, List.set_cons_zero, List.set_cons_succ])
    refine takeP 18 rfl (by kernel_rfl) (by kernel_rfl) (by kernel_rfl) (by kernel_rfl) (fun _ _ _ h => h) rfl (v := ?_) ?_ ?_
    rotate_left
    · intro w'; go_simp; (try with_reducible rfl)
    (try simp only [Act.put, List.setIfInBounds_toArray, List.set_cons_zero, List.set_cons_succ])
    refine takeP 19 rfl (by kernel_rfl) (by kernel_rfl) (by kernel_rfl) (by kernel_rfl) (fun _ _ _ h => h) rfl (v := ?_) ?_ ?_
    rotate_left
    · intro w'; go_simp; (try with_reducible rfl)
    (try simp only [Act.put, List.setIfInBounds_toArray, List.set_cons_zero, List.set_cons_succ])
    refine takeP 20 rfl (by kernel_rfl) (by kernel_rfl) (by kernel_rfl) (by kernel_rfl) (fun _ _ _ h => h) rfl (v := ?_) ?_ ?_
    rotate_left
    · intro w'; go_simp; (try with_reducible rfl)
    (try simp only [Act.put, List.setIfInBounds_toArray, List.set_cons_zero, List.set_cons_succ])
    refine takeP 21 rfl (by kernel_rfl) (by kernel_rfl) (by kernel_rfl) (by kernel_rfl) (fun _ _ _ h => h) rfl (v := ?_) ?_ ?_
    rotate_left
    · intro w'; go_simp; (try with_reducible rfl)
    (try simp only [Act.put, List.setIfInBounds_toArray, List.set_cons_zero, List.set_cons_succ])
    refine takeL 22 HS0 rfl (by kernel_rfl) (by kernel_rfl) (by kernel_rfl) (by kernel_rfl) (by kernel_rfl) (fun _ _ _ h => h) rfl (v := ?_) ?_ ?_
    rotate_left
    · intro w' hw'; first | (refine Eq.trans (xLoad1 (HR.below hw') _ rfl rfl (by first | exact (rfl : _ = some (Value.int _ _)) | exact (rfl : _ = some (Value.slice _ _ _)) | exact (rfl : _ = some (Value.bool _)) | exact (rfl : _ = some (Value.string _)) | exact (rfl : _ = some (Value.pointer _)) | rfl | (simp [List.getElem?_append]; done))) ?_; with_reducible rfl) | (refine Eq.trans (xLoad1 (HH.below hw') _ rfl rfl (by first | exact (rfl : _ = some (Value.int _ _)) | exact (rfl : _ = some (Value.slice _ _ _)) | exact (rfl : _ = some (Value.bool _)) | exact (rfl : _ = some (Value.string _)) | exact (rfl : _ = some (Value.pointer _)) | rfl | (simp [List.getElem?_append]; done))) ?_; with_reducible rfl) | (refine Eq.trans (xLoadC _ rfl rfl (cell_below hw' (by assumption))) ?_; with_reducible rfl)
    (try simp only [Act.put, List.setIfInBounds_toArray, List.set_cons_zero, List.set_cons_succ])
    refine takeL 23 HS0 rfl (by kernel_rfl) (by kernel_rfl) (by kernel_rfl) (by kernel_rfl) (by kernel_rfl) (fun _ _ _ h => h) rfl (v := ?_) ?_ ?_
    rotate_left
    · intro w' hw'; first | (refine Eq.trans (xStr _ rfl rfl (HR.below hw')) ?_; with_reducible rfl) | (refine Eq.trans (xStr _ rfl rfl (HH.below hw')) ?_; with_reducible rfl)
    (try simp only [Act.put, List.setIfInBounds_toArray, List.set_cons_zero, List.set_cons_succ])
    refine takeP 24 rfl (by kernel_rfl) (by kernel_rfl) (by kernel_rfl) (by kernel_rfl) (fun _ _ _ h => h) rfl (v := ?_) ?_ ?_
    rotate_left
    · intro w'; go_simp; (try with_reducible rfl)
    (try simp only [Act.put, List.setIfInBounds_toArray, List.set_cons_zero, List.set_cons_succ])
    refine takeP 25 rfl (by kernel_rfl) (by kernel_rfl) (by kernel_rfl) (by kernel_rfl) (fun _ _ _ h => h) rfl (v := ?_) ?_ ?_
    rotate_left
    · intro w'; go_simp; (try with_reducible rfl)
    (try simp only [Act.put, List.setIfInBounds_toArray, List.set_cons_zero, List.set_cons_succ])
    refine takeP 26 rfl (by kernel_rfl) (by kernel_rfl) (by kernel_rfl) (by kernel_rfl) (fun _ _ _ h => h) rfl (v := ?_) ?_ ?_
    rotate_left
    · intro w'; go_simp; (try with_reducible rfl)
    (try simp only [Act.put, List.setIfInBounds_toArray, List.set_cons_zero, List.set_cons_succ])
    refine doneL (by kernel_rfl) ?_
    go_wp2
    go_ret
    exact ⟨rfl, H.below⟩
end Go.Proofs.Ytfnneneaalaagaa

namespace Go.Proofs.Ytfnneneaalaagaa
set_option maxRecDepth 100000
open Go.RowKit
set_option linter.unusedSimpArgs false
set_option linter.unusedVariables false

theorem cnt_full {p : Nat → Prop} : ∀ {k : Nat}, (∀ c, c < k → ¬ p c) → cnt p k = k
  | 0, _ => rfl
  | k + 1, h => by rw [cnt, cnt_full (fun c hc => h c (by omega)), if_neg (h k (by omega))]
/-- M times x. -/
def app (n : Nat) (M : Nat → Nat → UInt8) (x : Nat → UInt8) (i : Nat) : UInt8 := sumX n fun j => fmul (M i j) (x j)
def mulM (n : Nat) (M N : Nat → Nat → UInt8) (i k : Nat) : UInt8 := sumX n fun j => fmul (M i j) (N j k)
theorem app_congr {n : Nat} {M M' : Nat → Nat → UInt8} {x x' : Nat → UInt8} {i : Nat} (hM : ∀ j, j < n → M i j = M' i j) (hx : ∀ j, j < n → x j = x' j) : app n M x i = app n M' x' i :=
  sumX_congr fun j hj => by rw [hM j hj, hx j hj]
theorem app_mul (n : Nat) (M N : Nat → Nat → UInt8) (x : Nat → UInt8) (i : Nat) : app n (mulM n M N) x i = app n M (app n N x) i := by
  unfold app mulM
  have e1 : ∀ k, fmul (sumX n fun j => fmul (M i j) (N j k)) (x k) = sumX n fun j => fmul (fmul (M i j) (N j k)) (x k) := fun k => (sumX_mul n (x k) _).symm
  have e2 : ∀ j, fmul (M i j) (sumX n fun k => fmul (N j k) (x k)) = sumX n fun k => fmul (M i j) (fmul (N j k) (x k)) := fun j => (sumX_mul' n (M i j) _).symm
  rw [sumX_congr (fun k _ => e1 k), sumX_comm, sumX_congr (fun j _ => e2 j)]
  exact sumX_congr fun j _ => sumX_congr fun k _ => fmul_assoc _ _ _
theorem Undo.app_right {n : Nat} {M B : Nat → Nat → UInt8} (h : Undo n M B) (y : Nat → UInt8) (i : Nat) (hi : i < n) : app n M (app n B y) i = y i := h.right y i hi
theorem Undo.app_left {n : Nat} {M B : Nat → Nat → UInt8} (h : Undo n M B) (x : Nat → UInt8) (i : Nat) (hi : i < n) : app n B (app n M x) i = x i := h.left x i hi
theorem Undo.mul {n : Nat} {A X B Y : Nat → Nat → UInt8} (h : Undo n A X) (k : Undo n B Y) : Undo n (mulM n A B) (mulM n Y X) := by
  refine ⟨fun y i hi => ?_, fun x i hi => ?_⟩
  · show app n (mulM n A B) (app n (mulM n Y X) y) i = y i
    rw [app_mul, ← h.app_right y i hi]
    refine app_congr (fun _ _ => rfl) fun j hj => ?_
    rw [← k.app_right (app n X y) j hj]
    exact app_congr (fun _ _ => rfl) fun l _ => app_mul n Y X y l
  · show app n (mulM n Y X) (app n (mulM n A B) x) i = x i
    rw [app_mul, ← k.app_left x i hi]
    refine app_congr (fun _ _ => rfl) fun j hj => ?_
    rw [← h.app_left (app n B x) j hj]
    exact app_congr (fun _ _ => rfl) fun l _ => app_mul n A B x l
theorem Undo.congr {n : Nat} {M M' B B' : Nat → Nat → UInt8} (h : Undo n M B) (hM : ∀ i j, i < n → j < n → M' i j = M i j) (hB : ∀ i j, i < n → j < n → B' i j = B i j) : Undo n M' B' := by
  refine ⟨fun y i hi => ?_, fun x i hi => ?_⟩
  · rw [← h.right y i hi]
    exact sumX_congr fun j hj => by rw [hM i j hi hj, sumX_congr fun k hk => by rw [hB j k hj hk]]
  · rw [← h.left x i hi]
    exact sumX_congr fun j hj => by rw [hB i j hi hj, sumX_congr fun k hk => by rw [hM j k hj hk]]
theorem Undo.one {n : Nat} {M B : Nat → Nat → UInt8} (h : Undo n M B) (i j : Nat) (hi : i < n) (hj : j < n) : mulM n M B i j = unitF i j ∧ mulM n B M i j = unitF i j := by
  have one : ∀ (C : Nat → Nat → UInt8) l, (sumX n fun k => fmul (C l k) (if k = j then 1 else 0)) = C l j := fun C l => by
    rw [sumX_one n j _ hj (fun k _ hne => by rw [if_neg hne, fmul_zero]), if_pos rfl, fmul_one]
  have h1 := h.right (fun k => if k = j then 1 else 0) i hi
  have h2 := h.left (fun k => if k = j then 1 else 0) i hi
  rw [sumX_congr (g := fun k => fmul (M i k) (B k j)) (fun k _ => by rw [one B k])] at h1
  rw [sumX_congr (g := fun k => fmul (B i k) (M k j)) (fun k _ => by rw [one M k])] at h2
  exact ⟨h1, h2⟩
/-- What nothing but 0 is taken to 0 by, is undone. -/
theorem full_run (l : List UInt8) (n : Nat) (h : ∀ v : Nat → UInt8, (∀ i, i < n → app n (elF l n) v i = 0) → ∀ i, i < n → v i = 0) : ¬ (clr n (n + n) (wideM l n (n + n)) n).2 < n := by
  rw [clr_run]
  have e := (run_wide nzI picks_nz l n).1.steps.2.2
  rw [cnt_full] at e
  · omega
  · rintro c hc ⟨v, h1, h2, h3⟩
    have k1 : Ker n (n + n) (wideF n (elF l n)) v := (Ker.congr (fun i j hi hj => wide_fe l n i j hi hj) v).1 h3
    have k2 := (wide_ker v (fun j hj => h2 j (by omega))).1 k1
    have := h v (fun i hi => k2 i hi) c hc
    rw [h1] at this
    exact absurd this (by decide)
theorem Undo.full {l : List UInt8} {n : Nat} {B : Nat → Nat → UInt8} (h : Undo n (elF l n) B) : ¬ (clr n (n + n) (wideM l n (n + n)) n).2 < n :=
  full_run l n fun v hv i hi => by
    rw [← h.app_left v i hi]
    exact sumX_none n _ fun j hj => by rw [hv j hj, fmul_zero]
theorem rowsL_fe (l : List UInt8) (n i j : Nat) (hl : l.length = n * n) (hi : i < n) (hj : j < n) : fe (rowsL l n n) i j = elF l n i j := by
  have hM := (rowsL_mat l n n hl).1
  rw [← mat_at hM hi hj, (rowsL_mat l n n hl).2, elF]
/-- The rank is the number of the rows just if the matrix is undone. -/
theorem rank_wide (l : List UInt8) (n : Nat) (hl : l.length = n * n) : (clr n n (rowsL l n n) n).2 = (clr n (n + n) (wideM l n (n + n)) n).2 := by
  rw [clr_run, clr_run]
  refine ((runG_mat picks_nz (rowsL_mat l n n hl).1 n (Nat.le_refl _)).2.2).same (run_wide nzI picks_nz l n).1 fun v hv => ?_
  exact (Ker.congr (fun i j hi hj => rowsL_fe l n i j hl hi hj) v).trans ((wide_ker v hv).symm.trans (Ker.congr (fun i j hi hj => wide_fe l n i j hi hj) v).symm)
theorem el_fill (n : Nat) (f : Nat → Nat → UInt8) (i j : Nat) (hi : i < n) (hj : j < n) : elF (fillL n n f) n i j = f i j := fillL_get n n f i j hi hj
theorem mulE_el (la lb : List UInt8) (n i j : Nat) : mulE la n lb n i j = mulM n (elF la n) (elF lb n) i j := rfl
/-- What the program's inverse tells of a matrix that may be. -/
theorem invT_cases (l : List UInt8) (n : Nat) (hl : l.length = n * n) :
    (invT (clr n (n + n) (wideM l n (n + n)) n) n = (0, 0, [], 5) ∧ (clr n n (rowsL l n n) n).2 ≠ n) ∨
    (∃ B, invT (clr n (n + n) (wideM l n (n + n)) n) n = ((n : Int), (n : Int), fillL n n B, (0 : Int)) ∧ Undo n (elF l n) B ∧ (clr n n (rowsL l n n) n).2 = n) := by
  rw [rank_wide l n hl]
  have h2 := (run_wide nzI picks_nz l n).2
  rw [← clr_run] at h2
  by_cases h : (clr n (n + n) (wideM l n (n + n)) n).2 < n
  · left
    rw [invT, if_pos h]
    exact ⟨rfl, by omega⟩
  · right
    refine ⟨fun i j => fe (clr n (n + n) (wideM l n (n + n)) n).1 i (n + j), by rw [invT, if_neg h], ?_, by omega⟩
    rw [clr_run] at h ⊢
    exact run_undo picks_nz l n h
end Go.Proofs.Ytfnneneaalaagaa

namespace Go.Proofs.Ytfnneneaalaagaa
set_option maxRecDepth 100000
set_option linter.unusedSimpArgs false
set_option linter.unusedVariables false

def sumL : List UInt8 → (UInt8 → UInt8) → UInt8
  | [], _ => 0
  | y :: l, f => f y ^^^ sumL l f
theorem sumL_congr {l : List UInt8} {f g : UInt8 → UInt8} (h : ∀ y ∈ l, f y = g y) : sumL l f = sumL l g := by
  induction l with
  | nil => rfl
  | cons y l ih => rw [sumL, sumL, h y (by simp), ih fun z hz => h z (by simp [hz])]
theorem sumL_add (l : List UInt8) (f g : UInt8 → UInt8) : sumL l (fun y => f y ^^^ g y) = sumL l f ^^^ sumL l g := by
  induction l with
  | nil => simp [sumL]
  | cons y l ih => rw [sumL, sumL, sumL, ih, xor4]
theorem sumL_mul (l : List UInt8) (c : UInt8) (f : UInt8 → UInt8) : sumL l (fun y => fmul (f y) c) = fmul (sumL l f) c := by
  induction l with
  | nil => rw [sumL, sumL, zero_fmul]
  | cons y l ih => rw [sumL, sumL, ih, xor_fmul]
theorem sumL_zero (l : List UInt8) (f : UInt8 → UInt8) (h : ∀ y ∈ l, f y = 0) : sumL l f = 0 := by
  induction l with
  | nil => rfl
  | cons y l ih => rw [sumL, h y (by simp), ih fun z hz => h z (by simp [hz])]; rfl
theorem xor_ne0 {a b : UInt8} (h : a ≠ b) : a ^^^ b ≠ 0 := fun e => h (xor_eq0 e)
/-- 1/(x+y) of two x: their sum. -/
theorem inv_sum {x z y : UInt8} (hx : x ≠ y) (hz : z ≠ y) : finv (x ^^^ y) ^^^ finv (z ^^^ y) = fmul (x ^^^ z) (fmul (finv (z ^^^ y)) (finv (x ^^^ y))) := by
  have e : x ^^^ z = (z ^^^ y) ^^^ (x ^^^ y) := by rw [UInt8.xor_comm z y, UInt8.xor_comm x y, xor4, UInt8.xor_self, UInt8.zero_xor, UInt8.xor_comm]
  rw [e, xor_fmul, ← fmul_assoc, fmul_finv _ (xor_ne0 hz), one_fmul, fmul_comm (finv (z ^^^ y)), ← fmul_assoc, fmul_finv _ (xor_ne0 hx), one_fmul]
theorem times_inv {x y y0 : UInt8} (hx : x ≠ y) : fmul (x ^^^ y0) (finv (x ^^^ y)) = 1 ^^^ fmul (y ^^^ y0) (finv (x ^^^ y)) := by
  have e : x ^^^ y0 = (x ^^^ y) ^^^ (y ^^^ y0) := by rw [UInt8.xor_assoc, ← UInt8.xor_assoc y, UInt8.xor_self, UInt8.zero_xor]
  rw [e, xor_fmul, fmul_finv _ (xor_ne0 hx)]
theorem cauchy : ∀ (ys xs : List UInt8), ys.length ≤ xs.length → ys.Nodup → xs.Nodup → (∀ x ∈ xs, ∀ y ∈ ys, x ≠ y) → ∀ v : UInt8 → UInt8, (∀ x ∈ xs, sumL ys (fun y => fmul (v y) (finv (x ^^^ y))) = 0) → ∀ y ∈ ys, v y = 0
  | [], _, _, _, _, _, _, _ => fun y hy => by cases hy
  | y0 :: ys, [], h, _, _, _, _, _ => by simp at h
  | y0 :: ys, x0 :: xs, hl, hy, hx, hd, v, he => by
    rw [List.nodup_cons] at hy hx
    -- what stands over y0's place, for each x: the same
    have key : ∀ x ∈ x0 :: xs, sumL ys (fun y => fmul (fmul (v y) (y ^^^ y0)) (finv (x ^^^ y))) = v y0 ^^^ sumL ys v := fun x hxm => by
      have e := he x hxm
      rw [sumL] at e
      have hne : x ≠ y0 := hd x hxm y0 (by simp)
      have e2 : fmul (fmul (v y0) (finv (x ^^^ y0)) ^^^ sumL ys fun y => fmul (v y) (finv (x ^^^ y))) (x ^^^ y0) = 0 := by rw [e, zero_fmul]
      rw [xor_fmul, fmul_assoc, finv_fmul _ (xor_ne0 hne), fmul_one, ← sumL_mul] at e2
      have e3 : sumL ys (fun y => fmul (fmul (v y) (finv (x ^^^ y))) (x ^^^ y0)) = sumL ys v ^^^ sumL ys (fun y => fmul (fmul (v y) (y ^^^ y0)) (finv (x ^^^ y))) := by
        rw [← sumL_add]
        refine sumL_congr fun y hym => ?_
        rw [fmul_assoc, fmul_comm (finv _), times_inv (hd x hxm y (by simp [hym])), fmul_xor, fmul_one, fmul_assoc]
      rw [e3, ← UInt8.xor_assoc] at e2
      exact (xor_eq0 e2).symm
    have hz : ∀ y ∈ ys, v y = 0 := by
      have ih := cauchy ys xs (by simpa using hl) hy.2 hx.2 (fun x h1 y h2 => hd x (by simp [h1]) y (by simp [h2])) (fun y => fmul (fmul (v y) (y ^^^ y0)) (finv (x0 ^^^ y))) fun x hxm => by
        have k1 := key x (by simp [hxm])
        have k0 := key x0 (by simp)
        have hne : x ≠ x0 := fun e => hx.1 (by rw [← e]; exact hxm)
        have e4 : sumL ys (fun y => fmul (fmul (fmul (fmul (v y) (y ^^^ y0)) (finv (x0 ^^^ y))) (finv (x ^^^ y))) (x ^^^ x0)) = 0 := by
          have e5 : sumL ys (fun y => fmul (fmul (v y) (y ^^^ y0)) (finv (x ^^^ y))) ^^^ sumL ys (fun y => fmul (fmul (v y) (y ^^^ y0)) (finv (x0 ^^^ y))) = 0 := by rw [k1, k0, UInt8.xor_self]
          rw [← sumL_add] at e5
          rw [← e5]
          refine sumL_congr fun y hym => ?_
          rw [← fmul_xor, inv_sum (hd x (by simp [hxm]) y (by simp [hym])) (hd x0 (by simp) y (by simp [hym])), fmul_assoc (fmul (v y) (y ^^^ y0)), fmul_assoc (fmul (v y) (y ^^^ y0)), fmul_comm (fmul (finv (x0 ^^^ y)) (finv (x ^^^ y)))]
        rw [sumL_mul, fmul_eq_zero] at e4
        exact e4.resolve_right (xor_ne0 hne)
      intro y hym
      have h1 := ih y hym
      rw [fmul_eq_zero, fmul_eq_zero] at h1
      rcases h1 with (h1 | h1) | h1
      · exact h1
      · exact absurd h1 (xor_ne0 fun e => hy.1 (by rw [← e]; exact hym))
      · exact absurd h1 (finv_ne _ (xor_ne0 (hd x0 (by simp) y (by simp [hym]))))
    intro y hym
    rcases List.mem_cons.mp hym with rfl | hym
    · have e := he x0 (by simp)
      rw [sumL, sumL_zero ys _ (fun z hzm => by rw [hz z hzm, zero_fmul])] at e
      have e2 : fmul (v y) (finv (x0 ^^^ y)) = 0 := by simpa using e
      rw [fmul_eq_zero] at e2
      exact e2.resolve_right (finv_ne _ (xor_ne0 (hd x0 (by simp) y (by simp))))
    · exact hz y hym
/-- Of a list none of which is twice, all in another one: it is no longer. -/
theorem nodup_le : ∀ {xs ys : List Nat}, xs.Nodup → (∀ x ∈ xs, x ∈ ys) → xs.length ≤ ys.length
  | [], _, _, _ => Nat.zero_le _
  | x :: xs, ys, h, hs => by
    rw [List.nodup_cons] at h
    have hx := hs x (by simp)
    have h1 := nodup_le (xs := xs) (ys := ys.erase x) h.2 fun z hz => (List.mem_erase_of_ne (fun e => h.1 (by rw [← e]; exact hz))).2 (hs z (by simp [hz]))
    rw [List.length_erase_of_mem hx] at h1
    have := List.length_pos_of_mem hx
    rw [List.length_cons]; omega
theorem filter_len {α : Type} (q : α → Bool) : ∀ l : List α, l.length = (l.filter q).length + (l.filter (fun x => !q x)).length
  | [] => rfl
  | x :: l => by
    have ih := filter_len q l
    rw [List.filter_cons, List.filter_cons]
    cases q x <;> simp <;> omega
theorem unused {ats : List Nat} {n : Nat} (h : ats.length < n) : ∃ b, b < n ∧ b ∉ ats := by
  refine Classical.byContradiction fun hc => ?_
  have : (List.range n).length ≤ ats.length := nodup_le List.nodup_range fun x hx => Classical.byContradiction fun hx2 => hc ⟨x, List.mem_range.1 hx, hx2⟩
  rw [List.length_range] at this
  omega
theorem ofNat_inj {a b : Nat} (ha : a < 256) (hb : b < 256) (h : UInt8.ofNat a = UInt8.ofNat b) : a = b := by
  have := congrArg UInt8.toNat h
  rwa [UInt8.toNat_ofNat', UInt8.toNat_ofNat', Nat.mod_eq_of_lt (by omega), Nat.mod_eq_of_lt (by omega)] at this
theorem ofNat_xor (a b : Nat) : UInt8.ofNat (a ^^^ b) = UInt8.ofNat a ^^^ UInt8.ofNat b := by
  apply UInt8.toNat_inj.mp
  rw [UInt8.toNat_xor, UInt8.toNat_ofNat', UInt8.toNat_ofNat', UInt8.toNat_ofNat', Nat.xor_mod_two_pow]
theorem sumX_filter (q : Nat → Bool) (f : Nat → UInt8) : ∀ k, k ≤ 256 → (∀ j, j < k → q j = false → f j = 0) → sumX k f = sumL (((List.range k).filter q).map UInt8.ofNat) (fun y => f y.toNat)
  | 0, _, _ => rfl
  | k + 1, hk, h => by
    have snoc : ∀ (l : List UInt8) (y : UInt8) (g : UInt8 → UInt8), sumL (l ++ [y]) g = sumL l g ^^^ g y := fun l y g => by
      induction l with
      | nil => simp [sumL]
      | cons z l ih => rw [List.cons_append, sumL, sumL, ih, UInt8.xor_assoc]
    rw [sumX, sumX_filter q f k (by omega) (fun j hj => h j (by omega)), List.range_succ, List.filter_append, List.map_append]
    cases hq : q k with
    | true =>
      rw [List.filter_cons, hq]
      simp only [if_true, List.filter_nil, List.map_cons, List.map_nil]
      rw [snoc, UInt8.toNat_ofNat', Nat.mod_eq_of_lt (by omega)]
    | false =>
      rw [List.filter_cons, hq, h k (by omega) hq]
      simp
theorem nodup_map_ofNat {l : List Nat} (h : l.Nodup) (hl : ∀ x ∈ l, x < 256) : (l.map UInt8.ofNat).Nodup := by
  induction l with
  | nil => simp
  | cons x l ih =>
    rw [List.nodup_cons] at h
    rw [List.map_cons, List.nodup_cons]
    refine ⟨fun hm => ?_, ih h.2 fun z hz => hl z (by simp [hz])⟩
    obtain ⟨z, hz, e⟩ := List.mem_map.1 hm
    have := ofNat_inj (hl z (by simp [hz])) (hl x (by simp)) e
    exact h.1 (by rw [← this]; exact hz)
/-- Any k rows of a code, no two the same. -/
theorem code_ker (k : Nat) (ats : List Nat) (hk : k ≤ 32) (hlen : ats.length = k) (hnd : ats.Nodup) (hlt : ∀ a ∈ ats, a < 32) (v : Nat → UInt8)
    (h : ∀ a ∈ ats, (sumX k fun j => fmul (codeF k a j) (v j)) = 0) : ∀ j, j < k → v j = 0 := by
  have h1 : ∀ a ∈ ats, a < k → v a = 0 := fun a ha hak => by
    have := h a ha
    rw [sumX_one k a _ hak (fun j hj hne => by rw [codeF, if_pos hak, unitF, if_neg (Ne.symm hne), zero_fmul]), codeF, if_pos hak, unitF, if_pos rfl, one_fmul] at this
    exact this
  let q : Nat → Bool := fun j => decide (j ∉ ats)
  have hq : ∀ j, q j = true ↔ j ∉ ats := fun j => by simp [q]
  have hqf : ∀ j, q j = false ↔ j ∈ ats := fun j => by simp [q]
  -- the places that no row names, and the rows that name no place
  have lens : ((List.range k).filter q).length ≤ (ats.filter (fun a => decide (k ≤ a))).length := by
    have e1 : (List.range k).length = ((List.range k).filter q).length + ((List.range k).filter (fun j => !q j)).length := filter_len q _
    have e2 : ats.length = (ats.filter (fun a => decide (k ≤ a))).length + (ats.filter (fun a => !decide (k ≤ a))).length := filter_len _ _
    have e3 : (ats.filter (fun a => !decide (k ≤ a))).length ≤ ((List.range k).filter (fun j => !q j)).length := by
      refine nodup_le (hnd.sublist (List.filter_sublist)) fun x hx => ?_
      rw [List.mem_filter] at hx ⊢
      obtain ⟨hx1, hx2⟩ := hx
      have hx3 : x < k := by simp at hx2; omega
      exact ⟨List.mem_range.2 hx3, by rw [(hqf x).2 hx1]; rfl⟩
    rw [List.length_range] at e1
    omega
  intro j hj
  by_cases hja : j ∈ ats
  · exact h1 j hja hj
  · have hc := cauchy (((List.range k).filter q).map UInt8.ofNat) ((ats.filter (fun a => decide (k ≤ a))).map UInt8.ofNat) (by rw [List.length_map, List.length_map]; exact lens)
      (nodup_map_ofNat (List.nodup_range.sublist List.filter_sublist) fun x hx => by have := List.mem_range.1 (List.mem_filter.1 hx).1; omega)
      (nodup_map_ofNat (hnd.sublist List.filter_sublist) fun x hx => by have := hlt x ((List.mem_filter.1 hx).1); omega)
      (fun x hx y hy => by
        obtain ⟨a, ha, rfl⟩ := List.mem_map.1 hx
        obtain ⟨b, hb, rfl⟩ := List.mem_map.1 hy
        have ha2 := hlt a ((List.mem_filter.1 ha).1)
        have ha3 : k ≤ a := by have := (List.mem_filter.1 ha).2; simpa using this
        have hb2 := List.mem_range.1 ((List.mem_filter.1 hb).1)
        exact fun e => by have := ofNat_inj (by omega) (by omega) e; omega)
      (fun y => v y.toNat) (fun x hx => by
        obtain ⟨a, ha, rfl⟩ := List.mem_map.1 hx
        have ha2 := hlt a ((List.mem_filter.1 ha).1)
        have ha3 : k ≤ a := by have := (List.mem_filter.1 ha).2; simpa using this
        have e := h a ((List.mem_filter.1 ha).1)
        rw [sumX_filter q _ k (by omega) (fun j hj hqj => by rw [h1 j ((hqf j).1 hqj) hj, fmul_zero])] at e
        rw [← e]
        refine sumL_congr fun y hy => ?_
        obtain ⟨b, hb, rfl⟩ := List.mem_map.1 hy
        have hb2 := List.mem_range.1 ((List.mem_filter.1 hb).1)
        rw [UInt8.toNat_ofNat', Nat.mod_eq_of_lt (by omega), codeF, if_neg (by omega), finv0_eq, ofNat_xor, fmul_comm])
      (UInt8.ofNat j) (List.mem_map.2 ⟨j, List.mem_filter.2 ⟨List.mem_range.2 hj, (hq j).2 hja⟩, rfl⟩)
    rw [UInt8.toNat_ofNat', Nat.mod_eq_of_lt (by omega)] at hc
    exact hc
end Go.Proofs.Ytfnneneaalaagaa

namespace Go.Proofs.Ytfnneneaalaagaa
set_option maxRecDepth 100000
open Go.RowKit
set_option linter.unusedSimpArgs false
set_option linter.unusedVariables false

set_option maxHeartbeats 1600000 in
set_option maxRecDepth 100000 in
theorem rApply_of (r c : Int) (n : Nat) (A A2 : Option Addr) (cp n2 cp2 : Nat) (w : World) (r' c' : Int) (l' : List UInt8) (E : Int)
    (hM : ∀ W, Below w.heap.size w W → Calls Try.prog 34 #[.agg (rxT.enc (r, c, A, n, cp)).toArray, .agg (rxT.enc ((n2 : Int), 1, A2, n2, cp2)).toArray] W fun e w' => GivesP rxT W r' c' l' E e w') :
    Calls Try.prog 36 #[.agg (rxT.enc (r, c, A, n, cp)).toArray, .slice A2 n2 cp2] w fun e w' => GivesV w l' E e w' := by
  have H := SH.start Nil w
  have cM : ∀ W, Below w.heap.size w W → Calls Try.prog 34 #[.agg (rxT.enc (r, c, A, n, cp)).toArray, .agg #[.int .i64 (n2 : Int), .int .i64 1, .slice A2 n2 cp2]] W fun e w' => GivesP rxT W r' c' l' E e w' := hM
  clear hM
  go_enter Try.func36, Try.ntmps36
  go_wp2_with (first
    | ((with_reducible refine gDst 2 ?_); refine aBox H _ rfl rfl rfl ?_; clear H; intro b2 w2 H)
    | ((with_reducible refine gDst 6 ?_); refine aAlloc H rfl rfl ?_; clear H; intro b6 w6 H)
    | ((with_reducible refine gLoad ?_); first | (refine aLoad1 H _ rfl rfl (by first | exact (rfl : _ = some (Value.int _ _)) | exact (rfl : _ = some (Value.slice _ _ _)) | exact (rfl : _ = some (Value.bool _)) | exact (rfl : _ = some (Value.string _)) | exact (rfl : _ = some (Value.pointer _)) | rfl | (simp [List.getElem?_append]; done)) rfl ?_) | (refine aLoadC _ rfl rfl (by assumption) rfl ?_) | (refine aLoad H _ rfl rfl (by first | exact part_all (by first | rfl | simp []) | (simp only [List.drop_succ_cons, List.drop_zero, List.take_succ_cons, List.take_zero]; rfl) | (simp [List.drop_append, List.take_append]; rfl)) (by first | rfl | simp []) rfl ?_))
    | ((with_reducible refine gStore ?_); (first | (refine aStore H _ _ rfl rfl rfl (by (first | exact ⟨rfl, rfl⟩ | exact ⟨by decide, rfl⟩ | (simp []; done) | (constructor <;> simp [] <;> omega))) (by first | rfl | simp [List.all_append, one_all]) rfl ?_) | (refine aLay H _ _ rfl rfl rfl (by (first | exact ⟨rfl, rfl⟩ | exact ⟨by decide, rfl⟩ | (simp []; done) | (constructor <;> simp [] <;> omega))) (by first | rfl | simp [List.all_append, one_all]) (by simp only [lay, List.take_succ_cons, List.take_zero, List.drop_succ_cons, List.drop_zero, List.nil_append, List.cons_append, List.length_cons, List.length_nil, Nat.zero_add, Nat.reduceAdd]; rfl) rfl ?_)); clear H; intro w' H; try dsimp only at H)
    | (go_at_call 34; (with_reducible refine (cM _ H.below).mono ?_); rintro e w' ⟨A5, cp5, rfl, ho, hb⟩; replace H := H.pushRow hb ho; clear hb ho))
  go_ret2
  exact ⟨A5, cp5, rfl, H.ow _, H.below⟩
/-- Both products tell the same. -/
theorem Mul_pair (la lb : List UInt8) (ra ca rb cb : Int) (Aa Ab : Option Addr) (pa pb : Nat) (hpa : la.length ≤ pa) (hpb : lb.length ≤ pb) : ∃ r c l E,
    (∀ w, RB w (.slice Aa la.length pa) la → RB w (.slice Ab lb.length pb) lb → Calls Try.prog 33 #[.agg (mxT.enc (ra, ca, Aa, la.length, pa)).toArray, .agg (mxT.enc (rb, cb, Ab, lb.length, pb)).toArray] w fun e w' => GivesP mxT w r c l E e w') ∧
    (∀ w, RB w (.slice Aa la.length pa) la → RB w (.slice Ab lb.length pb) lb → Calls Try.prog 34 #[.agg (rxT.enc (ra, ca, Aa, la.length, pa)).toArray, .agg (rxT.enc (rb, cb, Ab, lb.length, pb)).toArray] w fun e w' => GivesP rxT w r c l E e w') := by
  by_cases hbad : mulBad ra ca la.length rb cb lb.length
  · exact ⟨0, 0, [], 1, fun w _ _ => Mul_bad _ _ _ _ _ _ _ _ _ _ w hbad, fun w _ _ => rMul_bad _ _ _ _ _ _ _ _ _ _ w hbad⟩
  · unfold mulBad at hbad
    cases h1 : mayB ra ca la.length with
    | false => exact absurd (Or.inl h1) hbad
    | true =>
      cases h2 : mayB rb cb lb.length with
      | false => exact absurd (Or.inr (Or.inl ⟨h1, h2⟩)) hbad
      | true =>
        cases h3 : (ca == rb) with
        | false => exact absurd (Or.inr (Or.inr ⟨h1, h2, h3⟩)) hbad
        | true =>
          obtain rfl := beq_iff_eq.1 h3
          obtain ⟨a, b, rfl, rfl, _⟩ := mayB_ok h1
          obtain ⟨a', b', e1, rfl, _⟩ := mayB_ok h2
          exact ⟨a, b', _, 0, fun w ha hb => Mul_ok la lb a b b' Aa Ab pa pb w ha hb h1 h2 hpa hpb, fun w ha hb => rMul_ok la lb a b b' Aa Ab pa pb w ha hb h1 h2⟩
theorem Apply_pair (la lb : List UInt8) (ra ca : Int) (Aa Ab : Option Addr) (pa pb : Nat) (hpa : la.length ≤ pa) (hpb : lb.length ≤ pb) : ∃ l E,
    (∀ w, RB w (.slice Aa la.length pa) la → RB w (.slice Ab lb.length pb) lb → Calls Try.prog 35 #[.agg (mxT.enc (ra, ca, Aa, la.length, pa)).toArray, .slice Ab lb.length pb] w fun e w' => GivesV w l E e w') ∧
    (∀ w, RB w (.slice Aa la.length pa) la → RB w (.slice Ab lb.length pb) lb → Calls Try.prog 36 #[.agg (rxT.enc (ra, ca, Aa, la.length, pa)).toArray, .slice Ab lb.length pb] w fun e w' => GivesV w l E e w') := by
  obtain ⟨r, c, l, E, h1, h2⟩ := Mul_pair la lb ra ca lb.length 1 Aa Ab pa pb hpa hpb
  exact ⟨l, E, fun w ha hb => Apply_of _ _ _ _ _ _ _ _ _ r c l E fun W h => h1 W (ha.below h) (hb.below h), fun w ha hb => rApply_of _ _ _ _ _ _ _ _ _ r c l E fun W h => h2 W (ha.below h) (hb.below h)⟩
end Go.Proofs.Ytfnneneaalaagaa

namespace Go.Proofs.Ytfnneneaalaagaa
set_option maxRecDepth 100000
open Go.RowKit
set_option linter.unusedSimpArgs false
set_option linter.unusedVariables false

theorem mayB_sq {n : Nat} (h1 : 1 ≤ n) (h2 : n ≤ 32) : mayB (n : Int) (n : Int) (n * n) = true := by
  have hs : sizeB (n : Int) = true := (sizeB_iff _).2 (by omega)
  rw [mayB, if_pos hs, if_pos hs]
  exact beq_iff_eq.2 (by push_cast; rfl)
theorem Inverse_told (lb : List UInt8) (rb cb : Int) (Ab : Option Addr) (pb : Nat) (hpb : lb.length ≤ pb) : ∃ x : Told26,
    (∀ w, RB w (.slice Ab lb.length pb) lb → Calls Try.prog 29 #[.agg (mxT.enc (rb, cb, Ab, lb.length, pb)).toArray] w (Gives26 mxT w x)) ∧
    ((x.2.2.2 = 1 ∨ x.2.2.2 = 5) ∨ ∃ (n : Nat) (B : Nat → Nat → UInt8), rb = n ∧ cb = n ∧ 1 ≤ n ∧ n ≤ 32 ∧ lb.length = n * n ∧ x = ((n : Int), (n : Int), fillL n n B, (0 : Int)) ∧ Undo n (elF lb n) B) := by
  cases hm : mayB rb cb lb.length with
  | false => exact ⟨(0, 0, [], 1), fun w _ => Inverse_bad rb cb _ Ab pb w (.inl hm), .inl (.inl rfl)⟩
  | true =>
    cases hrc : (rb == cb) with
    | false => exact ⟨(0, 0, [], 1), fun w _ => Inverse_bad rb cb _ Ab pb w (.inr ⟨hm, hrc⟩), .inl (.inl rfl)⟩
    | true =>
      obtain rfl := beq_iff_eq.1 hrc
      obtain ⟨n, n', rfl, e, h1, h2, _, _, hl⟩ := mayB_ok hm
      obtain rfl : n = n' := by omega
      refine ⟨_, fun w h => Inverse_ok lb n Ab pb w h hpb hm, ?_⟩
      rcases invT_cases lb n hl with ⟨h3, _⟩ | ⟨B, h3, h4, _⟩
      · rw [h3]; exact .inl (.inr rfl)
      · rw [h3]; exact .inr ⟨n, B, rfl, rfl, h1, h2, hl, rfl, h4⟩
set_option maxHeartbeats 3200000 in
set_option maxRecDepth 100000 in
theorem Undone_early (r c r2 c2 : Int) (la lb : List UInt8) (Aa Ab : Option Addr) (pa pb : Nat) (w : World) (ha : RB w (.slice Aa la.length pa) la) (hb : RB w (.slice Ab lb.length pb) lb)
    (h : smallB r c la.length = false ∨ (smallB r c la.length = true ∧ smallB r2 c2 lb.length = false) ∨ (smallB r c la.length = true ∧ smallB r2 c2 lb.length = true ∧ mayB r c la.length = false) ∨ (smallB r c la.length = true ∧ smallB r2 c2 lb.length = true ∧ mayB r c la.length = true ∧ (r == c) = false)) :
    Calls Try.prog 11 #[.agg (mxT.enc (r, c, Aa, la.length, pa)).toArray, .agg (mxT.enc (r2, c2, Ab, lb.length, pb)).toArray] w fun e w' => e = .returned (.bool true) ∧ Below w.heap.size w w' := by
  have H := SH.start Nil w
  have RO := HOLD.rdCons ha (HOLD.rdOne hb)
  have cS : ∀ W, Calls Try.prog 19 #[.agg (mxT.enc (r, c, Aa, la.length, pa)).toArray] W fun e w' => e = .returned (.bool (smallB r c la.length)) ∧ Below W.heap.size W w' := fun W => small_any r c Aa la.length pa W
  have cS2 : ∀ W, Calls Try.prog 19 #[.agg (mxT.enc (r2, c2, Ab, lb.length, pb)).toArray] W fun e w' => e = .returned (.bool (smallB r2 c2 lb.length)) ∧ Below W.heap.size W w' := fun W => small_any r2 c2 Ab lb.length pb W
  have cL : ∀ W, Calls Try.prog 20 #[] W fun e w' => e = .returned (.bool true) ∧ Below W.heap.size W w' := alive26_any
  have cM : ∀ W, Calls Try.prog 37 #[.agg (mxT.enc (r, c, Aa, la.length, pa)).toArray] W fun e w' => e = .returned (.bool (mayB r c la.length)) ∧ Below W.heap.size W w' := fun W => MMay_any _ _ _ _ _ W
  clear ha hb
  rcases h with h1 | ⟨h1, h2⟩ | ⟨h1, h2, h3⟩ | ⟨h1, h2, h3, h4⟩
  all_goals
    rw [h1] at cS
    try rw [h2] at cS2
    try rw [h3] at cM
    clear h1
    try clear h2
    try clear h3
    go_enter Try.func11, Try.ntmps11
    go_wp2_with (first
      | ((with_reducible refine gDst 2 ?_); refine aBox H _ rfl rfl rfl ?_; clear H; intro b2 w2 H)
      | ((with_reducible refine gDst 3 ?_); refine aBox H _ rfl rfl rfl ?_; clear H; intro b3 w3 H)
      | ((with_reducible refine gDst 5 ?_); refine aAlloc H rfl rfl ?_; clear H; intro b5 w5 H)
      | ((with_reducible refine gDst 7 ?_); refine aAlloc H rfl rfl ?_; clear H; intro b7 w7 H)
      | ((with_reducible refine gDst 9 ?_); refine aAlloc H rfl rfl ?_; clear H; intro b9 w9 H)
      | ((with_reducible refine gDst 11 ?_); refine aAlloc H rfl rfl ?_; clear H; intro b11 w11 H)
      | ((with_reducible refine gDst 13 ?_); refine aAlloc H rfl rfl ?_; clear H; intro b13 w13 H)
      | ((with_reducible refine gDst 15 ?_); refine aAlloc H rfl rfl ?_; clear H; intro b15 w15 H)
      | ((with_reducible refine gDst 17 ?_); refine aAlloc H rfl rfl ?_; clear H; intro b17 w17 H)
      | ((with_reducible refine gDst 19 ?_); refine aAlloc H rfl rfl ?_; clear H; intro b19 w19 H)
      | ((with_reducible refine gLoad ?_); first | (refine aLoad1 H _ rfl rfl (by first | exact (rfl : _ = some (Value.int _ _)) | exact (rfl : _ = some (Value.slice _ _ _)) | exact (rfl : _ = some (Value.bool _)) | exact (rfl : _ = some (Value.string _)) | exact (rfl : _ = some (Value.pointer _)) | rfl | (simp [List.getElem?_append]; done)) rfl ?_) | (refine aLoadR1 RO H _ rfl rfl (by first | exact (rfl : _ = some (Value.int _ _)) | exact (rfl : _ = some (Value.slice _ _ _)) | exact (rfl : _ = some (Value.bool _)) | exact (rfl : _ = some (Value.string _)) | exact (rfl : _ = some (Value.pointer _)) | rfl | (simp [List.getElem?_append]; done)) rfl ?_) | (refine aLoadC _ rfl rfl (by assumption) rfl ?_) | (refine aLoad H _ rfl rfl (by first | exact part_all (by first | rfl | simp []) | (simp only [List.drop_succ_cons, List.drop_zero, List.take_succ_cons, List.take_zero]; rfl) | (simp [List.drop_append, List.take_append]; rfl)) (by first | rfl | simp []) rfl ?_) | (refine aLoadR RO H _ rfl rfl (by first | exact part_all (by first | rfl | simp []) | (simp only [List.drop_succ_cons, List.drop_zero, List.take_succ_cons, List.take_zero]; rfl) | (simp [List.drop_append, List.take_append]; rfl)) (by first | rfl | simp []) rfl ?_))
      | ((with_reducible refine gStore ?_); (first | (refine aStore H _ _ rfl rfl rfl (by (first | exact ⟨rfl, rfl⟩ | exact ⟨by decide, rfl⟩ | (simp []; done) | (constructor <;> simp [] <;> omega))) (by first | rfl | simp [List.all_append, one_all]) rfl ?_) | (refine aLay H _ _ rfl rfl rfl (by (first | exact ⟨rfl, rfl⟩ | exact ⟨by decide, rfl⟩ | (simp []; done) | (constructor <;> simp [] <;> omega))) (by first | rfl | simp [List.all_append, one_all]) (by simp only [lay, List.take_succ_cons, List.take_zero, List.drop_succ_cons, List.drop_zero, List.nil_append, List.cons_append, List.length_cons, List.length_nil, Nat.zero_add, Nat.reduceAdd]; rfl) rfl ?_)); clear H; intro w' H; try dsimp only at H)
      | (go_at_call 19; (with_reducible refine (cS _).mono ?_); rintro e w' ⟨rfl, hb⟩; replace H := H.step hb; clear hb)
      | (go_at_call 19; (with_reducible refine (cS2 _).mono ?_); rintro e w' ⟨rfl, hb⟩; replace H := H.step hb; clear hb)
      | (go_at_call 37; (with_reducible refine (cM _).mono ?_); rintro e w' ⟨rfl, hb⟩; replace H := H.step hb; clear hb)
      | (go_at_call 20; (with_reducible refine (cL _).mono ?_); rintro e w' ⟨rfl, hb⟩; replace H := H.step hb; clear hb))
    go_ret
    exact ⟨rfl, H.below⟩
set_option maxHeartbeats 3200000 in
set_option maxRecDepth 100000 in
theorem Undone_none (n : Nat) (r2 c2 : Int) (la lb : List UInt8) (Aa Ab : Option Addr) (pa pb : Nat) (w : World) (ha : RB w (.slice Aa la.length pa) la) (hb : RB w (.slice Ab lb.length pb) lb) (hpa : la.length ≤ pa)
    (hs1 : smallB n n la.length = true) (hs2 : smallB r2 c2 lb.length = true) (hm : mayB n n la.length = true) (hx : invT (clr n (n + n) (wideM la n (n + n)) n) n = (0, 0, [], 5)) (hk : (clr n n (rowsL la n n) n).2 ≠ n) :
    Calls Try.prog 11 #[.agg (mxT.enc ((n : Int), (n : Int), Aa, la.length, pa)).toArray, .agg (mxT.enc (r2, c2, Ab, lb.length, pb)).toArray] w fun e w' => e = .returned (.bool true) ∧ Below w.heap.size w w' := by
  have H := SH.start Nil w
  have RO := HOLD.rdCons ha (HOLD.rdOne hb)
  have cS : ∀ W, Calls Try.prog 19 #[.agg (mxT.enc ((n : Int), (n : Int), Aa, la.length, pa)).toArray] W fun e w' => e = .returned (.bool true) ∧ Below W.heap.size W w' := fun W => by rw [← hs1]; exact small_any n n Aa la.length pa W
  have cS2 : ∀ W, Calls Try.prog 19 #[.agg (mxT.enc (r2, c2, Ab, lb.length, pb)).toArray] W fun e w' => e = .returned (.bool true) ∧ Below W.heap.size W w' := fun W => by rw [← hs2]; exact small_any r2 c2 Ab lb.length pb W
  have cL : ∀ W, Calls Try.prog 20 #[] W fun e w' => e = .returned (.bool true) ∧ Below W.heap.size W w' := alive26_any
  have cM : ∀ W, Calls Try.prog 37 #[.agg (mxT.enc ((n : Int), (n : Int), Aa, la.length, pa)).toArray] W fun e w' => e = .returned (.bool true) ∧ Below W.heap.size W w' := fun W => by rw [← hm]; exact MMay_any _ _ _ _ _ W
  obtain ⟨x1, x2, e1, e2, hn1, hn2, -, -, hl⟩ := mayB_ok hm
  rw [show x1 = n by omega, show x2 = n by omega] at hl
  rw [show x1 = n by omega] at hn1 hn2
  have cU := fun W => Unit_ok n W hn1 hn2
  have cK := fun (W : World) (hB : Below w.heap.size w W) => Rank_any (n : Int) (n : Int) Aa pa la W (ha.below hB) (by rw [hl]; have := Nat.mul_le_mul hn2 hn2; omega)
  rw [show rankI n n la = (clr n n (rowsL la n n) n).2 from by rw [rankI, hm]; rfl] at cK
  have cI := fun (W : World) (hB : Below w.heap.size w W) => Inverse_ok la n Aa pa W (ha.below hB) hpa hm
  have hnn : ((n : Int) != (n : Int)) = false := by simp
  have hni : (n : Int) ≤ 32 := by omega
  rw [hx] at cI
  have hkb : (((clr n n (rowsL la n n) n).2 : Int) == (n : Int)) = false := beq_eq_false_iff_ne.mpr (by omega)
  generalize ((clr n n (rowsL la n n) n).2 : Int) = q at *
  clear ha hb hx hk hl hm hs1 hs2 hpa e1 e2
  go_enter Try.func11, Try.ntmps11
  go_wp2_with (first
    | ((with_reducible refine gDst 2 ?_); refine aBox H _ rfl rfl rfl ?_; clear H; intro b2 w2 H)
    | ((with_reducible refine gDst 3 ?_); refine aBox H _ rfl rfl rfl ?_; clear H; intro b3 w3 H)
    | ((with_reducible refine gDst 5 ?_); refine aAlloc H rfl rfl ?_; clear H; intro b5 w5 H)
    | ((with_reducible refine gDst 7 ?_); refine aAlloc H rfl rfl ?_; clear H; intro b7 w7 H)
    | ((with_reducible refine gDst 9 ?_); refine aAlloc H rfl rfl ?_; clear H; intro b9 w9 H)
    | ((with_reducible refine gDst 11 ?_); refine aAlloc H rfl rfl ?_; clear H; intro b11 w11 H)
    | ((with_reducible refine gDst 13 ?_); refine aAlloc H rfl rfl ?_; clear H; intro b13 w13 H)
    | ((with_reducible refine gDst 15 ?_); refine aAlloc H rfl rfl ?_; clear H; intro b15 w15 H)
    | ((with_reducible refine gDst 17 ?_); refine aAlloc H rfl rfl ?_; clear H; intro b17 w17 H)
    | ((with_reducible refine gDst 19 ?_); refine aAlloc H rfl rfl ?_; clear H; intro b19 w19 H)
    | ((with_reducible refine gLoad ?_); first | (refine aLoad1 H _ rfl rfl (by first | exact (rfl : _ = some (Value.int _ _)) | exact (rfl : _ = some (Value.slice _ _ _)) | exact (rfl : _ = some (Value.bool _)) | exact (rfl : _ = some (Value.string _)) | exact (rfl : _ = some (Value.pointer _)) | rfl | (simp [List.getElem?_append]; done)) rfl ?_) | (refine aLoadR1 RO H _ rfl rfl (by first | exact (rfl : _ = some (Value.int _ _)) | exact (rfl : _ = some (Value.slice _ _ _)) | exact (rfl : _ = some (Value.bool _)) | exact (rfl : _ = some (Value.string _)) | exact (rfl : _ = some (Value.pointer _)) | rfl | (simp [List.getElem?_append]; done)) rfl ?_) | (refine aLoadC _ rfl rfl (by assumption) rfl ?_) | (refine aLoad H _ rfl rfl (by first | exact part_all (by first | rfl | simp []) | (simp only [List.drop_succ_cons, List.drop_zero, List.take_succ_cons, List.take_zero]; rfl) | (simp [List.drop_append, List.take_append]; rfl)) (by first | rfl | simp []) rfl ?_) | (refine aLoadR RO H _ rfl rfl (by first | exact part_all (by first | rfl | simp []) | (simp only [List.drop_succ_cons, List.drop_zero, List.take_succ_cons, List.take_zero]; rfl) | (simp [List.drop_append, List.take_append]; rfl)) (by first | rfl | simp []) rfl ?_))
    | ((with_reducible refine gStore ?_); (first | (refine aStore H _ _ rfl rfl rfl (by (first | exact ⟨rfl, rfl⟩ | exact ⟨by decide, rfl⟩ | (simp []; done) | (constructor <;> simp [] <;> omega))) (by first | rfl | simp [List.all_append, one_all]) rfl ?_) | (refine aLay H _ _ rfl rfl rfl (by (first | exact ⟨rfl, rfl⟩ | exact ⟨by decide, rfl⟩ | (simp []; done) | (constructor <;> simp [] <;> omega))) (by first | rfl | simp [List.all_append, one_all]) (by simp only [lay, List.take_succ_cons, List.take_zero, List.drop_succ_cons, List.drop_zero, List.nil_append, List.cons_append, List.length_cons, List.length_nil, Nat.zero_add, Nat.reduceAdd]; rfl) rfl ?_)); clear H; intro w' H; try dsimp only at H)
    | (go_at_call 19; (with_reducible refine (cS _).mono ?_); rintro e w' ⟨rfl, hb⟩; replace H := H.step hb; clear hb)
    | (go_at_call 19; (with_reducible refine (cS2 _).mono ?_); rintro e w' ⟨rfl, hb⟩; replace H := H.step hb; clear hb)
    | (go_at_call 37; (with_reducible refine (cM _).mono ?_); rintro e w' ⟨rfl, hb⟩; replace H := H.step hb; clear hb)
    | (go_at_call 24; (with_reducible refine (cU _).mono ?_); rintro e w' ⟨Au, uc, rfl, ho, hb⟩; replace H := H.pushRow hb ho; clear hb ho)
    | (go_at_call 29; (with_reducible refine (cI _ H.below).mono ?_); rintro e w' ⟨Ax, px, rfl, ho, hb⟩; replace H := H.pushRow hb ho; clear hb ho))
  refine startA (fun i => false) (by kernel_rfl) (fun wS hS => ?_)
  replace H := H.drew
  rw [← hS] at H
  have HH := H.hold
  have HR := H.old RO
  have HS0 : Below wS.heap.size wS wS := Below.refl _ _
  clear hS
  refine takeP 0 rfl (by kernel_rfl) (by kernel_rfl) (by kernel_rfl) (by kernel_rfl) (fun _ _ _ h => h) rfl (v := ?_) ?_ ?_
  rotate_left
  · intro w'; go_simp; (try with_reducible rfl)
  (try simp only [Act.put, List.setIfInBounds_toArray, List.set_cons_zero, List.set_cons_succ])
  refine takeP 1 rfl (by kernel_rfl) (by kernel_rfl) (by kernel_rfl) (by kernel_rfl) (fun _ _ _ h => h) rfl (v := ?_) ?_ ?_
  rotate_left
  · intro w'; go_simp; (try with_reducible rfl)
  (try simp only [Act.put, List.setIfInBounds_toArray, List.set_cons_zero, List.set_cons_succ])
  refine takeL 2 HS0 rfl (by kernel_rfl) (by kernel_rfl) (by kernel_rfl) (by kernel_rfl) (by kernel_rfl) (fun _ _ _ h => h) rfl (v := ?_) ?_ ?_
  rotate_left
  · intro w' hw'; first | (refine Eq.trans (xLoad (HR.below hw') _ rfl rfl (by first | exact part_all (by first | rfl | simp []) | (simp only [List.drop_succ_cons, List.drop_zero, List.take_succ_cons, List.take_zero]; rfl) | (simp [List.drop_append, List.take_append]; rfl)) (by first | rfl | simp [])) ?_; with_reducible rfl) | (refine Eq.trans (xLoad (HH.below hw') _ rfl rfl (by first | exact part_all (by first | rfl | simp []) | (simp only [List.drop_succ_cons, List.drop_zero, List.take_succ_cons, List.take_zero]; rfl) | (simp [List.drop_append, List.take_append]; rfl)) (by first | rfl | simp [])) ?_; with_reducible rfl)
  (try simp only [Act.put, List.setIfInBounds_toArray, List.set_cons_zero, List.set_cons_succ])
  refine takeP 4 rfl (by kernel_rfl) (by kernel_rfl) (by kernel_rfl) (by kernel_rfl) (fun _ _ _ h => h) rfl (v := ?_) ?_ ?_
  rotate_left
  · intro w'; go_simp; (try with_reducible rfl)
  (try simp only [Act.put, List.setIfInBounds_toArray, List.set_cons_zero, List.set_cons_succ])
  refine takeL 5 HS0 rfl (by kernel_rfl) (by kernel_rfl) (by kernel_rfl) (by kernel_rfl) (by kernel_rfl) (fun _ _ _ h => h) rfl (v := ?_) ?_ ?_
  rotate_left
  · intro w' hw'; first | (refine Eq.trans (xLoad1 (HR.below hw') _ rfl rfl (by first | exact (rfl : _ = some (Value.int _ _)) | exact (rfl : _ = some (Value.slice _ _ _)) | exact (rfl : _ = some (Value.bool _)) | exact (rfl : _ = some (Value.string _)) | exact (rfl : _ = some (Value.pointer _)) | rfl | (simp [List.getElem?_append]; done))) ?_; with_reducible rfl) | (refine Eq.trans (xLoad1 (HH.below hw') _ rfl rfl (by first | exact (rfl : _ = some (Value.int _ _)) | exact (rfl : _ = some (Value.slice _ _ _)) | exact (rfl : _ = some (Value.bool _)) | exact (rfl : _ = some (Value.string _)) | exact (rfl : _ = some (Value.pointer _)) | rfl | (simp [List.getElem?_append]; done))) ?_; with_reducible rfl) | (refine Eq.trans (xLoadC _ rfl rfl (cell_below hw' (by assumption))) ?_; with_reducible rfl)
  (try simp only [Act.put, List.setIfInBounds_toArray, List.set_cons_zero, List.set_cons_succ])
  refine stepL 3 rfl (by kernel_rfl) rfl (fun K hK => ?_)
  (go_simp; (with_reducible refine (cK _ H.below).mono ?_); rintro e w' ⟨rfl, hb⟩; replace H := H.step hb; replace HS0 := below_two HS0 HS0.size hb; clear hb; refine hK.out _ _ (fun _ _ => HS0) ?_; clear K hK)
  (try simp only [Act.put, List.setIfInBounds_toArray, List.set_cons_zero, List.set_cons_succ])
  refine takeP 6 rfl (by kernel_rfl) (by kernel_rfl) (by kernel_rfl) (by kernel_rfl) (fun _ _ _ h => h) rfl (v := ?_) ?_ ?_
  rotate_left
  · intro w'; go_simp; (try with_reducible rfl)
  (try simp only [Act.put, List.setIfInBounds_toArray, List.set_cons_zero, List.set_cons_succ])
  refine takeP 7 rfl (by kernel_rfl) (by kernel_rfl) (by kernel_rfl) (by kernel_rfl) (fun _ _ _ h => h) rfl (v := ?_) ?_ ?_
  rotate_left
  · intro w'; go_simp; (try with_reducible rfl)
  (try simp only [Act.put, List.setIfInBounds_toArray, List.set_cons_zero, List.set_cons_succ])
  refine doneL (by kernel_rfl) ?_
  go_wp2_with (first
    | ((with_reducible refine gDst 2 ?_); refine aBox H _ rfl rfl rfl ?_; clear H; intro b2 w2 H)
    | ((with_reducible refine gDst 3 ?_); refine aBox H _ rfl rfl rfl ?_; clear H; intro b3 w3 H)
    | ((with_reducible refine gDst 5 ?_); refine aAlloc H rfl rfl ?_; clear H; intro b5 w5 H)
    | ((with_reducible refine gDst 7 ?_); refine aAlloc H rfl rfl ?_; clear H; intro b7 w7 H)
    | ((with_reducible refine gDst 9 ?_); refine aAlloc H rfl rfl ?_; clear H; intro b9 w9 H)
    | ((with_reducible refine gDst 11 ?_); refine aAlloc H rfl rfl ?_; clear H; intro b11 w11 H)
    | ((with_reducible refine gDst 13 ?_); refine aAlloc H rfl rfl ?_; clear H; intro b13 w13 H)
    | ((with_reducible refine gDst 15 ?_); refine aAlloc H rfl rfl ?_; clear H; intro b15 w15 H)
    | ((with_reducible refine gDst 17 ?_); refine aAlloc H rfl rfl ?_; clear H; intro b17 w17 H)
    | ((with_reducible refine gDst 19 ?_); refine aAlloc H rfl rfl ?_; clear H; intro b19 w19 H)
    | ((with_reducible refine gLoad ?_); first | (refine aLoad1 H _ rfl rfl (by first | exact (rfl : _ = some (Value.int _ _)) | exact (rfl : _ = some (Value.slice _ _ _)) | exact (rfl : _ = some (Value.bool _)) | exact (rfl : _ = some (Value.string _)) | exact (rfl : _ = some (Value.pointer _)) | rfl | (simp [List.getElem?_append]; done)) rfl ?_) | (refine aLoadR1 RO H _ rfl rfl (by first | exact (rfl : _ = some (Value.int _ _)) | exact (rfl : _ = some (Value.slice _ _ _)) | exact (rfl : _ = some (Value.bool _)) | exact (rfl : _ = some (Value.string _)) | exact (rfl : _ = some (Value.pointer _)) | rfl | (simp [List.getElem?_append]; done)) rfl ?_) | (refine aLoadC _ rfl rfl (by assumption) rfl ?_) | (refine aLoad H _ rfl rfl (by first | exact part_all (by first | rfl | simp []) | (simp only [List.drop_succ_cons, List.drop_zero, List.take_succ_cons, List.take_zero]; rfl) | (simp [List.drop_append, List.take_append]; rfl)) (by first | rfl | simp []) rfl ?_) | (refine aLoadR RO H _ rfl rfl (by first | exact part_all (by first | rfl | simp []) | (simp only [List.drop_succ_cons, List.drop_zero, List.take_succ_cons, List.take_zero]; rfl) | (simp [List.drop_append, List.take_append]; rfl)) (by first | rfl | simp []) rfl ?_))
    | ((with_reducible refine gStore ?_); (first | (refine aStore H _ _ rfl rfl rfl (by (first | exact ⟨rfl, rfl⟩ | exact ⟨by decide, rfl⟩ | (simp []; done) | (constructor <;> simp [] <;> omega))) (by first | rfl | simp [List.all_append, one_all]) rfl ?_) | (refine aLay H _ _ rfl rfl rfl (by (first | exact ⟨rfl, rfl⟩ | exact ⟨by decide, rfl⟩ | (simp []; done) | (constructor <;> simp [] <;> omega))) (by first | rfl | simp [List.all_append, one_all]) (by simp only [lay, List.take_succ_cons, List.take_zero, List.drop_succ_cons, List.drop_zero, List.nil_append, List.cons_append, List.length_cons, List.length_nil, Nat.zero_add, Nat.reduceAdd]; rfl) rfl ?_)); clear H; intro w' H; try dsimp only at H)
    | (go_at_call 20; (with_reducible refine (cL _).mono ?_); rintro e w' ⟨rfl, hb⟩; replace H := H.step hb; clear hb))
  go_ret
  exact ⟨rfl, H.below⟩
end Go.Proofs.Ytfnneneaalaagaa

namespace Go.Proofs.Ytfnneneaalaagaa
set_option maxRecDepth 100000
open Go.RowKit
set_option linter.unusedSimpArgs false
set_option linter.unusedVariables false

def usedL (ats : List Nat) : List Value := (List.range 32).map fun a => Value.bool (decide (a ∈ ats))
theorem usedL_len (ats : List Nat) : (usedL ats).length = 32 := by simp [usedL]
theorem usedL_get (ats : List Nat) (a : Nat) (h : a < 32) : (usedL ats)[a]? = some (.bool (decide (a ∈ ats))) := by
  rw [usedL, List.getElem?_map, List.getElem?_range h]; rfl
theorem usedL_set (ats : List Nat) (a : Nat) (h : a < 32) : (usedL ats).set a (.bool true) = usedL (ats ++ [a]) := by
  refine List.ext_getElem (by rw [List.length_set, usedL_len, usedL_len]) fun i h1 h2 => ?_
  rw [usedL_len] at h2
  rw [List.getElem_set]
  simp only [usedL, List.getElem_map, List.getElem_range, List.mem_append, List.mem_singleton]
  by_cases e : a = i
  · rw [if_pos e, e]; simp
  · rw [if_neg e]
    have : ¬ i = a := fun h => e h.symm
    simp [this]
theorem usedL_all (ats : List Nat) : ((usedL ats).all fun u => u.oneCell') = true := by simp [usedL, Value.oneCell']
theorem and31 (x : Int) : ∃ a : Nat, a < 32 ∧ bits .and .i64 x 31 = (a : Int) := by
  have e : bits .and .i64 x 31 = IntKind.i64.wrap (((BitVec.ofInt 64 x &&& BitVec.ofInt 64 31).toNat : Nat) : Int) := rfl
  have hlt : (BitVec.ofInt 64 x &&& BitVec.ofInt 64 31).toNat ≤ 31 := by
    rw [BitVec.toNat_and]
    exact Nat.le_trans Nat.and_le_right (by decide)
  refine ⟨_, Nat.lt_succ_of_le hlt, ?_⟩
  rw [e, i64w _ (by omega) (by omega)]
def natI (ats : List Nat) : List Int := List.map (fun (a : Nat) => (a : Int)) ats
theorem natI_len (ats : List Nat) : (natI ats).length = ats.length := by simp [natI]
def sI : ST Try.prog Int := ⟨I64T, 33, .int .i64 0, Try.underlying33, by kernel_rfl, rfl⟩
def dst (n b at_ : Nat) : Nat := if at_ ≤ b then b - at_ else b + n - at_
def relA (n k b9 : Nat) (w : World) (L : List Own) (v10 v11 : Value) (wr : World) : Prop := ∃ (i : Nat) (ats : List Nat) (A : Option Addr) (cp : Nat), v11 = .int .i64 (i : Int) ∧ i ≤ k ∧ v10 = .slice A (natI ats).length cp ∧ Hid (ats.length = i) ∧ Hid ats.Nodup ∧ Hid (∀ a ∈ ats, a < n) ∧ SH Nil w wr (.row I64T (.slice A (natI ats).length cp) (natI ats) :: .blk b9 58 (usedL ats) :: L)
theorem pick_ker (ats : List Nat) (n k : Nat) (hn : n ≤ 32) (hk : k ≤ n) (hlen : ats.length = k) (hnd : ats.Nodup) (hlt : ∀ a ∈ ats, a < n) :
    (pickL (fillL n k (codeF k)) k (natI ats)).length = k * k ∧ ∀ v : Nat → UInt8, (∀ i, i < k → app k (elF (pickL (fillL n k (codeF k)) k (natI ats)) k) v i = 0) → ∀ i, i < k → v i = 0 := by
  have hrl : ∀ a ∈ ats, (rowq (fillL n k (codeF k)) k a).length = k := fun a ha => rowq_len (by rw [fillL_len]; exact row_in (hlt a ha))
  have hM : Mat (ats.map fun a => rowq (fillL n k (codeF k)) k a) k k := ⟨by rw [List.length_map, hlen], fun x hx => by
    obtain ⟨a, ha, rfl⟩ := List.mem_map.1 hx
    exact hrl a ha⟩
  have hf : (ats.map fun a => rowq (fillL n k (codeF k)) k a).flatten = pickL (fillL n k (codeF k)) k (natI ats) := by
    rw [pickL, natI, List.flatMap_map, ← List.flatMap_def]
    rfl
  refine ⟨by rw [← hf, hM.flat], fun v hv => ?_⟩
  refine code_ker k ats (by omega) hlen hnd (fun a ha => by have := hlt a ha; omega) v fun a ha => ?_
  obtain ⟨p, hp, rfl⟩ := List.mem_iff_getElem.1 ha
  rw [← hv p (by omega)]
  refine sumX_congr fun j hj => ?_
  congr 1
  rw [elF, ← hf, mat_at hM (by omega) hj, fe, List.getD_eq_getElem?_getD (a := ([] : List UInt8)), List.getElem?_map, List.getElem?_eq_getElem hp]
  simp only [Option.map_some, Option.getD_some]
  rw [rowq_map (by rw [fillL_len]; exact row_in (hlt _ ha)), List.getD_eq_getElem?_getD, List.getElem?_map, List.getElem?_range hj]
  simp only [Option.map_some, Option.getD_some]
  rw [fillL_get n k (codeF k) _ j (hlt _ ha) hj]
set_option maxHeartbeats 3200000 in
set_option maxRecDepth 100000 in
theorem Any_early (k n : Int) (vr : Value) (rs : List Int) (w : World) (hr : RI w vr rs)
    (h : (k < 1 ∨ n < k ∨ 32 < n) ∨ (¬ (k < 1 ∨ n < k ∨ 32 < n) ∧ 8 < k) ∨ (¬ (k < 1 ∨ n < k ∨ 32 < n) ∧ ¬ 8 < k ∧ (rs.length : Int) < k)) :
    Calls Try.prog 10 #[.int .i64 k, .int .i64 n, vr] w fun e w' => e = .returned (.bool true) ∧ Below w.heap.size w w' := by
  have H := SH.start Nil w
  obtain ⟨Ar, cr, rfl, -⟩ := id hr.len
  have cL : ∀ W, Calls Try.prog 20 #[] W fun e w' => e = .returned (.bool true) ∧ Below W.heap.size W w' := alive26_any
  have cC : ∃ r c l E, (∀ W, Calls Try.prog 26 #[.int .i64 k, .int .i64 n] W fun e w' => GivesP mxT W r c l E e w') ∧ ((E != 0) = true ∨ ((E != 0) = false ∧ ¬ (k < 1 ∨ n < k ∨ 32 < n))) := by
    by_cases h : 1 ≤ k ∧ k ≤ n ∧ n ≤ 32
    · obtain ⟨a, rfl⟩ : ∃ a : Nat, k = (a : Int) := ⟨k.toNat, by omega⟩
      obtain ⟨b, rfl⟩ : ∃ b : Nat, n = (b : Int) := ⟨n.toNat, by omega⟩
      exact ⟨b, a, _, 0, fun W => (Code_ok a b W (by omega) (by omega) (by omega)).mono fun e w' h => .of h, .inr ⟨rfl, by omega⟩⟩
    · have h2 : k < 1 ∨ n < k ∨ 32 < n := by omega
      exact ⟨0, 0, [], 1, fun W => (Code_bad k n W h2).mono fun e w' h => .zero rfl h, .inl rfl⟩
  obtain ⟨r, c, l, E, cC, hE⟩ := cC
  clear hr
  have hd : (E != 0) = true ∨ ((E != 0) = false ∧ decide (8 < k) = true) ∨ ((E != 0) = false ∧ decide (8 < k) = false ∧ decide ((rs.length : Int) < k) = true) := by
    rcases hE with h1 | ⟨h1, h2⟩
    · exact .inl h1
    · rcases h with h3 | ⟨_, h3⟩ | ⟨_, h3, h4⟩
      · exact absurd h3 h2
      · exact .inr (.inl ⟨h1, by simpa using h3⟩)
      · exact .inr (.inr ⟨h1, by simpa using h3, by simpa using h4⟩)
  clear h hE
  rcases hd with h1 | ⟨h1, h2⟩ | ⟨h1, h2, h3⟩
  all_goals
    go_enter Try.func10, Try.ntmps10
    go_wp2_with (first
      | ((with_reducible refine gDst 7 ?_); refine aAlloc H rfl rfl ?_; clear H; intro b7 w7 H)
      | ((with_reducible refine gDst 9 ?_); refine aAlloc H rfl rfl ?_; clear H; intro b9 w9 H)
      | ((with_reducible refine gDst 47 ?_); refine aEmpty sB H rfl rfl ?_; clear H; intro b47 w47 H)
      | ((with_reducible refine gDst 13 ?_); refine aAlloc H rfl rfl ?_; clear H; intro b13 w13 H)
      | ((with_reducible refine gDst 15 ?_); refine aAlloc H rfl rfl ?_; clear H; intro b15 w15 H)
      | ((with_reducible refine gLoad ?_); first | (refine aLoad1 H _ rfl rfl (by first | exact (rfl : _ = some (Value.int _ _)) | exact (rfl : _ = some (Value.slice _ _ _)) | exact (rfl : _ = some (Value.bool _)) | exact (rfl : _ = some (Value.string _)) | exact (rfl : _ = some (Value.pointer _)) | rfl | (simp [List.getElem?_append]; done)) rfl ?_) | (refine aLoadC _ rfl rfl (by assumption) rfl ?_) | (refine aLoad H _ rfl rfl (by first | exact part_all (by first | rfl | simp []) | (simp only [List.drop_succ_cons, List.drop_zero, List.take_succ_cons, List.take_zero]; rfl) | (simp [List.drop_append, List.take_append]; rfl)) (by first | rfl | simp []) rfl ?_))
      | ((with_reducible refine gBuild ?_); refine aZero rfl rfl ?_)
      | ((with_reducible refine gStore ?_); (first | (refine aCell H _ _ rfl rfl (by first | exact (rfl : _ = Value.int _ _) | exact (rfl : _ = Value.bool _) | exact (rfl : _ = Value.slice _ _ _) | exact (rfl : _ = Value.string _) | exact (rfl : _ = Value.pointer _) | exact (rfl : _ = Value.func _ _ _) | rfl) (by rfl) (by rfl) (by first | exact of_decide_eq_true rfl | (simp []; done) | (simp []; omega)) (by first | (simp only [List.set_cons_zero, List.set_cons_succ]; rfl) | (simp [List.set_append]; rfl)) rfl ?_) | (refine aStore H _ _ rfl rfl rfl (by (first | exact ⟨rfl, rfl⟩ | exact ⟨by decide, rfl⟩ | (simp []; done) | (constructor <;> simp [] <;> omega))) (by first | rfl | simp [List.all_append, one_all]) rfl ?_) | (refine aLay H _ _ rfl rfl rfl (by (first | exact ⟨rfl, rfl⟩ | exact ⟨by decide, rfl⟩ | (simp []; done) | (constructor <;> simp [] <;> omega))) (by first | rfl | simp [List.all_append, one_all]) (by simp only [lay, List.take_succ_cons, List.take_zero, List.drop_succ_cons, List.drop_zero, List.nil_append, List.cons_append, List.length_cons, List.length_nil, Nat.zero_add, Nat.reduceAdd]; rfl) rfl ?_)); clear H; intro w' H; try dsimp only at H)
      | (at_builtin; refine aAppB1 _ H _ _ rfl rfl rfl (by first | omega | (have := HCL.out; omega)) rfl ?_; clear H; intro v' w' ys HY H; (try dsimp only at H); obtain ⟨A', c', rfl, hc'⟩ := (H.hold.rr v').len)
      | (go_at_call 26; (with_reducible refine (cC _).mono ?_); rintro e w' ⟨A1, p1, rfl, ho, hb⟩; replace H := H.pushRow hb ho; clear hb ho)
      | (go_at_call 20; (with_reducible refine (cL _).mono ?_); rintro e w' ⟨rfl, hb⟩; replace H := H.step hb; clear hb))
    go_ret
    exact ⟨rfl, H.below⟩
set_option maxHeartbeats 6400000 in
set_option maxRecDepth 100000 in
theorem Any_main (k n : Nat) (vr : Value) (rs : List Int) (w : World) (hr : RI w vr rs) (hk1 : 1 ≤ k) (hkn : k ≤ n) (hn : n ≤ 32) (hk8 : k ≤ 8) (hrs : k ≤ rs.length) :
    Calls Try.prog 10 #[.int .i64 (k : Int), .int .i64 (n : Int), vr] w fun e w' => e = .returned (.bool true) ∧ Below w.heap.size w w' := by
  have H := SH.start Nil w
  obtain ⟨Ar, cr, rfl, -⟩ := id hr.len
  have cL : ∀ W, Calls Try.prog 20 #[] W fun e w' => e = .returned (.bool true) ∧ Below W.heap.size W w' := alive26_any
  have cC := fun W => Code_ok k n W hk1 hkn hn
  have hcl : (fillL n k (codeF k)).length = n * k := fillL_len _ _ _
  have cP := fun (W : World) (A : Option Addr) (p : Nat) (vl : Value) (ats : List Nat) (hv : RB W (.slice A (fillL n k (codeF k)).length p) (fillL n k (codeF k))) (hl : RI W vl (natI ats)) (h1 : ats.length = k) => Pick_main (fillL n k (codeF k)) n k (fillL n k (codeF k)).length A p vl (natI ats) W (by omega) hn hk1 (by omega) hcl rfl hv (rb_cap hv) hl (by rw [natI_len]; omega) (by rw [natI_len]; omega)
  have d1 : decide ((8 : Int) < (k : Int)) = false := by simp; omega
  have d2 : decide ((rs.length : Int) < (k : Int)) = false := by simp; omega
  have d3 : decide ((n : Int) < 1) = false := by simp; omega
  have d4 : decide ((32 : Int) < (n : Int)) = false := by simp; omega
  have d5 : decide ((k : Int) < 1) = false := by simp; omega
  have hcell := fun i (hi : i < rs.length) => RI.byte hr i hi
  have HCELL := Lib.hid hcell
  have CP := Lib.hid cP
  have hn0 : ((n : Int) = 0) = False := eq_false (by omega)
  have hni : (n : Int) ≤ 32 := by omega
  have hki : (k : Int) ≤ 8 := by omega
  have hrl : (k : Int) ≤ (rs.length : Int) := by omega
  have hkp := pick_ker
  have HKP := Lib.hid hkp
  clear hr hcell cP hcl hkp
  generalize hcl : fillL n k (codeF k) = cl at *
  go_enter Try.func10, Try.ntmps10
  go_wp2_with (first
    | ((with_reducible refine gDst 47 ?_); refine aEmpty sI H rfl rfl ?_; clear H; intro b47 w47 H)
    | ((with_reducible refine gDst 7 ?_); refine aAlloc H rfl rfl ?_; clear H; intro b7 w7 H)
    | ((with_reducible refine gDst 9 ?_); refine aAlloc H rfl rfl ?_; clear H; intro b9 w9 H)
    | ((with_reducible refine gDst 47 ?_); refine aEmpty sB H rfl rfl ?_; clear H; intro b47 w47 H)
    | ((with_reducible refine gDst 13 ?_); refine aAlloc H rfl rfl ?_; clear H; intro b13 w13 H)
    | ((with_reducible refine gDst 15 ?_); refine aAlloc H rfl rfl ?_; clear H; intro b15 w15 H)
    | ((with_reducible refine gLoad ?_); first | (refine aLoad1 H _ rfl rfl (by first | exact (rfl : _ = some (Value.int _ _)) | exact (rfl : _ = some (Value.slice _ _ _)) | exact (rfl : _ = some (Value.bool _)) | exact (rfl : _ = some (Value.string _)) | exact (rfl : _ = some (Value.pointer _)) | rfl | (simp [List.getElem?_append]; done)) rfl ?_) | (refine aLoadC _ rfl rfl (by assumption) rfl ?_) | (refine aLoad H _ rfl rfl (by first | exact part_all (by first | rfl | simp []) | (simp only [List.drop_succ_cons, List.drop_zero, List.take_succ_cons, List.take_zero]; rfl) | (simp [List.drop_append, List.take_append]; rfl)) (by first | rfl | simp []) rfl ?_))
    | ((with_reducible refine gBuild ?_); refine aZero rfl rfl ?_)
    | ((with_reducible refine gStore ?_); (first | (refine aCell H _ _ rfl rfl (by first | exact (rfl : _ = Value.int _ _) | exact (rfl : _ = Value.bool _) | exact (rfl : _ = Value.slice _ _ _) | exact (rfl : _ = Value.string _) | exact (rfl : _ = Value.pointer _) | exact (rfl : _ = Value.func _ _ _) | rfl) (by rfl) (by rfl) (by first | exact of_decide_eq_true rfl | (simp []; done) | (simp []; omega)) (by first | (simp only [List.set_cons_zero, List.set_cons_succ]; rfl) | (simp [List.set_append]; rfl)) rfl ?_) | (refine aStore H _ _ rfl rfl rfl (by (first | exact ⟨rfl, rfl⟩ | exact ⟨by decide, rfl⟩ | (simp []; done) | (constructor <;> simp [] <;> omega))) (by first | rfl | simp [List.all_append, one_all]) rfl ?_) | (refine aLay H _ _ rfl rfl rfl (by (first | exact ⟨rfl, rfl⟩ | exact ⟨by decide, rfl⟩ | (simp []; done) | (constructor <;> simp [] <;> omega))) (by first | rfl | simp [List.all_append, one_all]) (by simp only [lay, List.take_succ_cons, List.take_zero, List.drop_succ_cons, List.drop_zero, List.nil_append, List.cons_append, List.length_cons, List.length_nil, Nat.zero_add, Nat.reduceAdd]; rfl) rfl ?_)); clear H; intro w' H; try dsimp only at H)
    | (at_builtin; refine aAppB1 _ H _ _ rfl rfl rfl (by first | omega | (have := HCL.out; omega)) rfl ?_; clear H; intro v' w' ys HY H; (try dsimp only at H); obtain ⟨A', c', rfl, hc'⟩ := (H.hold.rr v').len)
    | (go_at_call 26; (with_reducible refine (cC _).mono ?_); rintro e w' ⟨A1, p1, rfl, ho, hb⟩; replace H := H.pushRow hb ho; clear hb ho))
  go_loopw [10, 11] (fun v10 v11 wr => relA n k b9 w [.blk b7 32 (mxT.enc ((n : Int), (k : Int), A1, cl.length, p1)), .row B8 (.slice A1 cl.length p1) cl] v10 v11 wr) (fun _ v _ => k - (intOf v).toNat)
  case atStart => exact ⟨0, [], _, _, rfl, by omega, rfl, rfl, List.nodup_nil, (show Hid (∀ a ∈ ([] : List Nat), a < n) from fun a ha => by cases ha), H⟩
  case round =>
    obtain ⟨i, ats, A, cp, rfl, hi, rfl, HL, HN, HT, HS⟩ := hrel
    clear H
    have H := HS
    clear HS
    have hlb : (natI ats).length ≤ 32 := by rw [natI_len, HL.out]; omega
    by_cases hik : i < k
    · have hii : (i : Int) < (k : Int) := by omega
      have hir : (i : Int) < (rs.length : Int) := by omega
      obtain ⟨ad, rfl, hc0⟩ := HCELL.out i (by omega)
      have hc := cell_below H.below hc0
      generalize rs.getD i 0 = x at *
      obtain ⟨a, ha, hax⟩ := and31 x
      have hrt : (a : Int).tmod (n : Int) = ((a % n : Nat) : Int) := by rw [Int.tmod_eq_emod_of_nonneg (by omega)]; push_cast; rfl
      have hlt : a % n < n := Nat.mod_lt _ (by omega)
      obtain ⟨b, hbn, hba⟩ := unused (ats := ats) (n := n) (by rw [HL.out]; omega)
      generalize a % n = at0 at *
      have hw0 : IntKind.i64.wrap (at0 : Int) = (at0 : Int) := i64w _ (by omega) (by omega)
      have hab : (a : Int) ≤ 31 := by omega
      clear ha hc0
      go_wp2_with (first
        | ((with_reducible refine gDst 7 ?_); refine aAlloc H rfl rfl ?_; clear H; intro b7 w7 H)
        | ((with_reducible refine gDst 9 ?_); refine aAlloc H rfl rfl ?_; clear H; intro b9 w9 H)
        | ((with_reducible refine gDst 47 ?_); refine aEmpty sB H rfl rfl ?_; clear H; intro b47 w47 H)
        | ((with_reducible refine gDst 13 ?_); refine aAlloc H rfl rfl ?_; clear H; intro b13 w13 H)
        | ((with_reducible refine gDst 15 ?_); refine aAlloc H rfl rfl ?_; clear H; intro b15 w15 H)
        | ((with_reducible refine gLoad ?_); first | (refine aLoad1 H _ rfl rfl (by first | exact (rfl : _ = some (Value.int _ _)) | exact (rfl : _ = some (Value.slice _ _ _)) | exact (rfl : _ = some (Value.bool _)) | exact (rfl : _ = some (Value.string _)) | exact (rfl : _ = some (Value.pointer _)) | rfl | (simp [List.getElem?_append]; done)) rfl ?_) | (refine aLoadC _ rfl rfl (by assumption) rfl ?_) | (refine aLoad H _ rfl rfl (by first | exact part_all (by first | rfl | simp []) | (simp only [List.drop_succ_cons, List.drop_zero, List.take_succ_cons, List.take_zero]; rfl) | (simp [List.drop_append, List.take_append]; rfl)) (by first | rfl | simp []) rfl ?_))
        | ((with_reducible refine gBuild ?_); refine aZero rfl rfl ?_)
        | ((with_reducible refine gStore ?_); (first | (refine aCell H _ _ rfl rfl (by first | exact (rfl : _ = Value.int _ _) | exact (rfl : _ = Value.bool _) | exact (rfl : _ = Value.slice _ _ _) | exact (rfl : _ = Value.string _) | exact (rfl : _ = Value.pointer _) | exact (rfl : _ = Value.func _ _ _) | rfl) (by rfl) (by rfl) (by first | exact of_decide_eq_true rfl | (simp []; done) | (simp []; omega)) (by first | (simp only [List.set_cons_zero, List.set_cons_succ]; rfl) | (simp [List.set_append]; rfl)) rfl ?_) | (refine aStore H _ _ rfl rfl rfl (by (first | exact ⟨rfl, rfl⟩ | exact ⟨by decide, rfl⟩ | (simp []; done) | (constructor <;> simp [] <;> omega))) (by first | rfl | simp [List.all_append, one_all]) rfl ?_) | (refine aLay H _ _ rfl rfl rfl (by (first | exact ⟨rfl, rfl⟩ | exact ⟨by decide, rfl⟩ | (simp []; done) | (constructor <;> simp [] <;> omega))) (by first | rfl | simp [List.all_append, one_all]) (by simp only [lay, List.take_succ_cons, List.take_zero, List.drop_succ_cons, List.drop_zero, List.nil_append, List.cons_append, List.length_cons, List.length_nil, Nat.zero_add, Nat.reduceAdd]; rfl) rfl ?_)); clear H; intro w' H; try dsimp only at H)
        | (at_builtin; refine aAppB1 _ H _ _ rfl rfl rfl (by first | omega | (have := HCL.out; omega)) rfl ?_; clear H; intro v' w' ys HY H; (try dsimp only at H); obtain ⟨A', c', rfl, hc'⟩ := (H.hold.rr v').len))
      go_loopw [12] (fun v12 wr' => ∃ c : Nat, v12 = .int .i64 (c : Int) ∧ c < n ∧ wr' = wr) (fun v _ => dst n b (intOf v).toNat)
      case atStart => exact ⟨at0, rfl, hlt, rfl⟩
      case round =>
        obtain ⟨c, rfl, hcn, rfl⟩ := hrel
        have hcb := usedL_get ats c (by omega)
        have hci : (c : Int) < 32 := by omega
        have hc1 := ((H.hold.va (b := b9)).cell c).trans hcb
        by_cases hcu : c ∈ ats
        · have hd1 : decide (c ∈ ats) = true := by simpa using hcu
          rw [hd1] at hc1
          have hne : c ≠ b := fun e => hba (by rw [← e]; exact hcu)
          have hrt2 : ((c : Int) + 1).tmod (n : Int) = (((c + 1) % n : Nat) : Int) := by rw [Int.tmod_eq_emod_of_nonneg (by omega)]; push_cast; rfl
          have hlt2 : (c + 1) % n < n := Nat.mod_lt _ (by omega)
          have hds : dst n b ((c + 1) % n) < dst n b c := by
            unfold dst
            by_cases e : c + 1 < n
            · rw [Nat.mod_eq_of_lt e]; split <;> split <;> omega
            · rw [show c + 1 = n by omega, Nat.mod_self]; split <;> split <;> omega
          generalize (c + 1) % n = c2 at *
          have hw2 : IntKind.i64.wrap (c2 : Int) = (c2 : Int) := i64w _ (by omega) (by omega)
          have HDS := Lib.hid hds
          clear hcb hd1 hds hne hcu hba
          go_wp2
          go_roundw
          case rel => first | exact ⟨c2, by go_num, hlt2, by first | rfl | trivial⟩ | exact ⟨_, ⟨c2, by go_num, hlt2, by first | rfl | trivial⟩, rfl⟩ | exact ⟨_, _, ⟨c2, by go_num, hlt2, by first | rfl | trivial⟩, rfl, rfl⟩ | exact ⟨_, _, _, ⟨c2, by go_num, hlt2, by first | rfl | trivial⟩, rfl, rfl, rfl⟩ | exact ⟨_, _, _, _, ⟨c2, by go_num, hlt2, by first | rfl | trivial⟩, rfl, rfl, rfl, rfl⟩ | exact ⟨_, _, _, _, _, ⟨c2, by go_num, hlt2, by first | rfl | trivial⟩, rfl, rfl, rfl, rfl, rfl⟩
          case measure => have := HDS.out; simp [intOf] <;> omega
        · have hd1 : decide (c ∈ ats) = false := by simpa using hcu
          rw [hd1] at hc1
          have hset := usedL_set ats c (by omega)
          have HSET := Lib.hid hset
          have hn1 : (ats ++ [c]).Nodup := by
            rw [List.nodup_append]
            exact ⟨HN.out, by simp, fun x hx y hy e => by rw [List.mem_singleton.1 hy] at e; exact hcu (by rw [← e]; exact hx)⟩
          have hn2 : ∀ y ∈ ats ++ [c], y < n := fun y hy => by
            rcases List.mem_append.mp hy with h | h
            · exact HT.out y h
            · rw [List.mem_singleton.1 h]; exact hcn
          have hn3 : natI (ats ++ [c]) = natI ats ++ [(c : Int)] := by simp [natI]
          have HN1 := Lib.hid hn1
          have HN2 := Lib.hid hn2
          have HN3 := Lib.hid hn3
          clear hcb hd1 hset hcu hba hn1 hn2 hn3
          go_wp2_with (first
            | ((with_reducible refine gStore ?_); refine aCell (v := .bool true) (new := usedL (ats ++ [c])) H _ _ rfl rfl rfl rfl rfl (by rw [usedL_len]; omega) HSET.out rfl ?_; clear H hc1; intro w' H; (try dsimp only at H))
            | (at_builtin; refine aAppLit sI [(c : Int)] #[.int .i64 (c : Int)] rfl (by simp) 1 rfl H _ _ rfl rfl rfl (by show (_ + 1) * 8 ≤ _; omega) rfl ?_; clear H; intro v' w' ys HY H; (try dsimp only at H); obtain ⟨A', c', rfl, hc'⟩ := (H.hold.rr v').len)
            | ((with_reducible refine gDst 7 ?_); refine aAlloc H rfl rfl ?_; clear H; intro b7 w7 H)
            | ((with_reducible refine gDst 9 ?_); refine aAlloc H rfl rfl ?_; clear H; intro b9 w9 H)
            | ((with_reducible refine gDst 47 ?_); refine aEmpty sB H rfl rfl ?_; clear H; intro b47 w47 H)
            | ((with_reducible refine gDst 13 ?_); refine aAlloc H rfl rfl ?_; clear H; intro b13 w13 H)
            | ((with_reducible refine gDst 15 ?_); refine aAlloc H rfl rfl ?_; clear H; intro b15 w15 H)
            | ((with_reducible refine gLoad ?_); first | (refine aLoad1 H _ rfl rfl (by first | exact (rfl : _ = some (Value.int _ _)) | exact (rfl : _ = some (Value.slice _ _ _)) | exact (rfl : _ = some (Value.bool _)) | exact (rfl : _ = some (Value.string _)) | exact (rfl : _ = some (Value.pointer _)) | rfl | (simp [List.getElem?_append]; done)) rfl ?_) | (refine aLoadC _ rfl rfl (by assumption) rfl ?_) | (refine aLoad H _ rfl rfl (by first | exact part_all (by first | rfl | simp []) | (simp only [List.drop_succ_cons, List.drop_zero, List.take_succ_cons, List.take_zero]; rfl) | (simp [List.drop_append, List.take_append]; rfl)) (by first | rfl | simp []) rfl ?_))
            | ((with_reducible refine gBuild ?_); refine aZero rfl rfl ?_)
            | ((with_reducible refine gStore ?_); (first | (refine aCell H _ _ rfl rfl (by first | exact (rfl : _ = Value.int _ _) | exact (rfl : _ = Value.bool _) | exact (rfl : _ = Value.slice _ _ _) | exact (rfl : _ = Value.string _) | exact (rfl : _ = Value.pointer _) | exact (rfl : _ = Value.func _ _ _) | rfl) (by rfl) (by rfl) (by first | exact of_decide_eq_true rfl | (simp []; done) | (simp []; omega)) (by first | (simp only [List.set_cons_zero, List.set_cons_succ]; rfl) | (simp [List.set_append]; rfl)) rfl ?_) | (refine aStore H _ _ rfl rfl rfl (by (first | exact ⟨rfl, rfl⟩ | exact ⟨by decide, rfl⟩ | (simp []; done) | (constructor <;> simp [] <;> omega))) (by first | rfl | simp [List.all_append, one_all]) rfl ?_) | (refine aLay H _ _ rfl rfl rfl (by (first | exact ⟨rfl, rfl⟩ | exact ⟨by decide, rfl⟩ | (simp []; done) | (constructor <;> simp [] <;> omega))) (by first | rfl | simp [List.all_append, one_all]) (by simp only [lay, List.take_succ_cons, List.take_zero, List.drop_succ_cons, List.drop_zero, List.nil_append, List.cons_append, List.length_cons, List.length_nil, Nat.zero_add, Nat.reduceAdd]; rfl) rfl ?_)); clear H; intro w' H; try dsimp only at H)
            | (at_builtin; refine aAppB1 _ H _ _ rfl rfl rfl (by first | omega | (have := HCL.out; omega)) rfl ?_; clear H; intro v' w' ys HY H; (try dsimp only at H); obtain ⟨A', c', rfl, hc'⟩ := (H.hold.rr v').len))
          go_roundw
          case rel => first | exact ⟨i + 1, ats ++ [c], A', c', by go_num, by omega, by rw [HN3.out, ← HY.out], by (show (ats ++ [c]).length = i + 1; rw [List.length_append, HL.out]; rfl), HN1, HN2, by rw [HN3.out, ← HY.out]; exact H⟩ | exact ⟨_, ⟨i + 1, ats ++ [c], A', c', by go_num, by omega, by rw [HN3.out, ← HY.out], by (show (ats ++ [c]).length = i + 1; rw [List.length_append, HL.out]; rfl), HN1, HN2, by rw [HN3.out, ← HY.out]; exact H⟩, rfl⟩ | exact ⟨_, _, ⟨i + 1, ats ++ [c], A', c', by go_num, by omega, by rw [HN3.out, ← HY.out], by (show (ats ++ [c]).length = i + 1; rw [List.length_append, HL.out]; rfl), HN1, HN2, by rw [HN3.out, ← HY.out]; exact H⟩, rfl, rfl⟩ | exact ⟨_, _, _, ⟨i + 1, ats ++ [c], A', c', by go_num, by omega, by rw [HN3.out, ← HY.out], by (show (ats ++ [c]).length = i + 1; rw [List.length_append, HL.out]; rfl), HN1, HN2, by rw [HN3.out, ← HY.out]; exact H⟩, rfl, rfl, rfl⟩ | exact ⟨_, _, _, _, ⟨i + 1, ats ++ [c], A', c', by go_num, by omega, by rw [HN3.out, ← HY.out], by (show (ats ++ [c]).length = i + 1; rw [List.length_append, HL.out]; rfl), HN1, HN2, by rw [HN3.out, ← HY.out]; exact H⟩, rfl, rfl, rfl, rfl⟩ | exact ⟨_, _, _, _, _, ⟨i + 1, ats ++ [c], A', c', by go_num, by omega, by rw [HN3.out, ← HY.out], by (show (ats ++ [c]).length = i + 1; rw [List.length_append, HL.out]; rfl), HN1, HN2, by rw [HN3.out, ← HY.out]; exact H⟩, rfl, rfl, rfl, rfl, rfl⟩
          case measure => simp [intOf] <;> omega
    · obtain rfl : k = i := by omega
      obtain ⟨hpl, hpk⟩ := HKP.out ats n k hn hkn HL.out HN.out HT.out
      rw [hcl] at hpl hpk
      have hbad : (natI ats).any (badRow (n : Int)) = false := by
        rw [List.any_eq_false]
        intro x hx
        obtain ⟨a, ha, rfl⟩ := List.mem_map.1 hx
        have := HT.out a ha
        simp [badRow]; omega
      have c1 : ∀ W, RB W (.slice A1 cl.length p1) cl → RI W (.slice A (natI ats).length cp) (natI ats) → Calls Try.prog 21 #[.agg (mxT.enc ((n : Int), (k : Int), A1, cl.length, p1)).toArray, .slice A (natI ats).length cp] W fun e w' => GivesP mxT W k k (pickL cl k (natI ats)) 0 e w' := fun W h1 h2 => (CP.out W A1 p1 _ ats h1 h2 HL.out).mono fun e w' h => by
        rcases h with ⟨_, h⟩ | ⟨h, _⟩
        · rw [natI_len, HL.out] at h; exact GivesP.of h
        · rw [hbad] at h; cases h
      have hml : mayB k k (pickL cl k (natI ats)).length = true := by rw [hpl]; exact mayB_sq hk1 (by omega)
      have hfull := full_run (pickL cl k (natI ats)) k hpk
      have hrk : rankI k k (pickL cl k (natI ats)) = k := by
        have h1 := rank_wide (pickL cl k (natI ats)) k hpl
        have h2 := (run_wide nzI picks_nz (pickL cl k (natI ats)) k).2
        rw [← clr_run] at h2
        rw [rankI, hml, if_pos rfl]
        show (clr k k (rowsL (pickL cl k (natI ats)) k k) k).2 = k
        omega
      have hll : (pickL cl k (natI ats)).length ≤ 100000 := by rw [hpl]; have := Nat.mul_le_mul hk8 hk8; omega
      have c3 := fun (W : World) (A : Option Addr) (p : Nat) (h : RB W (.slice A (pickL cl k (natI ats)).length p) (pickL cl k (natI ats))) => Rank_any (k : Int) (k : Int) A p (pickL cl k (natI ats)) W h hll
      rw [hrk] at c3
      have c2 := fun (W : World) (A : Option Addr) (p : Nat) (h : RB W (.slice A (pickL cl k (natI ats)).length p) (pickL cl k (natI ats))) => Inverse_ok (pickL cl k (natI ats)) k A p W h (rb_cap h) hml
      obtain ⟨B, hB⟩ : ∃ B, invT (clr k (k + k) (wideM (pickL cl k (natI ats)) k (k + k)) k) k = ((k : Int), (k : Int), fillL k k B, (0 : Int)) := by
        rcases invT_cases (pickL cl k (natI ats)) k hpl with ⟨h1, _⟩ | ⟨B, h1, _, _⟩
        · rw [invT, if_neg hfull] at h1
          injection h1 with h1 _
          omega
        · exact ⟨B, h1⟩
      rw [hB] at c2
      generalize pickL cl k (natI ats) = pm at *
      generalize fillL k k B = zl at *
      have hkk : ((k : Int) == (k : Int)) = true := by simp
      clear hpl hpk hbad hml hfull hrk hll hB HKP CP HCELL HL HN HT
      go_wp2_with (first
        | ((with_reducible refine gDst 7 ?_); refine aAlloc H rfl rfl ?_; clear H; intro b7 w7 H)
        | ((with_reducible refine gDst 9 ?_); refine aAlloc H rfl rfl ?_; clear H; intro b9 w9 H)
        | ((with_reducible refine gDst 47 ?_); refine aEmpty sB H rfl rfl ?_; clear H; intro b47 w47 H)
        | ((with_reducible refine gDst 13 ?_); refine aAlloc H rfl rfl ?_; clear H; intro b13 w13 H)
        | ((with_reducible refine gDst 15 ?_); refine aAlloc H rfl rfl ?_; clear H; intro b15 w15 H)
        | ((with_reducible refine gLoad ?_); first | (refine aLoad1 H _ rfl rfl (by first | exact (rfl : _ = some (Value.int _ _)) | exact (rfl : _ = some (Value.slice _ _ _)) | exact (rfl : _ = some (Value.bool _)) | exact (rfl : _ = some (Value.string _)) | exact (rfl : _ = some (Value.pointer _)) | rfl | (simp [List.getElem?_append]; done)) rfl ?_) | (refine aLoadC _ rfl rfl (by assumption) rfl ?_) | (refine aLoad H _ rfl rfl (by first | exact part_all (by first | rfl | simp []) | (simp only [List.drop_succ_cons, List.drop_zero, List.take_succ_cons, List.take_zero]; rfl) | (simp [List.drop_append, List.take_append]; rfl)) (by first | rfl | simp []) rfl ?_))
        | ((with_reducible refine gBuild ?_); refine aZero rfl rfl ?_)
        | ((with_reducible refine gStore ?_); (first | (refine aCell H _ _ rfl rfl (by first | exact (rfl : _ = Value.int _ _) | exact (rfl : _ = Value.bool _) | exact (rfl : _ = Value.slice _ _ _) | exact (rfl : _ = Value.string _) | exact (rfl : _ = Value.pointer _) | exact (rfl : _ = Value.func _ _ _) | rfl) (by rfl) (by rfl) (by first | exact of_decide_eq_true rfl | (simp []; done) | (simp []; omega)) (by first | (simp only [List.set_cons_zero, List.set_cons_succ]; rfl) | (simp [List.set_append]; rfl)) rfl ?_) | (refine aStore H _ _ rfl rfl rfl (by (first | exact ⟨rfl, rfl⟩ | exact ⟨by decide, rfl⟩ | (simp []; done) | (constructor <;> simp [] <;> omega))) (by first | rfl | simp [List.all_append, one_all]) rfl ?_) | (refine aLay H _ _ rfl rfl rfl (by (first | exact ⟨rfl, rfl⟩ | exact ⟨by decide, rfl⟩ | (simp []; done) | (constructor <;> simp [] <;> omega))) (by first | rfl | simp [List.all_append, one_all]) (by simp only [lay, List.take_succ_cons, List.take_zero, List.drop_succ_cons, List.drop_zero, List.nil_append, List.cons_append, List.length_cons, List.length_nil, Nat.zero_add, Nat.reduceAdd]; rfl) rfl ?_)); clear H; intro w' H; try dsimp only at H)
        | (at_builtin; refine aAppB1 _ H _ _ rfl rfl rfl (by first | omega | (have := HCL.out; omega)) rfl ?_; clear H; intro v' w' ys HY H; (try dsimp only at H); obtain ⟨A', c', rfl, hc'⟩ := (H.hold.rr v').len)
        | (go_at_call 21; (with_reducible refine (c1 _ (H.hold.rd _) (H.hold.rd _)).mono ?_); rintro e w' ⟨A2, p2, rfl, ho, hb⟩; replace H := H.pushRow hb ho; clear hb ho)
        | (go_at_call 29; (with_reducible refine (c2 _ A2 p2 (H.hold.rd _)).mono ?_); rintro e w' ⟨A3, p3, rfl, ho, hb⟩; replace H := H.pushRow hb ho; clear hb ho)
        | (go_at_call 31; (with_reducible refine (c3 _ A2 p2 (H.hold.rd _)).mono ?_); rintro e w' ⟨rfl, hb⟩; replace H := H.step hb; clear hb)
        | (go_at_call 20; (with_reducible refine (cL _).mono ?_); rintro e w' ⟨rfl, hb⟩; replace H := H.step hb; clear hb))
      go_ret
      exact ⟨rfl, H.below⟩
theorem MatrixAny_any (k n : Int) (vr : Value) (rs : List Int) (w : World) (hr : RI w vr rs) :
    Calls Try.prog 10 #[.int .i64 k, .int .i64 n, vr] w fun e w' => e = .returned (.bool true) ∧ Below w.heap.size w w' := by
  by_cases h1 : k < 1 ∨ n < k ∨ 32 < n
  · exact Any_early k n vr rs w hr (.inl h1)
  · by_cases h2 : 8 < k
    · exact Any_early k n vr rs w hr (.inr (.inl ⟨h1, h2⟩))
    · by_cases h3 : (rs.length : Int) < k
      · exact Any_early k n vr rs w hr (.inr (.inr ⟨h1, h2, h3⟩))
      · obtain ⟨a, rfl⟩ : ∃ a : Nat, k = (a : Int) := ⟨k.toNat, by omega⟩
        obtain ⟨b, rfl⟩ : ∃ b : Nat, n = (b : Int) := ⟨n.toNat, by omega⟩
        exact Any_main a b vr rs w hr (by omega) (by omega) (by omega) (by omega) (by omega)
end Go.Proofs.Ytfnneneaalaagaa

namespace Go.Proofs.Ytfnneneaalaagaa
set_option maxRecDepth 100000
open Go.RowKit Go.ChangeShapes Go.WideShapes

theorem wf_u8 {a : Int} (h : (Lit.int .u8 a).wf = true) : ∃ x : UInt8, a = (x.toNat : Int) := by
  simp [Lit.wf, IntKind.min, IntKind.max, IntKind.bits, IntKind.signed] at h
  refine ⟨UInt8.ofNat a.toNat, ?_⟩
  rw [UInt8.toNat_ofNat']
  omega
theorem wf_u32 {a : Int} (h : (Lit.int .u32 a).wf = true) : ∃ n : Nat, a = (n : Int) ∧ n < 4294967296 := by
  simp [Lit.wf, IntKind.min, IntKind.max, IntKind.bits, IntKind.signed] at h
  exact ⟨a.toNat, by omega, by omega⟩
theorem wf_u64 {a : Int} (h : (Lit.int .u64 a).wf = true) : ∃ n : Nat, a = (n : Int) ∧ n < 18446744073709551616 := by
  simp [Lit.wf, IntKind.min, IntKind.max, IntKind.bits, IntKind.signed] at h
  exact ⟨a.toNat, by omega, by omega⟩
theorem wf_i64 {a : Int} (h : (Lit.int .i64 a).wf = true) : -9223372036854775808 ≤ a ∧ a ≤ 9223372036854775807 := by
  simp [Lit.wf, IntKind.min, IntKind.max, IntKind.bits, IntKind.signed] at h
  omega

/-- A slice of bytes that came in. -/
theorem open_bytes {H : Type} {enc : TypeId × Value → H} {P : Program} {W : World} {base : Nat} {spare : Nat → Bool} {held : Bool} {t e : TypeId} {a : Option Addr} {len cap : Nat} {d : DataW H} {ps : List MemPlace}
    (hu : P.underlying t = some (.slice e)) (he : P.underlying e = some (.int .u8)) (hc : P.cellsOf e = 1)
    (h : DataW.Trod enc P W base spare held t (.slice a len cap) d ps) : ∃ xs : List UInt8, RR (U8 e) W (.slice a len cap) xs := by
  obtain ⟨fuel, hf⟩ := h
  rcases open_ints hu he hc hf with ⟨hcs, _⟩ | ⟨x, l, c, zs, hcs, _, hl, hm, hz, _, hcell, hwz⟩
  · simp [Value.cells] at hcs
    obtain ⟨rfl, rfl, rfl⟩ := hcs
    exact ⟨[], RR.nil W⟩
  · simp [Value.cells] at hcs
    obtain ⟨rfl, rfl, rfl⟩ := hcs
    have hlz : len ≤ zs.length := by
      rw [hz]
      split
      · exact hl
      · exact Nat.le_refl _
    have hz2 : ((zs.take len).map fun n => UInt8.ofNat n.toNat).length = len := by simp; omega
    refine ⟨(zs.take len).map fun n => UInt8.ofNat n.toNat, some x, cap, by rw [hz2], by omega, by simp only [maxLen] at hm; omega, fun _ => ⟨x, rfl, fun j u hj => ?_⟩⟩
    rw [U8_all] at hj
    have hjl : j < len := by have := (List.getElem?_eq_some_iff.1 hj).1; simp at this; omega
    rw [hcell j (by omega), ← hj]
    simp only [List.map_map, List.getElem?_map, List.getElem?_take, hjl, if_true, List.getElem?_eq_getElem (show j < zs.length by omega), Option.map_some, Function.comp_apply, cb, List.getD_eq_getElem?_getD, Option.getD_some]
    obtain ⟨b, hb⟩ := wf_u8 (hwz zs[j] (List.getElem_mem _))
    rw [hb]
    simp
end Go.Proofs.Ytfnneneaalaagaa

namespace Go.Proofs.Ytfnneneaalaagaa
set_option maxRecDepth 100000
open Go.RowKit Go.ChangeShapes Go.WideShapes

theorem trod_leaf {H : Type} {enc : TypeId × Value → H} {P : Program} {W : World} {base : Nat} {spare : Nat → Bool} {held : Bool} {t : TypeId} {k : IntKind} {cs : List Value} {x : DataW H × List MemPlace} {fuel : Nat}
    (hu : P.underlying t = some (.int k)) (h : DataW.trod enc P W base spare held fuel t cs = some x) : ∃ n, cs = [.int k n] ∧ (Lit.int k n).wf = true := by
  cases fuel with
  | zero => simp [DataW.trod] at h
  | succ fuel =>
    rcases cs with _ | ⟨v, _ | ⟨u, r⟩⟩
    · simp [DataW.trod, hu] at h
    · cases v <;> simp [DataW.trod, hu] at h
      rename_i k' n
      obtain ⟨⟨rfl, h1⟩, _⟩ := h
      exact ⟨n, rfl, h1⟩
    · simp [DataW.trod, hu] at h
theorem mapM_each {β γ : Type} (f : β → Option γ) : ∀ (l : List β) (r : List γ), l.mapM f = some r → ∀ x ∈ l, ∃ y, f x = some y
  | [], _, _, x, hx => by simp at hx
  | b :: l, r, h, x, hx => by
    simp only [List.mapM_cons, Option.bind_eq_bind, Option.pure_def] at h
    cases hb : f b with
    | none => simp [hb] at h
    | some y =>
      cases hl : l.mapM f with
      | none => simp [hb, hl] at h
      | some ys =>
        rcases List.mem_cons.mp hx with rfl | hx
        · exact ⟨y, hb⟩
        · exact mapM_each f l ys hl x hx
/-- A row of m elements, each one of which reads. -/
theorem trod_array {H : Type} {enc : TypeId × Value → H} {P : Program} {W : World} {base : Nat} {spare : Nat → Bool} {held : Bool} {t e : TypeId} {m : Nat} {cs : List Value} {x : DataW H × List MemPlace} {fuel : Nat}
    (hu : P.underlying t = some (.array m e)) (h : DataW.trod enc P W base spare held (fuel + 1) t cs = some x) :
    cs.length = P.cellsOf t ∧ ∀ i, i < m → ∃ y, DataW.trod enc P W base spare held fuel e ((cs.drop (i * P.cellsOf e)).take (P.cellsOf e)) = some y := by
  unfold DataW.trod at h
  rw [hu] at h
  simp only at h
  split at h
  · rename_i hl
    refine ⟨hl, fun i hi => ?_⟩
    cases hm : (List.range m).mapM fun i => DataW.trod enc P W base spare held fuel e ((cs.drop (i * P.cellsOf e)).take (P.cellsOf e)) with
    | none => simp [hm] at h
    | some r => exact mapM_each _ _ _ hm i (by simpa using hi)
  · cases h
theorem trod_fields {H : Type} {enc : TypeId × Value → H} {P : Program} {W : World} {base : Nat} {spare : Nat → Bool} {held : Bool} {t : TypeId} {fs : Array Field} {cs : List Value} {x : DataW H × List MemPlace} {fuel : Nat}
    (hu : P.underlying t = some (.struct fs)) (h : DataW.trod enc P W base spare held (fuel + 1) t cs = some x) :
    cs.length = P.cellsOf t ∧ ∀ f ∈ fs.toList, ∃ y, DataW.trod enc P W base spare held fuel f.type ((cs.drop f.offset).take (P.cellsOf f.type)) = some y := by
  unfold DataW.trod at h
  rw [hu] at h
  simp only at h
  split at h
  · rename_i hl
    refine ⟨hl, fun f hf => ?_⟩
    cases hm : fs.toList.mapM fun f => DataW.trod enc P W base spare held fuel f.type ((cs.drop f.offset).take (P.cellsOf f.type)) with
    | none => simp [hm] at h
    | some r => exact mapM_each _ _ _ hm f hf
  · cases h

/-- A list, each cell of which is told. -/
theorem list_of {α : Type} (f : α → Value) (cs : List Value) (h : ∀ i, i < cs.length → ∃ x, cs[i]? = some (f x)) : ∃ l : List α, l.length = cs.length ∧ cs = l.map f := by
  induction cs with
  | nil => exact ⟨[], rfl, rfl⟩
  | cons c cs ih =>
    obtain ⟨x, hx⟩ := h 0 (by simp)
    obtain ⟨l, hl, he⟩ := ih (fun i hi => by
      obtain ⟨y, hy⟩ := h (i + 1) (by simpa using hi)
      exact ⟨y, by simpa using hy⟩)
    refine ⟨x :: l, by simp [hl], ?_⟩
    rw [List.map_cons, ← he]
    simp at hx
    rw [hx]
theorem wf_u32' {a : Int} (h : (Lit.int .u32 a).wf = true) : ∃ x : UInt32, a = (x.toNat : Int) := by
  obtain ⟨n, rfl, hn⟩ := wf_u32 h
  exact ⟨UInt32.ofNat n, by rw [UInt32.toNat_ofNat', Nat.mod_eq_of_lt hn]⟩
theorem take_one {cs : List Value} {i : Nat} {v : Value} (h : (cs.drop i).take 1 = [v]) : cs[i]? = some v := by
  have := congrArg (fun l => l[0]?) h
  simp only [List.getElem?_take, List.getElem?_drop, Nat.add_zero] at this
  simpa using this

end Go.Proofs.Ytfnneneaalaagaa

namespace Go.Proofs.Ytfnneneaalaagaa
open Go.RowKit
set_option linter.unusedSimpArgs false
set_option linter.unusedVariables false

def i2C (p : Int × Int) : List Value := [.int .i64 p.1, .int .i64 p.2]
theorem i2C_one (m : Int × Int) : ∀ v ∈ i2C m, v.oneCell' = true := by
  intro v hv
  simp only [i2C, List.mem_cons, List.not_mem_nil, or_false] at hv
  rcases hv with rfl | rfl <;> rfl
def i2T : AT Try.prog (Int × Int) := ⟨34, i2C, 2, fun _ => rfl, i2C_one, _, Try.underlying34, rfl, by kernel_rfl, (0, 0), by kernel_rfl, by kernel_rfl⟩
set_option maxHeartbeats 3200000 in
set_option maxRecDepth 100000 in
theorem MatrixPick_any (r c : Int) (l : List UInt8) (A0 : Option Addr) (cp0 : Nat) (vr : Value) (rs : List Int) (k n : Int) (w : World) (hv : RB w (.slice A0 l.length cp0) l) (hcp : l.length ≤ cp0) (hvr : RI w vr rs) :
    Calls Try.prog 7 #[.agg (mxT.enc (r, c, A0, l.length, cp0)).toArray, vr, .agg (i2T.enc (k, n)).toArray] w fun e w' => e = .returned (.bool true) ∧ Below w.heap.size w w' := by
  have H0 := SH.start Nil w
  obtain ⟨r1, c1, l1, E1, P1, P2⟩ := Pick_pair l r c A0 cp0 vr rs hcp
  obtain ⟨r2, c2, l2, E2, U1, U2⟩ := Unit_pair k
  obtain ⟨r3, c3, l3, E3, C1, C2⟩ := Code_pair k n
  have cS : ∀ W, Calls Try.prog 19 #[.agg (mxT.enc (r, c, A0, l.length, cp0)).toArray] W fun e w' => e = .returned (.bool (smallB r c l.length)) ∧ Below W.heap.size W w' := fun W => small_any r c A0 l.length cp0 W
  have cL : ∀ W, Calls Try.prog 20 #[] W fun e w' => e = .returned (.bool true) ∧ Below W.heap.size W w' := alive26_any
  have cP : ∀ W, Calls Try.prog 23 #[.agg (mxT.enc (r, c, A0, l.length, cp0)).toArray] W fun e w' => e = .returned (.agg (rxT.enc (r, c, A0, l.length, cp0)).toArray) ∧ Below W.heap.size W w' := fun W => plain26_any r c A0 l.length cp0 W
  obtain ⟨Ar, cr, hvre, -⟩ := id hvr
  have HP1 := Lib.hid P1
  have HP2 := Lib.hid P2
  have HV := Lib.hid hv
  have HR := Lib.hid hvr
  clear P1 P2 hv hvr
  subst hvre
  generalize smallB r c l.length = sm at cS
  cases sm with
  | false =>
    go_enter Try.func7, Try.ntmps7
    go_wp2_with (first
      | ((with_reducible refine gBox ?_); refine wBox i2T (k, n) H1 _ rfl rfl rfl ?_; clear H1; intro w2 HH; have H2 := HH.drew; clear HH; have HS0 := H2.va 0 rfl)
      | ((with_reducible refine gBox ?_); refine wBox mxT (r, c, A0, l.length, cp0) H0 _ rfl rfl rfl ?_; clear H0; intro w1 H1))
    refine startS (fun w' => VA w' w1.heap.size 34 (i2C (k, n))) (by kernel_rfl) HS0 ?_
    refine takeS 0 HS0 rfl (by kernel_rfl) (by kernel_rfl) (by kernel_rfl) (fun _ _ _ h => h) rfl (v := ?_) ?_ ?_
    rotate_left
    · intro w' hw'; clear hw'; go_simp; (try with_reducible rfl)
    (try simp only [Act.put, List.setIfInBounds_toArray, List.set_cons_zero, List.set_cons_succ])
    refine takeS 1 HS0 rfl (by kernel_rfl) (by kernel_rfl) (by kernel_rfl) (fun _ _ _ h => h) rfl (v := ?_) ?_ ?_
    rotate_left
    · intro w' hw'; have k5 : w'.cell? ⟨w1.heap.size, 0, none⟩ = some (.int .i64 k) := VA.cell hw' 0; clear hw'; go_simp; (try with_reducible rfl)
    (try simp only [Act.put, List.setIfInBounds_toArray, List.set_cons_zero, List.set_cons_succ])
    refine takeS 2 HS0 rfl (by kernel_rfl) (by kernel_rfl) (by kernel_rfl) (fun _ _ _ h => h) rfl (v := ?_) ?_ ?_
    rotate_left
    · intro w' hw'; clear hw'; go_simp; (try with_reducible rfl)
    (try simp only [Act.put, List.setIfInBounds_toArray, List.set_cons_zero, List.set_cons_succ])
    refine takeS 3 HS0 rfl (by kernel_rfl) (by kernel_rfl) (by kernel_rfl) (fun _ _ _ h => h) rfl (v := ?_) ?_ ?_
    rotate_left
    · intro w' hw'; have k5 : w'.cell? ⟨w1.heap.size, 1, none⟩ = some (.int .i64 n) := VA.cell hw' 1; clear hw'; go_simp; (try with_reducible rfl)
    (try simp only [Act.put, List.setIfInBounds_toArray, List.set_cons_zero, List.set_cons_succ])
    refine takeS 4 HS0 rfl (by kernel_rfl) (by kernel_rfl) (by kernel_rfl) (fun _ _ _ h => h) rfl (v := ?_) ?_ ?_
    rotate_left
    · intro w' hw'; clear hw'; go_simp; (try with_reducible rfl)
    (try simp only [Act.put, List.setIfInBounds_toArray, List.set_cons_zero, List.set_cons_succ])
    refine takeS 5 HS0 rfl (by kernel_rfl) (by kernel_rfl) (by kernel_rfl) (fun _ _ _ h => h) rfl (v := ?_) ?_ ?_
    rotate_left
    · intro w' hw'; clear hw'; go_simp; (try with_reducible rfl)
    (try simp only [Act.put, List.setIfInBounds_toArray, List.set_cons_zero, List.set_cons_succ])
    refine doneS (by kernel_rfl) ?_
    clear HS0
    go_wp2_with (first
      | ((with_reducible refine gLoad ?_); refine wLoad mxT (r, c, A0, l.length, cp0) H2 1 rfl rfl _ rfl rfl rfl ?_)
      | (go_at_call 19; (with_reducible refine (cS _).mono ?_); rintro e w3 ⟨rfl, hb⟩; have H3 := H2.step hb; clear H2 hb)
      | (go_at_call 20; (with_reducible refine (cL _).mono ?_); rintro e w4 ⟨rfl, hb⟩; have H4 := H3.step hb; clear H3 hb))
    go_ret
    exact ⟨rfl, H4.below⟩
  | true =>
    by_cases h40 : 40 < (rs.length : Int)
    · have d40 : decide ((40 : Int) < (rs.length : Int)) = true := by simpa using h40
      go_enter Try.func7, Try.ntmps7
      go_wp2_with (first
        | ((with_reducible refine gBox ?_); refine wBox i2T (k, n) H1 _ rfl rfl rfl ?_; clear H1; intro w2 HH; have H2 := HH.drew; clear HH; have HS0 := H2.va 0 rfl)
        | ((with_reducible refine gBox ?_); refine wBox mxT (r, c, A0, l.length, cp0) H0 _ rfl rfl rfl ?_; clear H0; intro w1 H1))
      refine startS (fun w' => VA w' w1.heap.size 34 (i2C (k, n))) (by kernel_rfl) HS0 ?_
      refine takeS 0 HS0 rfl (by kernel_rfl) (by kernel_rfl) (by kernel_rfl) (fun _ _ _ h => h) rfl (v := ?_) ?_ ?_
      rotate_left
      · intro w' hw'; clear hw'; go_simp; (try with_reducible rfl)
      (try simp only [Act.put, List.setIfInBounds_toArray, List.set_cons_zero, List.set_cons_succ])
      refine takeS 1 HS0 rfl (by kernel_rfl) (by kernel_rfl) (by kernel_rfl) (fun _ _ _ h => h) rfl (v := ?_) ?_ ?_
      rotate_left
      · intro w' hw'; have k5 : w'.cell? ⟨w1.heap.size, 0, none⟩ = some (.int .i64 k) := VA.cell hw' 0; clear hw'; go_simp; (try with_reducible rfl)
      (try simp only [Act.put, List.setIfInBounds_toArray, List.set_cons_zero, List.set_cons_succ])
      refine takeS 2 HS0 rfl (by kernel_rfl) (by kernel_rfl) (by kernel_rfl) (fun _ _ _ h => h) rfl (v := ?_) ?_ ?_
      rotate_left
      · intro w' hw'; clear hw'; go_simp; (try with_reducible rfl)
      (try simp only [Act.put, List.setIfInBounds_toArray, List.set_cons_zero, List.set_cons_succ])
      refine takeS 3 HS0 rfl (by kernel_rfl) (by kernel_rfl) (by kernel_rfl) (fun _ _ _ h => h) rfl (v := ?_) ?_ ?_
      rotate_left
      · intro w' hw'; have k5 : w'.cell? ⟨w1.heap.size, 1, none⟩ = some (.int .i64 n) := VA.cell hw' 1; clear hw'; go_simp; (try with_reducible rfl)
      (try simp only [Act.put, List.setIfInBounds_toArray, List.set_cons_zero, List.set_cons_succ])
      refine takeS 4 HS0 rfl (by kernel_rfl) (by kernel_rfl) (by kernel_rfl) (fun _ _ _ h => h) rfl (v := ?_) ?_ ?_
      rotate_left
      · intro w' hw'; clear hw'; go_simp; (try with_reducible rfl)
      (try simp only [Act.put, List.setIfInBounds_toArray, List.set_cons_zero, List.set_cons_succ])
      refine takeS 5 HS0 rfl (by kernel_rfl) (by kernel_rfl) (by kernel_rfl) (fun _ _ _ h => h) rfl (v := ?_) ?_ ?_
      rotate_left
      · intro w' hw'; clear hw'; go_simp; (try with_reducible rfl)
      (try simp only [Act.put, List.setIfInBounds_toArray, List.set_cons_zero, List.set_cons_succ])
      refine doneS (by kernel_rfl) ?_
      clear HS0
      go_wp2_with (first
        | ((with_reducible refine gLoad ?_); refine wLoad mxT (r, c, A0, l.length, cp0) H2 1 rfl rfl _ rfl rfl rfl ?_)
        | (go_at_call 19; (with_reducible refine (cS _).mono ?_); rintro e w3 ⟨rfl, hb⟩; have H3 := H2.step hb; clear H2 hb)
        | (go_at_call 20; (with_reducible refine (cL _).mono ?_); rintro e w4 ⟨rfl, hb⟩; have H4 := H3.step hb; clear H3 hb))
      go_ret
      exact ⟨rfl, H4.below⟩
    · have d40 : decide ((40 : Int) < (rs.length : Int)) = false := by simpa using h40
      go_enter Try.func7, Try.ntmps7
      go_wp2_with (first
        | ((with_reducible refine gBox ?_); refine wBox i2T (k, n) H1 _ rfl rfl rfl ?_; clear H1; intro w2 HH; have H2 := HH.drew; clear HH; have HS0 := H2.va 0 rfl)
        | ((with_reducible refine gBox ?_); refine wBox mxT (r, c, A0, l.length, cp0) H0 _ rfl rfl rfl ?_; clear H0; intro w1 H1))
      refine startS (fun w' => VA w' w1.heap.size 34 (i2C (k, n))) (by kernel_rfl) HS0 ?_
      refine takeS 0 HS0 rfl (by kernel_rfl) (by kernel_rfl) (by kernel_rfl) (fun _ _ _ h => h) rfl (v := ?_) ?_ ?_
      rotate_left
      · intro w' hw'; clear hw'; go_simp; (try with_reducible rfl)
      (try simp only [Act.put, List.setIfInBounds_toArray, List.set_cons_zero, List.set_cons_succ])
      refine takeS 1 HS0 rfl (by kernel_rfl) (by kernel_rfl) (by kernel_rfl) (fun _ _ _ h => h) rfl (v := ?_) ?_ ?_
      rotate_left
      · intro w' hw'; have k5 : w'.cell? ⟨w1.heap.size, 0, none⟩ = some (.int .i64 k) := VA.cell hw' 0; clear hw'; go_simp; (try with_reducible rfl)
      (try simp only [Act.put, List.setIfInBounds_toArray, List.set_cons_zero, List.set_cons_succ])
      refine takeS 2 HS0 rfl (by kernel_rfl) (by kernel_rfl) (by kernel_rfl) (fun _ _ _ h => h) rfl (v := ?_) ?_ ?_
      rotate_left
      · intro w' hw'; clear hw'; go_simp; (try with_reducible rfl)
      (try simp only [Act.put, List.setIfInBounds_toArray, List.set_cons_zero, List.set_cons_succ])
      refine takeS 3 HS0 rfl (by kernel_rfl) (by kernel_rfl) (by kernel_rfl) (fun _ _ _ h => h) rfl (v := ?_) ?_ ?_
      rotate_left
      · intro w' hw'; have k5 : w'.cell? ⟨w1.heap.size, 1, none⟩ = some (.int .i64 n) := VA.cell hw' 1; clear hw'; go_simp; (try with_reducible rfl)
      (try simp only [Act.put, List.setIfInBounds_toArray, List.set_cons_zero, List.set_cons_succ])
      refine takeS 4 HS0 rfl (by kernel_rfl) (by kernel_rfl) (by kernel_rfl) (fun _ _ _ h => h) rfl (v := ?_) ?_ ?_
      rotate_left
      · intro w' hw'; clear hw'; go_simp; (try with_reducible rfl)
      (try simp only [Act.put, List.setIfInBounds_toArray, List.set_cons_zero, List.set_cons_succ])
      refine takeS 5 HS0 rfl (by kernel_rfl) (by kernel_rfl) (by kernel_rfl) (fun _ _ _ h => h) rfl (v := ?_) ?_ ?_
      rotate_left
      · intro w' hw'; clear hw'; go_simp; (try with_reducible rfl)
      (try simp only [Act.put, List.setIfInBounds_toArray, List.set_cons_zero, List.set_cons_succ])
      refine doneS (by kernel_rfl) ?_
      clear HS0
      go_wp2_with (first
        | ((with_reducible refine gAlloc ?_); refine wVar mxT (r1, c1, A1, l1.length, cp1) H4 rfl 9 _ rfl rfl rfl rfl rfl ?_; clear H4; intro w5 H5)
        | ((with_reducible refine gAlloc ?_); refine wVar rxT (r1, c1, A2, l1.length, cp2) H7 rfl 11 _ rfl rfl rfl rfl rfl ?_; clear H7; intro w8 H8)
        | ((with_reducible refine gAlloc ?_); refine wVar mxT (r2, c2, A3, l2.length, cp3) H9 rfl 13 _ rfl rfl rfl rfl rfl ?_; clear H9; intro w10 H10)
        | ((with_reducible refine gAlloc ?_); refine wVar rxT (r2, c2, A4, l2.length, cp4) H11 rfl 15 _ rfl rfl rfl rfl rfl ?_; clear H11; intro w12 H12)
        | ((with_reducible refine gAlloc ?_); refine wVar mxT (r3, c3, A5, l3.length, cp5) H13 rfl 17 _ rfl rfl rfl rfl rfl ?_; clear H13; intro w14 H14)
        | ((with_reducible refine gAlloc ?_); refine wVar rxT (r3, c3, A6, l3.length, cp6) H15 rfl 19 _ rfl rfl rfl rfl rfl ?_; clear H15; intro w16 H16)
        | ((with_reducible refine gLoad ?_); refine wLoad mxT (r, c, A0, l.length, cp0) H2 1 rfl rfl _ rfl rfl rfl ?_)
        | ((with_reducible refine gLoad ?_); refine wLoad mxT (r, c, A0, l.length, cp0) H3 1 rfl rfl _ rfl rfl rfl ?_)
        | ((with_reducible refine gLoad ?_); refine wLoad mxT (r, c, A0, l.length, cp0) H5 3 rfl rfl _ rfl rfl rfl ?_)
        | (go_at_call 19; (with_reducible refine (cS _).mono ?_); rintro e w3 ⟨rfl, hb⟩; have H3 := H2.step hb; clear H2 hb)
        | (go_at_call 21; (with_reducible refine (HP1.out _ (HV.out.below H3.below) (HR.out.below H3.below)).mono ?_); rintro e w4 ⟨A1, cp1, rfl, ho, hb⟩; have H4 := H3.pushRow hb ho; clear H3 ho hb)
        | (go_at_call 23; (with_reducible refine (cP _).mono ?_); rintro e w6 ⟨rfl, hb⟩; have H6 := H5.step hb; clear H5 hb)
        | (go_at_call 22; (with_reducible refine (HP2.out _ (HV.out.below H6.below) (HR.out.below H6.below)).mono ?_); rintro e w7 ⟨A2, cp2, rfl, ho, hb⟩; have H7 := H6.pushRow hb ho; clear H6 ho hb)
        | (go_at_call 24; (with_reducible refine (U1 _).mono ?_); rintro e w9 ⟨A3, cp3, rfl, ho, hb⟩; have H9 := H8.pushRow hb ho; clear H8 ho hb)
        | (go_at_call 25; (with_reducible refine (U2 _).mono ?_); rintro e w11 ⟨A4, cp4, rfl, ho, hb⟩; have H11 := H10.pushRow hb ho; clear H10 ho hb)
        | (go_at_call 26; (with_reducible refine (C1 _).mono ?_); rintro e w13 ⟨A5, cp5, rfl, ho, hb⟩; have H13 := H12.pushRow hb ho; clear H12 ho hb)
        | (go_at_call 27; (with_reducible refine (C2 _).mono ?_); rintro e w15 ⟨A6, cp6, rfl, ho, hb⟩; have H15 := H14.pushRow hb ho; clear H14 ho hb)
        | (go_at_call 20; (with_reducible refine (cL _).mono ?_); rintro e w17 ⟨rfl, hb⟩; have H17 := H16.step hb; clear H16 hb)
        | ((with_reducible refine gLoad ?_); refine wLoad mxT (r1, c1, A1, l1.length, cp1) H17 10 rfl rfl _ rfl rfl rfl ?_)
        | ((with_reducible refine gLoad ?_); refine wLoad rxT (r1, c1, A2, l1.length, cp2) H17 8 rfl rfl _ rfl rfl rfl ?_)
        | ((with_reducible refine gLoad ?_); refine wLoad mxT (r2, c2, A3, l2.length, cp3) H18 6 rfl rfl _ rfl rfl rfl ?_)
        | ((with_reducible refine gLoad ?_); refine wLoad rxT (r2, c2, A4, l2.length, cp4) H18 4 rfl rfl _ rfl rfl rfl ?_)
        | ((with_reducible refine gLoad ?_); refine wLoad mxT (r3, c3, A5, l3.length, cp5) H19 2 rfl rfl _ rfl rfl rfl ?_)
        | ((with_reducible refine gLoad ?_); refine wLoad rxT (r3, c3, A6, l3.length, cp6) H19 0 rfl rfl _ rfl rfl rfl ?_)
        | (go_at_call 28; (with_reducible refine (same_true r1 c1 A1 A2 _ _ cp1 cp2 l1 _ (H17.rr 11 rfl) (H17.rr 9 rfl)).mono ?_); rintro e w18 ⟨rfl, hb⟩; have H18 := H17.step hb; clear H17 hb)
        | (go_at_call 28; (with_reducible refine (same_true r2 c2 A3 A4 _ _ cp3 cp4 l2 _ (H18.rr 7 rfl) (H18.rr 5 rfl)).mono ?_); rintro e w19 ⟨rfl, hb⟩; have H19 := H18.step hb; clear H18 hb)
        | (go_at_call 28; (with_reducible refine (same_true r3 c3 A5 A6 _ _ cp5 cp6 l3 _ (H19.rr 3 rfl) (H19.rr 1 rfl)).mono ?_); rintro e w20 ⟨rfl, hb⟩; have H20 := H19.step hb; clear H19 hb))
      go_ret
      exact ⟨rfl, H20.below⟩
end Go.Proofs.Ytfnneneaalaagaa

namespace Go.Proofs.Ytfnneneaalaagaa
open Go.RowKit Go.ChangeShapes Go.WideShapes

theorem open_ints8 {H : Type} {enc : TypeId × Value → H} {P : Program} {W : World} {base : Nat} {spare : Nat → Bool} {held : Bool} {t e : TypeId} {cs : List Value} {x : DataW H × List MemPlace} {fuel : Nat}
    (hu : P.underlying t = some (.slice e)) (he : P.underlying e = some (.int .u8)) (hc : P.cellsOf e = 1)
    (h : DataW.trod enc P W base spare held fuel t cs = some x) : ∃ (A : Option Addr) (xs : List UInt8) (cap : Nat), cs = [.slice A xs.length cap] ∧ RR (U8 e) W (.slice A xs.length cap) xs ∧ xs.length ≤ cap := by
  have hcs : ∃ a len cap, cs = [.slice a len cap] := by
    rcases open_ints hu he hc h with ⟨h1, _⟩ | ⟨x, l, c, zs, h1, _⟩
    · exact ⟨_, _, _, h1⟩
    · exact ⟨_, _, _, h1⟩
  obtain ⟨a, len, cap, rfl⟩ := hcs
  obtain ⟨d, ps⟩ := x
  obtain ⟨xs, hx⟩ := open_bytes (a := a) (len := len) (cap := cap) (d := d) (ps := ps) hu he hc ⟨fuel, by simpa [Value.cells] using h⟩
  obtain ⟨A', c', e', h1, h2⟩ := id hx
  injection e' with e1 e2 e3
  subst e2
  subst e3
  exact ⟨a, xs, cap, rfl, hx, h1⟩
theorem open_i64s {H : Type} {enc : TypeId × Value → H} {P : Program} {W : World} {base : Nat} {spare : Nat → Bool} {held : Bool} {t e : TypeId} {a : Option Addr} {len cap : Nat} {d : DataW H} {ps : List MemPlace}
    (hu : P.underlying t = some (.slice e)) (he : P.underlying e = some (.int .i64)) (hc : P.cellsOf e = 1)
    (h : DataW.Trod enc P W base spare held t (.slice a len cap) d ps) : ∃ xs : List Int, RI W (.slice a len cap) xs := by
  obtain ⟨fuel, hf⟩ := h
  rcases open_ints hu he hc hf with ⟨hcs, _⟩ | ⟨x, l, c, zs, hcs, _, hl, hm, hz, _, hcell, hwz⟩
  · simp [Value.cells] at hcs
    obtain ⟨rfl, rfl, rfl⟩ := hcs
    exact ⟨[], RR.nil W⟩
  · simp [Value.cells] at hcs
    obtain ⟨rfl, rfl, rfl⟩ := hcs
    have hlz : len ≤ zs.length := by
      rw [hz]
      split
      · exact hl
      · exact Nat.le_refl _
    have hz2 : (zs.take len).length = len := by simp; omega
    refine ⟨zs.take len, some x, cap, by rw [hz2], by omega, by simp only [maxLen] at hm; omega, fun _ => ⟨x, rfl, fun j u hj => ?_⟩⟩
    have hall : ∀ ys : List Int, I64T.all ys = ys.map fun n => .int .i64 n := fun ys => by
      induction ys with
      | nil => rfl
      | cons y ys ih => rw [Ty.all_cons, ih]; rfl
    rw [hall] at hj
    have hjl : j < len := by have := (List.getElem?_eq_some_iff.1 hj).1; simp at this; omega
    rw [hcell j (by omega), ← hj]
    simp [List.getElem?_map, List.getElem?_take, hjl, List.getElem?_eq_getElem (show j < zs.length by omega), List.getD_eq_getElem?_getD]
theorem open_mx {H : Type} {enc : TypeId × Value → H} {W : World} {base : Nat} {spare : Nat → Bool} {held : Bool} {v : Value} {d : DataW H} {ps : List MemPlace} {r : Reach} {b2 : Nat} {W2 : World}
    (h : DataW.Trod enc Try.prog W base spare held 32 v d ps) (hv : Value.okWide Try.prog W2 r b2 32 v) : ∃ (x y : Int) (A : Option Addr) (l : List UInt8) (cp : Nat), v = .agg (mxT.enc (x, y, A, l.length, cp)).toArray ∧ RB W (.slice A l.length cp) l ∧ l.length ≤ cp := by
  obtain ⟨cs, rfl, _⟩ := okWide_struct Try.underlying32 hv
  obtain ⟨fuel, hf⟩ := h
  cases fuel with
  | zero => simp [DataW.trod] at hf
  | succ fuel =>
    have hc3 : Try.prog.cellsOf 32 = 3 := by kernel_rfl
    have hc1 : Try.prog.cellsOf 3 = 1 := by kernel_rfl
    have hcs : Try.prog.cellsOf 22 = 1 := by kernel_rfl
    have hcu : Try.prog.cellsOf 5 = 1 := by kernel_rfl
    obtain ⟨hl, hff⟩ := trod_fields Try.underlying32 hf
    rw [hc3] at hl
    simp only [List.mem_cons, List.not_mem_nil, or_false, forall_eq_or_imp, forall_eq] at hff
    obtain ⟨⟨y0, h0⟩, ⟨y1, h1⟩, ⟨y2, h2⟩⟩ := hff
    rw [hc1] at h0 h1
    rw [hcs] at h2
    obtain ⟨n0, e0, _⟩ := trod_leaf Try.underlying3 h0
    obtain ⟨n1, e1, _⟩ := trod_leaf Try.underlying3 h1
    obtain ⟨A, xs, cap, e2, hx, hcap⟩ := open_ints8 Try.underlying22 Try.underlying5 hcu h2
    have g0 := take_one e0
    have g1 := take_one e1
    have g2 := take_one e2
    refine ⟨n0, n1, A, xs, cap, ?_, hx, hcap⟩
    have hcells : (Value.agg cs).cells = cs := by simp [Value.cells]
    rw [hcells] at g0 g1 g2 hl
    rcases cs with ⟨cl⟩
    simp only at g0 g1 g2 hl
    rcases cl with _ | ⟨a, _ | ⟨b, _ | ⟨c, _ | ⟨d, t⟩⟩⟩⟩ <;> simp at hl g0 g1 g2
    subst g0 g1 g2
    rfl
set_option maxRecDepth 100000 in
theorem open_i2 {H : Type} {enc : TypeId × Value → H} {W : World} {base : Nat} {spare : Nat → Bool} {held : Bool} {v : Value} {d : DataW H} {ps : List MemPlace} {r : Reach} {b2 : Nat} {W2 : World}
    (h : DataW.Trod enc Try.prog W base spare held 34 v d ps) (hv : Value.okWide Try.prog W2 r b2 34 v) : ∃ x y : Int, v = .agg (i2T.enc (x, y)).toArray := by
  have hw : ∃ cs, v = .agg cs := by
    simp only [Value.okWide, Try.underlying34] at hv
    obtain ⟨cs, h1, _⟩ := hv
    exact ⟨cs, h1⟩
  obtain ⟨cs, rfl⟩ := hw
  obtain ⟨fuel, hf⟩ := h
  cases fuel with
  | zero => simp [DataW.trod] at hf
  | succ fuel =>
    have hc : Try.prog.cellsOf 34 = 2 := by kernel_rfl
    have hc1 : Try.prog.cellsOf 3 = 1 := by kernel_rfl
    obtain ⟨hl, ha⟩ := trod_array Try.underlying34 hf
    rw [hc] at hl
    obtain ⟨y0, h0⟩ := ha 0 (by omega)
    obtain ⟨y1, h1⟩ := ha 1 (by omega)
    rw [hc1] at h0 h1
    obtain ⟨n0, e0, _⟩ := trod_leaf Try.underlying3 h0
    obtain ⟨n1, e1, _⟩ := trod_leaf Try.underlying3 h1
    have g0 := take_one e0
    have g1 := take_one e1
    refine ⟨n0, n1, ?_⟩
    have hcells : (Value.agg cs).cells = cs := by simp [Value.cells]
    rw [hcells] at g0 g1 hl
    rcases cs with ⟨cl⟩
    simp only at g0 g1 hl
    rcases cl with _ | ⟨a, _ | ⟨b, _ | ⟨c, t⟩⟩⟩ <;> simp at hl g0 g1
    subst g0 g1
    rfl
end Go.Proofs.Ytfnneneaalaagaa
