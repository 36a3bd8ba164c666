/- Ground of the statement MatrixUndone, part 5: Mx31, Mx32, Mx33, Mx24, Mx34, Mx35, RowKit, RowPtrB. -/
import Derived.WalkKit
import Derived.ProofKit
import Derived.OpenShut
import Derived.ShutString
import Derived.ChangeOld
import Derived.Below
import Derived.SizedLaws
import Derived.ChangeSlices
import Derived.Test.YtfnneneaalaagaaBMatrixUndone4
namespace Go.Proofs.Ytfnneneaalaagaa
set_option maxRecDepth 100000
open Go.RowKit
set_option linter.unusedSimpArgs false
set_option linter.unusedVariables false

set_option maxHeartbeats 3200000 in
set_option maxRecDepth 100000 in
theorem rInverse_bad (r c : Int) (n : Nat) (A : Option Addr) (cp : Nat) (w : World) (hbad : mayB r c n = false ∨ (mayB r c n = true ∧ (r == c) = false)) :
    Calls Try.prog 30 #[.agg (rxT.enc (r, c, A, n, cp)).toArray] w (Gives26 rxT w (0, 0, [], 1)) := by
  have H := SH.start Nil w
  have cM : ∀ W, Calls Try.prog 38 #[.agg (rxT.enc (r, c, A, n, cp)).toArray] W fun e w' => e = .returned (.bool (mayB r c n)) ∧ Below W.heap.size W w' := fun W => rMay_any _ _ _ _ _ W
  rcases hbad with h1 | ⟨h1, h2⟩
  all_goals
    rw [h1] at cM
    clear h1
    go_enter Try.func30, Try.ntmps30
    go_wp2_with (first
      | ((with_reducible refine gDst 1 ?_); refine aBox H _ rfl rfl rfl ?_; clear H; intro b1 w1 H)
      | ((with_reducible refine gDst 2 ?_); refine aAlloc H rfl rfl ?_; clear H; intro b2 w2 H)
      | ((with_reducible refine gDst 4 ?_); refine aAlloc H rfl rfl ?_; clear H; intro b4 w4 H)
      | ((with_reducible refine gDst 35 ?_); refine aEmpty sV H rfl rfl ?_; clear H; intro b35 w35 H)
      | ((with_reducible refine gDst 42 ?_); refine aEmpty sB H rfl rfl ?_; clear H; intro b42 w42 H)
      | ((with_reducible refine gDst 12 ?_); refine aAlloc H rfl rfl ?_; clear H; intro b12 w12 H)
      | ((with_reducible refine gLoad ?_); first | (refine aLoad1 H _ rfl rfl (by first | exact (rfl : _ = some (Value.int _ _)) | exact (rfl : _ = some (Value.slice _ _ _)) | exact (rfl : _ = some (Value.bool _)) | exact (rfl : _ = some (Value.string _)) | exact (rfl : _ = some (Value.pointer _)) | rfl | (simp [List.getElem?_append]; done)) rfl ?_) | (refine aLoadC _ rfl rfl (by assumption) rfl ?_) | (refine aLoad H _ rfl rfl (by first | exact part_all (by first | rfl | simp []) | (simp only [List.drop_succ_cons, List.drop_zero, List.take_succ_cons, List.take_zero]; rfl) | (simp [List.drop_append, List.take_append]; rfl)) (by first | rfl | simp []) rfl ?_))
      | ((with_reducible refine gBuild ?_); refine aZero rfl rfl ?_)
      | ((with_reducible refine gStore ?_); (first | (refine aStore H _ _ rfl rfl rfl (by (first | exact ⟨rfl, rfl⟩ | exact ⟨by decide, rfl⟩ | (simp []; done) | (constructor <;> simp [] <;> omega))) (by first | rfl | simp [List.all_append, one_all]) rfl ?_) | (refine aLay H _ _ rfl rfl rfl (by (first | exact ⟨rfl, rfl⟩ | exact ⟨by decide, rfl⟩ | (simp []; done) | (constructor <;> simp [] <;> omega))) (by first | rfl | simp [List.all_append, one_all]) (by simp only [lay, List.take_succ_cons, List.take_zero, List.drop_succ_cons, List.drop_zero, List.nil_append, List.cons_append, List.length_cons, List.length_nil, Nat.zero_add, Nat.reduceAdd]; rfl) rfl ?_)); clear H; intro w' H; try dsimp only at H)
      | (at_builtin; refine aAppS1 H _ _ rfl rfl rfl (by first | omega | (have := HCL.out; omega)) rfl ?_; clear H; intro v' w' ys HY H; (try dsimp only at H); obtain ⟨A', c', rfl, hc'⟩ := (H.hold.rr v').len)
      | (at_builtin; refine aAppB1 _ H _ _ rfl rfl rfl (by first | omega | (have := HCL.out; omega)) rfl ?_; clear H; intro v' w' ys HY H; (try dsimp only at H); obtain ⟨A', c', rfl, hc'⟩ := (H.hold.rr v').len)
      | (go_at_call 38; (with_reducible refine (cM _).mono ?_); rintro e w' ⟨rfl, hb⟩; replace H := H.step hb; clear hb))
    refine bodyPost_ret (res_cell_tmp rfl _ H.hold rfl rfl) rfl ?_
    exact GivesP.zero rfl ⟨rfl, H.below⟩
def relI1 (l : List UInt8) (n m : Nat) (w : World) (v8 v9 : Value) (wr : World) : Prop := ∃ (i : Nat) (ss : List SVV) (A : Option Addr) (cp : Nat), v9 = .int .i64 (i : Int) ∧ i ≤ n ∧ v8 = .slice A ss.length cp ∧ ss.length = i ∧ SH Nil w wr [.rdAll ss (wideT l n m i), .row SVT (.slice A ss.length cp) ss]
def relI2 (E : List (List UInt8)) (n b12 : Nat) (w : World) (v13 : Value) (wr : World) : Prop := ∃ (i : Nat) (cur : List UInt8) (A : Option Addr) (cp : Nat), v13 = .int .i64 (i : Int) ∧ i ≤ n ∧ Hid (cur = fillL i n (fun i j => fe E i (n + j))) ∧ SH Nil w wr [.row B8 (.slice A cur.length cp) cur, .blk b12 38 [.int .i64 (n : Int), .int .i64 (n : Int), .slice A cur.length cp]]
set_option maxHeartbeats 3200000 in
set_option maxRecDepth 100000 in
theorem rInverse_ok (l : List UInt8) (n : Nat) (A : Option Addr) (cp : Nat) (w : World) (hv : RB w (.slice A l.length cp) l) (hcp : l.length ≤ cp) (hm : mayB n n l.length = true) :
    Calls Try.prog 30 #[.agg (rxT.enc ((n : Int), (n : Int), A, l.length, cp)).toArray] w (Gives26 rxT w (invT (runG lzI n (n + n) (wideM l n (n + n)) n) n)) := by
  have H := SH.start Nil w
  have cM : ∀ W, Calls Try.prog 38 #[.agg (rxT.enc (n, n, A, l.length, cp)).toArray] W fun e w' => e = .returned (.bool (mayB n n l.length)) ∧ Below W.heap.size W w' := fun W => rMay_any _ _ _ _ _ W
  rw [hm] at cM
  obtain ⟨x1, x2, e1, e2, h1, h2, h3, h4, hl⟩ := mayB_ok hm
  rw [show x1 = n by omega, show x2 = n by omega] at hl
  have hn1 : 1 ≤ n := by omega
  have hn2 : n ≤ 32 := by omega
  obtain ⟨m, hmm⟩ : ∃ m, m = n + n := ⟨_, rfl⟩
  rw [← hmm]
  have hp : 0 < l.length := by rw [hl]; exact Nat.mul_pos (by omega) (by omega)
  obtain ⟨ad, rfl, -⟩ := hv.byte hp
  have cU := fun W => rUnit_ok n W hn1 hn2
  have hul : (fillL n n unitF).length = n * n := fillL_len _ _ _
  have cR := fun W => rowsOf_any n n l.length ad cp W hl hcp (by omega) (by omega) hn1
  have cR2 := fun (W : World) (ua : Addr) (uc : Nat) (h : (fillL n n unitF).length ≤ uc) => rowsOf_any n n (fillL n n unitF).length ua uc W hul h (by omega) (by omega) hn1
  have hLx := fun (W : World) (hB : Below w.heap.size w W) => rowSS_LB (r := n) (c := n) (hv.below hB) hl hcp hn1
  have hLy := fun (W : World) (ua : Addr) (uc : Nat) (h : RB W (.slice (some ua) (fillL n n unitF).length uc) (fillL n n unitF)) (h2 : (fillL n n unitF).length ≤ uc) => rowSS_LB (r := n) (c := n) h hul h2 hn1
  have hwr := fun i (hi : i < n) => wide_row l n i hl hi
  rw [← hmm] at hwr
  have cC := fun (W : World) (vr : Value) (ss : List SVV) (hR : RR SVT W vr ss) (hL : LB W ss (wideM l n m)) => cleared_any vr ss (wideM l n m) n m n W hR hL (wideM_mat l n m) hn1 (by omega) (by omega) (by omega) (by omega)
  have hME := (runG_mat picks_lz (wideM_mat l n m) n (by omega)).1
  generalize runG lzI n m (wideM l n m) n = s at *
  have hulp : 0 < (fillL n n unitF).length := by rw [hul]; exact Nat.mul_pos (by omega) (by omega)
  have hrq : ∀ i, i < n → (rowq l n i).length = n ∧ (rowq (fillL n n unitF) n i).length = n := fun i hi => ⟨rowq_len (by rw [hl]; exact row_in hi), rowq_len (by rw [hul]; exact row_in hi)⟩
  generalize fillL n n unitF = ul at *
  have CR := Lib.hid cR
  have CR2 := Lib.hid cR2
  have HLX := Lib.hid hLx
  have HLY := Lib.hid hLy
  have HWR := Lib.hid hwr
  have CC := Lib.hid cC
  have HRQ := Lib.hid hrq
  have HULP := Lib.hid hulp
  have HME := Lib.hid hME
  have HMM := Lib.hid hmm
  have hni : (n : Int) ≤ 32 := by omega
  have hnn : ((n : Int) != (n : Int)) = false := by simp
  clear cR cR2 hLx hLy hwr cC hv hcp hm hl e1 e2 h1 h2 h3 h4 hul hrq hulp hp hME hmm
  have hd : (decide ((s.2 : Int) < (n : Int)) = true ∧ s.2 < n) ∨ (decide ((s.2 : Int) < (n : Int)) = false ∧ ¬ s.2 < n) := by
    by_cases h : s.2 < n
    · exact .inl ⟨decide_eq_true (by omega), h⟩
    · exact .inr ⟨decide_eq_false (by omega), h⟩
  go_enter Try.func30, Try.ntmps30
  go_wp2_with (first
    | ((with_reducible refine gDst 1 ?_); refine aBox H _ rfl rfl rfl ?_; clear H; intro b1 w1 H)
    | ((with_reducible refine gDst 2 ?_); refine aAlloc H rfl rfl ?_; clear H; intro b2 w2 H)
    | ((with_reducible refine gDst 4 ?_); refine aAlloc H rfl rfl ?_; clear H; intro b4 w4 H)
    | ((with_reducible refine gDst 35 ?_); refine aEmpty sV H rfl rfl ?_; clear H; intro b35 w35 H)
    | ((with_reducible refine gDst 42 ?_); refine aEmpty sB H rfl rfl ?_; clear H; intro b42 w42 H)
    | ((with_reducible refine gDst 12 ?_); refine aAlloc H rfl rfl ?_; clear H; intro b12 w12 H)
    | ((with_reducible refine gLoad ?_); first | (refine aLoad1 H _ rfl rfl (by first | exact (rfl : _ = some (Value.int _ _)) | exact (rfl : _ = some (Value.slice _ _ _)) | exact (rfl : _ = some (Value.bool _)) | exact (rfl : _ = some (Value.string _)) | exact (rfl : _ = some (Value.pointer _)) | rfl | (simp [List.getElem?_append]; done)) rfl ?_) | (refine aLoadC _ rfl rfl (by assumption) rfl ?_) | (refine aLoad H _ rfl rfl (by first | exact part_all (by first | rfl | simp []) | (simp only [List.drop_succ_cons, List.drop_zero, List.take_succ_cons, List.take_zero]; rfl) | (simp [List.drop_append, List.take_append]; rfl)) (by first | rfl | simp []) rfl ?_))
    | ((with_reducible refine gBuild ?_); refine aZero rfl rfl ?_)
    | ((with_reducible refine gStore ?_); (first | (refine aStore H _ _ rfl rfl rfl (by (first | exact ⟨rfl, rfl⟩ | exact ⟨by decide, rfl⟩ | (simp []; done) | (constructor <;> simp [] <;> omega))) (by first | rfl | simp [List.all_append, one_all]) rfl ?_) | (refine aLay H _ _ rfl rfl rfl (by (first | exact ⟨rfl, rfl⟩ | exact ⟨by decide, rfl⟩ | (simp []; done) | (constructor <;> simp [] <;> omega))) (by first | rfl | simp [List.all_append, one_all]) (by simp only [lay, List.take_succ_cons, List.take_zero, List.drop_succ_cons, List.drop_zero, List.nil_append, List.cons_append, List.length_cons, List.length_nil, Nat.zero_add, Nat.reduceAdd]; rfl) rfl ?_)); clear H; intro w' H; try dsimp only at H)
    | (at_builtin; refine aAppS1 H _ _ rfl rfl rfl (by first | omega | (have := HCL.out; omega)) rfl ?_; clear H; intro v' w' ys HY H; (try dsimp only at H); obtain ⟨A', c', rfl, hc'⟩ := (H.hold.rr v').len)
    | (at_builtin; refine aAppB1 _ H _ _ rfl rfl rfl (by first | omega | (have := HCL.out; omega)) rfl ?_; clear H; intro v' w' ys HY H; (try dsimp only at H); obtain ⟨A', c', rfl, hc'⟩ := (H.hold.rr v').len)
    | (go_at_call 38; (with_reducible refine (cM _).mono ?_); rintro e w' ⟨rfl, hb⟩; replace H := H.step hb; clear hb)
    | (go_at_call 25; (with_reducible refine (cU _).mono ?_); rintro e w' ⟨Au, uc, rfl, ho, hb⟩; replace H := H.pushRow hb ho; clear hb ho; have hrd : RB w' (.slice Au ul.length uc) ul := H.hold.rr (.slice Au ul.length uc); obtain ⟨ua, rfl, -⟩ := hrd.byte HULP.out; have huc := rb_cap hrd; clear hrd))
  refine startA (fun i => false) (by kernel_rfl) (fun wS hS => ?_)
  replace H := H.drew
  rw [← hS] at H
  have HH := H.hold
  have HS0 : Below wS.heap.size wS wS := Below.refl _ _
  clear hS
  refine takeL 0 HS0 rfl (by kernel_rfl) (by kernel_rfl) (by kernel_rfl) (by kernel_rfl) (by kernel_rfl) (fun _ _ _ h => h) rfl (v := ?_) ?_ ?_
  rotate_left
  · intro w' hw'; first | (refine Eq.trans (xLoad (HH.below hw') _ rfl rfl (by first | exact part_all (by first | rfl | simp []) | (simp only [List.drop_succ_cons, List.drop_zero, List.take_succ_cons, List.take_zero]; rfl) | (simp [List.drop_append, List.take_append]; rfl)) (by first | rfl | simp [])) ?_; with_reducible rfl)
  (try simp only [Act.put, List.setIfInBounds_toArray, List.set_cons_zero, List.set_cons_succ])
  refine takeL 2 HS0 rfl (by kernel_rfl) (by kernel_rfl) (by kernel_rfl) (by kernel_rfl) (by kernel_rfl) (fun _ _ _ h => h) rfl (v := ?_) ?_ ?_
  rotate_left
  · intro w' hw'; first | (refine Eq.trans (xLoad (HH.below hw') _ rfl rfl (by first | exact part_all (by first | rfl | simp []) | (simp only [List.drop_succ_cons, List.drop_zero, List.take_succ_cons, List.take_zero]; rfl) | (simp [List.drop_append, List.take_append]; rfl)) (by first | rfl | simp [])) ?_; with_reducible rfl)
  (try simp only [Act.put, List.setIfInBounds_toArray, List.set_cons_zero, List.set_cons_succ])
  refine stepL 1 rfl (by kernel_rfl) rfl (fun K hK => ?_)
  (go_simp; (with_reducible refine (CR.out _).mono ?_); rintro e w' ⟨Ax, px, rfl, ho, hb⟩; replace H := H.pushRow hb ho; clear ho; replace HS0 := below_two HS0 HS0.size hb; clear hb; refine hK.out _ _ (fun _ _ => HS0) ?_; clear K hK)
  (try simp only [Act.put, List.setIfInBounds_toArray, List.set_cons_zero, List.set_cons_succ])
  refine stepL 3 rfl (by kernel_rfl) rfl (fun K hK => ?_)
  (go_simp; (with_reducible refine (CR2.out _ ua uc huc).mono ?_); rintro e w' ⟨Ay, py, rfl, ho, hb⟩; replace H := H.pushRow hb ho; clear ho; replace HS0 := below_two HS0 HS0.size hb; clear hb; refine hK.out _ _ (fun _ _ => HS0) ?_; clear K hK)
  (try simp only [Act.put, List.setIfInBounds_toArray, List.set_cons_zero, List.set_cons_succ])
  refine takeP 4 rfl (by kernel_rfl) (by kernel_rfl) (by kernel_rfl) (by kernel_rfl) (fun _ _ _ h => h) rfl (v := ?_) ?_ ?_
  rotate_left
  · intro w'; go_simp; (try with_reducible rfl)
  (try simp only [Act.put, List.setIfInBounds_toArray, List.set_cons_zero, List.set_cons_succ])
  refine takeP 5 rfl (by kernel_rfl) (by kernel_rfl) (by kernel_rfl) (by kernel_rfl) (fun _ _ _ h => h) rfl (v := ?_) ?_ ?_
  rotate_left
  · intro w'; go_simp; (try with_reducible rfl)
  (try simp only [Act.put, List.setIfInBounds_toArray, List.set_cons_zero, List.set_cons_succ])
  refine doneL (by kernel_rfl) ?_
  have hlx := HLX.out _ H.below
  have hly := HLY.out _ ua uc (H.hold.rd _) huc
  have hrx := H.hold.rr (.slice Ax n px)
  have hry := H.hold.rr (.slice Ay n py)
  obtain ⟨adx, rfl, -⟩ := hrx.at_ 0 (by rw [rowSS_len]; omega)
  obtain ⟨ady, rfl, -⟩ := hry.at_ 0 (by rw [rowSS_len]; omega)
  have hcx := fun i (hi : i < n) => svAt hrx i (by rw [rowSS_len]; exact hi)
  have hcy := fun i (hi : i < n) => svAt hry i (by rw [rowSS_len]; exact hi)
  have H0 := H
  have RO := H0.hold
  clear H hrx hry
  rename World => wf
  have H := SH.start Nil wf
  go_wp2_with (first
    | ((with_reducible refine gDst 1 ?_); refine aBox H _ rfl rfl rfl ?_; clear H; intro b1 w1 H)
    | ((with_reducible refine gDst 2 ?_); refine aAlloc H rfl rfl ?_; clear H; intro b2 w2 H)
    | ((with_reducible refine gDst 4 ?_); refine aAlloc H rfl rfl ?_; clear H; intro b4 w4 H)
    | ((with_reducible refine gDst 35 ?_); refine aEmpty sV H rfl rfl ?_; clear H; intro b35 w35 H)
    | ((with_reducible refine gDst 42 ?_); refine aEmpty sB H rfl rfl ?_; clear H; intro b42 w42 H)
    | ((with_reducible refine gDst 12 ?_); refine aAlloc H rfl rfl ?_; clear H; intro b12 w12 H)
    | ((with_reducible refine gLoad ?_); first | (refine aLoad1 H _ rfl rfl (by first | exact (rfl : _ = some (Value.int _ _)) | exact (rfl : _ = some (Value.slice _ _ _)) | exact (rfl : _ = some (Value.bool _)) | exact (rfl : _ = some (Value.string _)) | exact (rfl : _ = some (Value.pointer _)) | rfl | (simp [List.getElem?_append]; done)) rfl ?_) | (refine aLoadR1 RO H _ rfl rfl (by first | exact (rfl : _ = some (Value.int _ _)) | exact (rfl : _ = some (Value.slice _ _ _)) | exact (rfl : _ = some (Value.bool _)) | exact (rfl : _ = some (Value.string _)) | exact (rfl : _ = some (Value.pointer _)) | rfl | (simp [List.getElem?_append]; done)) rfl ?_) | (refine aLoadC _ rfl rfl (by assumption) rfl ?_) | (refine aLoad H _ rfl rfl (by first | exact part_all (by first | rfl | simp []) | (simp only [List.drop_succ_cons, List.drop_zero, List.take_succ_cons, List.take_zero]; rfl) | (simp [List.drop_append, List.take_append]; rfl)) (by first | rfl | simp []) rfl ?_) | (refine aLoadR RO H _ rfl rfl (by first | exact part_all (by first | rfl | simp []) | (simp only [List.drop_succ_cons, List.drop_zero, List.take_succ_cons, List.take_zero]; rfl) | (simp [List.drop_append, List.take_append]; rfl)) (by first | rfl | simp []) rfl ?_))
    | ((with_reducible refine gBuild ?_); refine aZero rfl rfl ?_)
    | ((with_reducible refine gStore ?_); (first | (refine aStore H _ _ rfl rfl rfl (by (first | exact ⟨rfl, rfl⟩ | exact ⟨by decide, rfl⟩ | (simp []; done) | (constructor <;> simp [] <;> omega))) (by first | rfl | simp [List.all_append, one_all]) rfl ?_) | (refine aLay H _ _ rfl rfl rfl (by (first | exact ⟨rfl, rfl⟩ | exact ⟨by decide, rfl⟩ | (simp []; done) | (constructor <;> simp [] <;> omega))) (by first | rfl | simp [List.all_append, one_all]) (by simp only [lay, List.take_succ_cons, List.take_zero, List.drop_succ_cons, List.drop_zero, List.nil_append, List.cons_append, List.length_cons, List.length_nil, Nat.zero_add, Nat.reduceAdd]; rfl) rfl ?_)); clear H; intro w' H; try dsimp only at H)
    | (at_builtin; refine aAppS1 H _ _ rfl rfl rfl (by first | omega | (have := HCL.out; omega)) rfl ?_; clear H; intro v' w' ys HY H; (try dsimp only at H); obtain ⟨A', c', rfl, hc'⟩ := (H.hold.rr v').len)
    | (at_builtin; refine aAppB1 _ H _ _ rfl rfl rfl (by first | omega | (have := HCL.out; omega)) rfl ?_; clear H; intro v' w' ys HY H; (try dsimp only at H); obtain ⟨A', c', rfl, hc'⟩ := (H.hold.rr v').len))
  go_loopw [8, 9] (fun v8 v9 wr => relI1 l n m wf v8 v9 wr) (fun _ v _ => n - (intOf v).toNat)
  case atStart => exact ⟨0, [], _, _, rfl, by omega, rfl, rfl, H.rdNil⟩
  case round =>
    obtain ⟨i, ss, A, cpr, rfl, hi, rfl, hsl, HS⟩ := hrel
    clear H
    have H := HS
    clear HS
    have hsb : ss.length ≤ 64 := by omega
    have HSL := Lib.hid hsl
    clear hsl
    by_cases hir : i < n
    · have hii : (i : Int) < (n : Int) := by omega
      have hx0 := hcx i hir
      have hy0 := hcy i hir
      rw [rowSS_get _ _ _ _ _ hir] at hx0 hy0
      change _ = some (Value.slice (some (ad.add (i * n))) n (cp - i * n)) at hx0
      change _ = some (Value.slice (some (ua.add (i * n))) n (uc - i * n)) at hy0
      have hRx := hlx.2 i (by simp [rowsL]; exact hir)
      have hRy := hly.2 i (by simp [rowsL]; exact hir)
      rw [rowSS_get _ _ _ _ _ hir, rowsL_get _ _ _ _ hir] at hRx hRy
      change RB wf (Value.slice (some (ad.add (i * n))) n (cp - i * n)) _ at hRx
      change RB wf (Value.slice (some (ua.add (i * n))) n (uc - i * n)) _ at hRy
      have hw1 := HWR.out i hir
      obtain ⟨hxl, hyl⟩ := HRQ.out i hir
      generalize rowq l n i = xi at *
      generalize rowq ul n i = yi at *
      generalize ad.add (i * n) = pa at *
      generalize ua.add (i * n) = pu at *
      generalize cp - i * n = ca at *
      generalize uc - i * n = cu at *
      have HW := Lib.hid hw1
      have HXL := Lib.hid hxl
      have HYL := Lib.hid hyl
      have HX0 := Lib.hid hx0
      have HY0 := Lib.hid hy0
      have HRX := Lib.hid hRx
      have HRY := Lib.hid hRy
      clear hw1 hxl hyl hx0 hy0 hRx hRy
      have hni2 : (n : Int) ≤ 32 := hni
      go_wp2_with (first
        | ((with_reducible refine gDst 46 ?_); refine aLoadC _ rfl rfl (cell_below H.below HX0.out) rfl ?_)
        | ((with_reducible refine gDst 52 ?_); refine aLoadC _ rfl rfl (cell_below H.below HY0.out) rfl ?_)
        | (at_builtin; refine aAppBs H _ _ rfl rfl rfl (HRX.out.below H.below) ⟨by simp, by rw [HXL.out]; omega⟩ rfl ?_; clear H; intro v' w' ys1 HY1 H; (try dsimp only at H); obtain ⟨A1, c1, rfl, hc1⟩ := (H.hold.rr v').len)
        | (at_builtin; refine aAppBs H _ _ rfl rfl rfl (HRY.out.below H.below) ⟨by rw [HY1.out, List.nil_append, HXL.out]; omega, by rw [HYL.out]; omega⟩ rfl ?_; clear H; intro v' w' ys2 HY2 H; (try dsimp only at H); obtain ⟨A2, c2, rfl, hc2⟩ := (H.hold.rr v').len)
        | ((with_reducible refine gDst 1 ?_); refine aBox H _ rfl rfl rfl ?_; clear H; intro b1 w1 H)
        | ((with_reducible refine gDst 2 ?_); refine aAlloc H rfl rfl ?_; clear H; intro b2 w2 H)
        | ((with_reducible refine gDst 4 ?_); refine aAlloc H rfl rfl ?_; clear H; intro b4 w4 H)
        | ((with_reducible refine gDst 35 ?_); refine aEmpty sV H rfl rfl ?_; clear H; intro b35 w35 H)
        | ((with_reducible refine gDst 42 ?_); refine aEmpty sB H rfl rfl ?_; clear H; intro b42 w42 H)
        | ((with_reducible refine gDst 12 ?_); refine aAlloc H rfl rfl ?_; clear H; intro b12 w12 H)
        | ((with_reducible refine gLoad ?_); first | (refine aLoad1 H _ rfl rfl (by first | exact (rfl : _ = some (Value.int _ _)) | exact (rfl : _ = some (Value.slice _ _ _)) | exact (rfl : _ = some (Value.bool _)) | exact (rfl : _ = some (Value.string _)) | exact (rfl : _ = some (Value.pointer _)) | rfl | (simp [List.getElem?_append]; done)) rfl ?_) | (refine aLoadR1 RO H _ rfl rfl (by first | exact (rfl : _ = some (Value.int _ _)) | exact (rfl : _ = some (Value.slice _ _ _)) | exact (rfl : _ = some (Value.bool _)) | exact (rfl : _ = some (Value.string _)) | exact (rfl : _ = some (Value.pointer _)) | rfl | (simp [List.getElem?_append]; done)) rfl ?_) | (refine aLoadC _ rfl rfl (by assumption) rfl ?_) | (refine aLoad H _ rfl rfl (by first | exact part_all (by first | rfl | simp []) | (simp only [List.drop_succ_cons, List.drop_zero, List.take_succ_cons, List.take_zero]; rfl) | (simp [List.drop_append, List.take_append]; rfl)) (by first | rfl | simp []) rfl ?_) | (refine aLoadR RO H _ rfl rfl (by first | exact part_all (by first | rfl | simp []) | (simp only [List.drop_succ_cons, List.drop_zero, List.take_succ_cons, List.take_zero]; rfl) | (simp [List.drop_append, List.take_append]; rfl)) (by first | rfl | simp []) rfl ?_))
        | ((with_reducible refine gBuild ?_); refine aZero rfl rfl ?_)
        | ((with_reducible refine gStore ?_); (first | (refine aStore H _ _ rfl rfl rfl (by (first | exact ⟨rfl, rfl⟩ | exact ⟨by decide, rfl⟩ | (simp []; done) | (constructor <;> simp [] <;> omega))) (by first | rfl | simp [List.all_append, one_all]) rfl ?_) | (refine aLay H _ _ rfl rfl rfl (by (first | exact ⟨rfl, rfl⟩ | exact ⟨by decide, rfl⟩ | (simp []; done) | (constructor <;> simp [] <;> omega))) (by first | rfl | simp [List.all_append, one_all]) (by simp only [lay, List.take_succ_cons, List.take_zero, List.drop_succ_cons, List.drop_zero, List.nil_append, List.cons_append, List.length_cons, List.length_nil, Nat.zero_add, Nat.reduceAdd]; rfl) rfl ?_)); clear H; intro w' H; try dsimp only at H)
        | (at_builtin; refine aAppS1 H _ _ rfl rfl rfl (by first | omega | (have := HCL.out; omega)) rfl ?_; clear H; intro v' w' ys HY H; (try dsimp only at H); obtain ⟨A', c', rfl, hc'⟩ := (H.hold.rr v').len)
        | (at_builtin; refine aAppB1 _ H _ _ rfl rfl rfl (by first | omega | (have := HCL.out; omega)) rfl ?_; clear H; intro v' w' ys HY H; (try dsimp only at H); obtain ⟨A', c', rfl, hc'⟩ := (H.hold.rr v').len))
      have hH := H.rdSnoc
      rw [← HY.out, show wideT l n m i ++ [ys2] = wideT l n m (i + 1) from by rw [wideT_succ, HW.out, HY2.out, HY1.out, List.nil_append]] at hH
      go_roundw
      case rel => first | exact ⟨i + 1, _, _, _, by go_num, by omega, rfl, by rw [HY.out, List.length_append, HSL.out]; rfl, hH⟩ | exact ⟨_, ⟨i + 1, _, _, _, by go_num, by omega, rfl, by rw [HY.out, List.length_append, HSL.out]; rfl, hH⟩, rfl⟩ | exact ⟨_, _, ⟨i + 1, _, _, _, by go_num, by omega, rfl, by rw [HY.out, List.length_append, HSL.out]; rfl, hH⟩, rfl, rfl⟩ | exact ⟨_, _, _, ⟨i + 1, _, _, _, by go_num, by omega, rfl, by rw [HY.out, List.length_append, HSL.out]; rfl, hH⟩, rfl, rfl, rfl⟩ | exact ⟨_, _, _, _, ⟨i + 1, _, _, _, by go_num, by omega, rfl, by rw [HY.out, List.length_append, HSL.out]; rfl, hH⟩, rfl, rfl, rfl, rfl⟩ | exact ⟨_, _, _, _, _, ⟨i + 1, _, _, _, by go_num, by omega, rfl, by rw [HY.out, List.length_append, HSL.out]; rfl, hH⟩, rfl, rfl, rfl, rfl, rfl⟩
      case measure => simp [intOf] <;> omega
    · obtain rfl : n = i := by omega
      have hLBw : LB wr ss (wideM l n m) := H.at_ 0 rfl
      have HLBw := Lib.hid hLBw
      clear hLBw hcx hcy hlx hly HLX HLY CR CR2 cU cM HWR HRQ HULP huc
      have hsl := HSL.out
      rw [hsl] at H ⊢
      rcases hd with ⟨d1, d2⟩ | ⟨d1, d2⟩
      · go_wp2_with (first
          | (go_at_call 63; (with_reducible refine (CC.out _ _ ss (H.hold.rr _) HLBw.out).mono ?_); rintro e w' ⟨A5, p5, ss5, rfl, -, -, -, hb⟩; replace H := H0.join (H.step hb); simp only [List.cons_append, List.nil_append] at H; clear hb HLBw RO)
          | ((with_reducible refine gDst 1 ?_); refine aBox H _ rfl rfl rfl ?_; clear H; intro b1 w1 H)
          | ((with_reducible refine gDst 2 ?_); refine aAlloc H rfl rfl ?_; clear H; intro b2 w2 H)
          | ((with_reducible refine gDst 4 ?_); refine aAlloc H rfl rfl ?_; clear H; intro b4 w4 H)
          | ((with_reducible refine gDst 35 ?_); refine aEmpty sV H rfl rfl ?_; clear H; intro b35 w35 H)
          | ((with_reducible refine gDst 42 ?_); refine aEmpty sB H rfl rfl ?_; clear H; intro b42 w42 H)
          | ((with_reducible refine gDst 12 ?_); refine aAlloc H rfl rfl ?_; clear H; intro b12 w12 H)
          | ((with_reducible refine gLoad ?_); first | (refine aLoad1 H _ rfl rfl (by first | exact (rfl : _ = some (Value.int _ _)) | exact (rfl : _ = some (Value.slice _ _ _)) | exact (rfl : _ = some (Value.bool _)) | exact (rfl : _ = some (Value.string _)) | exact (rfl : _ = some (Value.pointer _)) | rfl | (simp [List.getElem?_append]; done)) rfl ?_) | (refine aLoadR1 RO H _ rfl rfl (by first | exact (rfl : _ = some (Value.int _ _)) | exact (rfl : _ = some (Value.slice _ _ _)) | exact (rfl : _ = some (Value.bool _)) | exact (rfl : _ = some (Value.string _)) | exact (rfl : _ = some (Value.pointer _)) | rfl | (simp [List.getElem?_append]; done)) rfl ?_) | (refine aLoadC _ rfl rfl (by assumption) rfl ?_) | (refine aLoad H _ rfl rfl (by first | exact part_all (by first | rfl | simp []) | (simp only [List.drop_succ_cons, List.drop_zero, List.take_succ_cons, List.take_zero]; rfl) | (simp [List.drop_append, List.take_append]; rfl)) (by first | rfl | simp []) rfl ?_) | (refine aLoadR RO H _ rfl rfl (by first | exact part_all (by first | rfl | simp []) | (simp only [List.drop_succ_cons, List.drop_zero, List.take_succ_cons, List.take_zero]; rfl) | (simp [List.drop_append, List.take_append]; rfl)) (by first | rfl | simp []) rfl ?_))
          | ((with_reducible refine gBuild ?_); refine aZero rfl rfl ?_)
          | ((with_reducible refine gStore ?_); (first | (refine aStore H _ _ rfl rfl rfl (by (first | exact ⟨rfl, rfl⟩ | exact ⟨by decide, rfl⟩ | (simp []; done) | (constructor <;> simp [] <;> omega))) (by first | rfl | simp [List.all_append, one_all]) rfl ?_) | (refine aLay H _ _ rfl rfl rfl (by (first | exact ⟨rfl, rfl⟩ | exact ⟨by decide, rfl⟩ | (simp []; done) | (constructor <;> simp [] <;> omega))) (by first | rfl | simp [List.all_append, one_all]) (by simp only [lay, List.take_succ_cons, List.take_zero, List.drop_succ_cons, List.drop_zero, List.nil_append, List.cons_append, List.length_cons, List.length_nil, Nat.zero_add, Nat.reduceAdd]; rfl) rfl ?_)); clear H; intro w' H; try dsimp only at H)
          | (at_builtin; refine aAppS1 H _ _ rfl rfl rfl (by first | omega | (have := HCL.out; omega)) rfl ?_; clear H; intro v' w' ys HY H; (try dsimp only at H); obtain ⟨A', c', rfl, hc'⟩ := (H.hold.rr v').len)
          | (at_builtin; refine aAppB1 _ H _ _ rfl rfl rfl (by first | omega | (have := HCL.out; omega)) rfl ?_; clear H; intro v' w' ys HY H; (try dsimp only at H); obtain ⟨A', c', rfl, hc'⟩ := (H.hold.rr v').len))
        refine bodyPost_ret (res_cell_tmp rfl _ H.hold rfl rfl) rfl ?_
        rw [invT, if_pos d2]
        exact ⟨none, 0, rfl, OR.nil _ _, H.below⟩
      · go_wp2_with (first
          | (go_at_call 63; (with_reducible refine (CC.out _ _ ss (H.hold.rr _) HLBw.out).mono ?_); rintro e w' ⟨A5, p5, ss5, rfl, hLB5, hsl5, hRR5, hb⟩; have H1 := H0.join (H.step hb); simp only [List.cons_append, List.nil_append] at H1; clear H0 RO H hb HLBw; have H0 := H1; clear H1; rename World => w5; have RO := H0.hold; have H := SH.start Nil w5)
          | ((with_reducible refine gDst 1 ?_); refine aBox H _ rfl rfl rfl ?_; clear H; intro b1 w1 H)
          | ((with_reducible refine gDst 2 ?_); refine aAlloc H rfl rfl ?_; clear H; intro b2 w2 H)
          | ((with_reducible refine gDst 4 ?_); refine aAlloc H rfl rfl ?_; clear H; intro b4 w4 H)
          | ((with_reducible refine gDst 35 ?_); refine aEmpty sV H rfl rfl ?_; clear H; intro b35 w35 H)
          | ((with_reducible refine gDst 42 ?_); refine aEmpty sB H rfl rfl ?_; clear H; intro b42 w42 H)
          | ((with_reducible refine gDst 12 ?_); refine aAlloc H rfl rfl ?_; clear H; intro b12 w12 H)
          | ((with_reducible refine gLoad ?_); first | (refine aLoad1 H _ rfl rfl (by first | exact (rfl : _ = some (Value.int _ _)) | exact (rfl : _ = some (Value.slice _ _ _)) | exact (rfl : _ = some (Value.bool _)) | exact (rfl : _ = some (Value.string _)) | exact (rfl : _ = some (Value.pointer _)) | rfl | (simp [List.getElem?_append]; done)) rfl ?_) | (refine aLoadR1 RO H _ rfl rfl (by first | exact (rfl : _ = some (Value.int _ _)) | exact (rfl : _ = some (Value.slice _ _ _)) | exact (rfl : _ = some (Value.bool _)) | exact (rfl : _ = some (Value.string _)) | exact (rfl : _ = some (Value.pointer _)) | rfl | (simp [List.getElem?_append]; done)) rfl ?_) | (refine aLoadC _ rfl rfl (by assumption) rfl ?_) | (refine aLoad H _ rfl rfl (by first | exact part_all (by first | rfl | simp []) | (simp only [List.drop_succ_cons, List.drop_zero, List.take_succ_cons, List.take_zero]; rfl) | (simp [List.drop_append, List.take_append]; rfl)) (by first | rfl | simp []) rfl ?_) | (refine aLoadR RO H _ rfl rfl (by first | exact part_all (by first | rfl | simp []) | (simp only [List.drop_succ_cons, List.drop_zero, List.take_succ_cons, List.take_zero]; rfl) | (simp [List.drop_append, List.take_append]; rfl)) (by first | rfl | simp []) rfl ?_))
          | ((with_reducible refine gBuild ?_); refine aZero rfl rfl ?_)
          | ((with_reducible refine gStore ?_); (first | (refine aStore H _ _ rfl rfl rfl (by (first | exact ⟨rfl, rfl⟩ | exact ⟨by decide, rfl⟩ | (simp []; done) | (constructor <;> simp [] <;> omega))) (by first | rfl | simp [List.all_append, one_all]) rfl ?_) | (refine aLay H _ _ rfl rfl rfl (by (first | exact ⟨rfl, rfl⟩ | exact ⟨by decide, rfl⟩ | (simp []; done) | (constructor <;> simp [] <;> omega))) (by first | rfl | simp [List.all_append, one_all]) (by simp only [lay, List.take_succ_cons, List.take_zero, List.drop_succ_cons, List.drop_zero, List.nil_append, List.cons_append, List.length_cons, List.length_nil, Nat.zero_add, Nat.reduceAdd]; rfl) rfl ?_)); clear H; intro w' H; try dsimp only at H)
          | (at_builtin; refine aAppS1 H _ _ rfl rfl rfl (by first | omega | (have := HCL.out; omega)) rfl ?_; clear H; intro v' w' ys HY H; (try dsimp only at H); obtain ⟨A', c', rfl, hc'⟩ := (H.hold.rr v').len)
          | (at_builtin; refine aAppB1 _ H _ _ rfl rfl rfl (by first | omega | (have := HCL.out; omega)) rfl ?_; clear H; intro v' w' ys HY H; (try dsimp only at H); obtain ⟨A', c', rfl, hc'⟩ := (H.hold.rr v').len))
        obtain ⟨adl, rfl, -⟩ := hRR5.at_ 0 (by omega)
        have hME := HME.out
        have hmm := HMM.out
        go_loopw [13] (fun v13 wr => relI2 s.1 n b12 w5 v13 wr) (fun v _ => n - (intOf v).toNat)
        case atStart => exact ⟨0, [], none, 0, rfl, by omega, rfl, H.nilRow B8⟩
        case round =>
          obtain ⟨i, cur, A6, cp6, rfl, hi, HC, HS⟩ := hrel
          clear H
          have H := HS
          clear HS
          by_cases hir : i < n
          · have hii : (i : Int) < (n : Int) := by omega
            obtain ⟨adi, ci, hsi, hcle, hrb⟩ := hLB5.row hME hir (by omega)
            have hc5 := svAt hRR5 i (by omega)
            rw [hsi] at hc5
            change _ = some (Value.slice (some adi) m ci) at hc5
            have hck := cut1 adi m ci n (by omega) hcle
            have hrd := hrb.dropAt n (by rw [hME.get hir]; omega)
            have hmn : m - n = n := by omega
            rw [hmn] at hck hrd
            have hdl : (s.1.getD i []).drop n = (List.range n).map (fun j => fe s.1 i (n + j)) := by
              refine List.ext_getElem (by rw [List.length_drop, hME.get hir, List.length_map, List.length_range]; omega) fun j h1 h2 => ?_
              rw [List.length_map, List.length_range] at h2
              simp only [List.getElem_drop, List.getElem_map, List.getElem_range]
              rw [fe, List.getD_eq_getElem?_getD (l := s.1.getD i []), List.getElem?_eq_getElem (by rw [hME.get hir]; omega)]; rfl
            have hst := fillL_succ i n (fun i j => fe s.1 i (n + j))
            rw [← hdl, ← HC.out] at hst
            have hxl : ((s.1.getD i []).drop n).length = n := by rw [List.length_drop, hME.get hir]; omega
            have hcl : cur.length ≤ 5000 := by
              rw [HC.out, fillL_len]
              have := Nat.mul_le_mul (show i ≤ 32 by omega) hn2
              omega
            have hc := cell_below H.below hc5
            generalize (s.1.getD i []).drop n = xi at *
            generalize adi.add n = pa at *
            generalize ci - n = ca at *
            have HST := Lib.hid hst
            have HCL := Lib.hid hcl
            have HXL := Lib.hid hxl
            have HRD := Lib.hid hrd
            have HB0 := Lib.hid H.below
            have hBS : ∀ wS, wS = wr.drew → Below w5.heap.size w5 wS := fun wS e => by subst e; exact pw_below_drewN (HB0.out) 1
            have hni3 : (n : Int) < (m : Int) := by omega
            have hmb : (m : Int) ≤ 64 := by omega
            clear hst hcl hxl hrd hdl hsi hrb hc5 hcle hmm hmn
            go_wp2_with (first
              | ((with_reducible refine gDst 1 ?_); refine aBox H _ rfl rfl rfl ?_; clear H; intro b1 w1 H)
              | ((with_reducible refine gDst 2 ?_); refine aAlloc H rfl rfl ?_; clear H; intro b2 w2 H)
              | ((with_reducible refine gDst 4 ?_); refine aAlloc H rfl rfl ?_; clear H; intro b4 w4 H)
              | ((with_reducible refine gDst 35 ?_); refine aEmpty sV H rfl rfl ?_; clear H; intro b35 w35 H)
              | ((with_reducible refine gDst 42 ?_); refine aEmpty sB H rfl rfl ?_; clear H; intro b42 w42 H)
              | ((with_reducible refine gDst 12 ?_); refine aAlloc H rfl rfl ?_; clear H; intro b12 w12 H)
              | ((with_reducible refine gLoad ?_); first | (refine aLoad1 H _ rfl rfl (by first | exact (rfl : _ = some (Value.int _ _)) | exact (rfl : _ = some (Value.slice _ _ _)) | exact (rfl : _ = some (Value.bool _)) | exact (rfl : _ = some (Value.string _)) | exact (rfl : _ = some (Value.pointer _)) | rfl | (simp [List.getElem?_append]; done)) rfl ?_) | (refine aLoadR1 RO H _ rfl rfl (by first | exact (rfl : _ = some (Value.int _ _)) | exact (rfl : _ = some (Value.slice _ _ _)) | exact (rfl : _ = some (Value.bool _)) | exact (rfl : _ = some (Value.string _)) | exact (rfl : _ = some (Value.pointer _)) | rfl | (simp [List.getElem?_append]; done)) rfl ?_) | (refine aLoadC _ rfl rfl (by assumption) rfl ?_) | (refine aLoad H _ rfl rfl (by first | exact part_all (by first | rfl | simp []) | (simp only [List.drop_succ_cons, List.drop_zero, List.take_succ_cons, List.take_zero]; rfl) | (simp [List.drop_append, List.take_append]; rfl)) (by first | rfl | simp []) rfl ?_) | (refine aLoadR RO H _ rfl rfl (by first | exact part_all (by first | rfl | simp []) | (simp only [List.drop_succ_cons, List.drop_zero, List.take_succ_cons, List.take_zero]; rfl) | (simp [List.drop_append, List.take_append]; rfl)) (by first | rfl | simp []) rfl ?_))
              | ((with_reducible refine gBuild ?_); refine aZero rfl rfl ?_)
              | ((with_reducible refine gStore ?_); (first | (refine aStore H _ _ rfl rfl rfl (by (first | exact ⟨rfl, rfl⟩ | exact ⟨by decide, rfl⟩ | (simp []; done) | (constructor <;> simp [] <;> omega))) (by first | rfl | simp [List.all_append, one_all]) rfl ?_) | (refine aLay H _ _ rfl rfl rfl (by (first | exact ⟨rfl, rfl⟩ | exact ⟨by decide, rfl⟩ | (simp []; done) | (constructor <;> simp [] <;> omega))) (by first | rfl | simp [List.all_append, one_all]) (by simp only [lay, List.take_succ_cons, List.take_zero, List.drop_succ_cons, List.drop_zero, List.nil_append, List.cons_append, List.length_cons, List.length_nil, Nat.zero_add, Nat.reduceAdd]; rfl) rfl ?_)); clear H; intro w' H; try dsimp only at H)
              | (at_builtin; refine aAppS1 H _ _ rfl rfl rfl (by first | omega | (have := HCL.out; omega)) rfl ?_; clear H; intro v' w' ys HY H; (try dsimp only at H); obtain ⟨A', c', rfl, hc'⟩ := (H.hold.rr v').len)
              | (at_builtin; refine aAppB1 _ H _ _ rfl rfl rfl (by first | omega | (have := HCL.out; omega)) rfl ?_; clear H; intro v' w' ys HY H; (try dsimp only at H); obtain ⟨A', c', rfl, hc'⟩ := (H.hold.rr v').len))
            refine startA (fun i => i == 9 || i == 11) (by kernel_rfl) (fun wS hS => ?_)
            replace H := H.drew
            rw [← hS] at H
            have HH := H.hold
            have HR := H.old RO
            have HS0 : Below wS.heap.size wS wS := Below.refl _ _
            replace hc := cellS hS hc
            have hB5 := hBS wS hS
            clear hS
            refine takeP 0 rfl (by kernel_rfl) (by kernel_rfl) (by kernel_rfl) (by kernel_rfl) (fun _ _ _ h => h) rfl (v := ?_) ?_ ?_
            rotate_left
            · intro w'; go_simp; (try with_reducible rfl)
            (try simp only [Act.put, List.setIfInBounds_toArray, List.set_cons_zero, List.set_cons_succ])
            refine takeL 1 HS0 rfl (by kernel_rfl) (by kernel_rfl) (by kernel_rfl) (by kernel_rfl) (by kernel_rfl) (fun _ _ _ h => h) rfl (v := ?_) ?_ ?_
            rotate_left
            · intro w' hw'; first | (refine Eq.trans (xLoad1 (HR.below hw') _ rfl rfl (by first | exact (rfl : _ = some (Value.int _ _)) | exact (rfl : _ = some (Value.slice _ _ _)) | exact (rfl : _ = some (Value.bool _)) | exact (rfl : _ = some (Value.string _)) | exact (rfl : _ = some (Value.pointer _)) | rfl | (simp [List.getElem?_append]; done))) ?_; with_reducible rfl) | (refine Eq.trans (xLoad1 (HH.below hw') _ rfl rfl (by first | exact (rfl : _ = some (Value.int _ _)) | exact (rfl : _ = some (Value.slice _ _ _)) | exact (rfl : _ = some (Value.bool _)) | exact (rfl : _ = some (Value.string _)) | exact (rfl : _ = some (Value.pointer _)) | rfl | (simp [List.getElem?_append]; done))) ?_; with_reducible rfl) | (refine Eq.trans (xLoadC _ rfl rfl (cell_below hw' (by assumption))) ?_; with_reducible rfl)
            (try simp only [Act.put, List.setIfInBounds_toArray, List.set_cons_zero, List.set_cons_succ])
            refine takeP 2 rfl (by kernel_rfl) (by kernel_rfl) (by kernel_rfl) (by kernel_rfl) (fun _ _ _ h => h) rfl (v := ?_) ?_ ?_
            rotate_left
            · intro w'; go_simp; (try with_reducible rfl)
            (try simp only [Act.put, List.setIfInBounds_toArray, List.set_cons_zero, List.set_cons_succ])
            refine takeP 3 rfl (by kernel_rfl) (by kernel_rfl) (by kernel_rfl) (by kernel_rfl) (fun _ _ _ h => h) rfl (v := ?_) ?_ ?_
            rotate_left
            · intro w'; go_simp; (try with_reducible rfl)
            (try simp only [Act.put, List.setIfInBounds_toArray, List.set_cons_zero, List.set_cons_succ])
            refine takeP 4 rfl (by kernel_rfl) (by kernel_rfl) (by kernel_rfl) (by kernel_rfl) (fun _ _ _ h => h) rfl (v := ?_) ?_ ?_
            rotate_left
            · intro w'; go_simp; (try with_reducible rfl)
            (try simp only [Act.put, List.setIfInBounds_toArray, List.set_cons_zero, List.set_cons_succ])
            refine takeL 5 HS0 rfl (by kernel_rfl) (by kernel_rfl) (by kernel_rfl) (by kernel_rfl) (by kernel_rfl) (fun _ _ _ h => h) rfl (v := ?_) ?_ ?_
            rotate_left
            · intro w' hw'; first | (refine Eq.trans (xLoad1 (HR.below hw') _ rfl rfl (by first | exact (rfl : _ = some (Value.int _ _)) | exact (rfl : _ = some (Value.slice _ _ _)) | exact (rfl : _ = some (Value.bool _)) | exact (rfl : _ = some (Value.string _)) | exact (rfl : _ = some (Value.pointer _)) | rfl | (simp [List.getElem?_append]; done))) ?_; with_reducible rfl) | (refine Eq.trans (xLoad1 (HH.below hw') _ rfl rfl (by first | exact (rfl : _ = some (Value.int _ _)) | exact (rfl : _ = some (Value.slice _ _ _)) | exact (rfl : _ = some (Value.bool _)) | exact (rfl : _ = some (Value.string _)) | exact (rfl : _ = some (Value.pointer _)) | rfl | (simp [List.getElem?_append]; done))) ?_; with_reducible rfl) | (refine Eq.trans (xLoadC _ rfl rfl (cell_below hw' (by assumption))) ?_; with_reducible rfl)
            (try simp only [Act.put, List.setIfInBounds_toArray, List.set_cons_zero, List.set_cons_succ])
            refine takeP 6 rfl (by kernel_rfl) (by kernel_rfl) (by kernel_rfl) (by kernel_rfl) (fun _ _ _ h => h) rfl (v := ?_) ?_ ?_
            rotate_left
            · intro w'; go_simp; (try with_reducible rfl)
            (try simp only [Act.put, List.setIfInBounds_toArray, List.set_cons_zero, List.set_cons_succ])
            refine takeL 7 HS0 rfl (by kernel_rfl) (by kernel_rfl) (by kernel_rfl) (by kernel_rfl) (by kernel_rfl) (fun _ _ _ h => h) rfl (v := ?_) ?_ ?_
            rotate_left
            · intro w' hw'; first | (refine Eq.trans (xLoad1 (HR.below hw') _ rfl rfl (by first | exact (rfl : _ = some (Value.int _ _)) | exact (rfl : _ = some (Value.slice _ _ _)) | exact (rfl : _ = some (Value.bool _)) | exact (rfl : _ = some (Value.string _)) | exact (rfl : _ = some (Value.pointer _)) | rfl | (simp [List.getElem?_append]; done))) ?_; with_reducible rfl) | (refine Eq.trans (xLoad1 (HH.below hw') _ rfl rfl (by first | exact (rfl : _ = some (Value.int _ _)) | exact (rfl : _ = some (Value.slice _ _ _)) | exact (rfl : _ = some (Value.bool _)) | exact (rfl : _ = some (Value.string _)) | exact (rfl : _ = some (Value.pointer _)) | rfl | (simp [List.getElem?_append]; done))) ?_; with_reducible rfl) | (refine Eq.trans (xLoadC _ rfl rfl (cell_below hw' (by assumption))) ?_; with_reducible rfl)
            (try simp only [Act.put, List.setIfInBounds_toArray, List.set_cons_zero, List.set_cons_succ])
            refine takeP 8 rfl (by kernel_rfl) (by kernel_rfl) (by kernel_rfl) (by kernel_rfl) (fun _ _ _ h => h) rfl (v := ?_) ?_ ?_
            rotate_left
            · intro w'; go_simp; (try with_reducible rfl)
            (try simp only [Act.put, List.setIfInBounds_toArray, List.set_cons_zero, List.set_cons_succ])
            refine stepL 9 rfl (by kernel_rfl) rfl (fun K hK => ?_)
            (refine oAppN sB H _ _ rfl rfl rfl (HRD.out.below (below_two hB5 hB5.size HS0)) (by rw [HXL.out]; show (cur.length + n) * 1 ≤ _; have := HCL.out; omega) ?_; clear H; intro v' w' ys HY H; (try dsimp only at H); obtain ⟨A7, c7, rfl, hc7⟩ := (H.hold.rr v').len; refine hK.out _ _ (fun h => by cases h) ?_; clear K hK HS0)
            (try simp only [Act.put, List.setIfInBounds_toArray, List.set_cons_zero, List.set_cons_succ])
            refine takeP 10 rfl (by kernel_rfl) (by kernel_rfl) (by kernel_rfl) (by kernel_rfl) (fun _ _ _ h => h) rfl (v := ?_) ?_ ?_
            rotate_left
            · intro w'; go_simp; (try with_reducible rfl)
            (try simp only [Act.put, List.setIfInBounds_toArray, List.set_cons_zero, List.set_cons_succ])
            refine stepL 11 rfl (by kernel_rfl) rfl (fun K hK => ?_)
            refine oCellA H _ _ rfl rfl (by first | exact (rfl : _ = Value.int _ _) | exact (rfl : _ = Value.bool _) | exact (rfl : _ = Value.slice _ _ _) | exact (rfl : _ = Value.string _) | exact (rfl : _ = Value.pointer _) | exact (rfl : _ = Value.func _ _ _) | rfl) (by rfl) (by rfl) (by first | exact of_decide_eq_true rfl | (simp []; done) | (simp []; omega)) (by first | (simp only [List.set_cons_zero, List.set_cons_succ]; rfl) | (simp [List.set_append]; rfl)) ?_
            clear H; intro w' H; (try dsimp only at H); refine hK.out _ _ (fun h => by cases h) ?_; clear K hK HS0
            (try simp only [Act.put, List.setIfInBounds_toArray, List.set_cons_zero, List.set_cons_succ])
            refine doneL (by kernel_rfl) ?_
            go_wp2
            go_roundw
            case rel => first | exact ⟨i + 1, _, _, _, by go_num, by omega, HY.out.trans HST.out.symm, H⟩ | exact ⟨_, ⟨i + 1, _, _, _, by go_num, by omega, HY.out.trans HST.out.symm, H⟩, rfl⟩ | exact ⟨_, _, ⟨i + 1, _, _, _, by go_num, by omega, HY.out.trans HST.out.symm, H⟩, rfl, rfl⟩ | exact ⟨_, _, _, ⟨i + 1, _, _, _, by go_num, by omega, HY.out.trans HST.out.symm, H⟩, rfl, rfl, rfl⟩ | exact ⟨_, _, _, _, ⟨i + 1, _, _, _, by go_num, by omega, HY.out.trans HST.out.symm, H⟩, rfl, rfl, rfl, rfl⟩ | exact ⟨_, _, _, _, _, ⟨i + 1, _, _, _, by go_num, by omega, HY.out.trans HST.out.symm, H⟩, rfl, rfl, rfl, rfl, rfl⟩
            case measure => simp [intOf] <;> omega
          · obtain rfl : n = i := by omega
            have H1 := H0.join H
            simp only [List.cons_append, List.nil_append] at H1
            clear H RO
            have H := H1
            clear H1
            go_wp2_with (first
              | ((with_reducible refine gDst 1 ?_); refine aBox H _ rfl rfl rfl ?_; clear H; intro b1 w1 H)
              | ((with_reducible refine gDst 2 ?_); refine aAlloc H rfl rfl ?_; clear H; intro b2 w2 H)
              | ((with_reducible refine gDst 4 ?_); refine aAlloc H rfl rfl ?_; clear H; intro b4 w4 H)
              | ((with_reducible refine gDst 35 ?_); refine aEmpty sV H rfl rfl ?_; clear H; intro b35 w35 H)
              | ((with_reducible refine gDst 42 ?_); refine aEmpty sB H rfl rfl ?_; clear H; intro b42 w42 H)
              | ((with_reducible refine gDst 12 ?_); refine aAlloc H rfl rfl ?_; clear H; intro b12 w12 H)
              | ((with_reducible refine gLoad ?_); first | (refine aLoad1 H _ rfl rfl (by first | exact (rfl : _ = some (Value.int _ _)) | exact (rfl : _ = some (Value.slice _ _ _)) | exact (rfl : _ = some (Value.bool _)) | exact (rfl : _ = some (Value.string _)) | exact (rfl : _ = some (Value.pointer _)) | rfl | (simp [List.getElem?_append]; done)) rfl ?_) | (refine aLoadR1 RO H _ rfl rfl (by first | exact (rfl : _ = some (Value.int _ _)) | exact (rfl : _ = some (Value.slice _ _ _)) | exact (rfl : _ = some (Value.bool _)) | exact (rfl : _ = some (Value.string _)) | exact (rfl : _ = some (Value.pointer _)) | rfl | (simp [List.getElem?_append]; done)) rfl ?_) | (refine aLoadC _ rfl rfl (by assumption) rfl ?_) | (refine aLoad H _ rfl rfl (by first | exact part_all (by first | rfl | simp []) | (simp only [List.drop_succ_cons, List.drop_zero, List.take_succ_cons, List.take_zero]; rfl) | (simp [List.drop_append, List.take_append]; rfl)) (by first | rfl | simp []) rfl ?_) | (refine aLoadR RO H _ rfl rfl (by first | exact part_all (by first | rfl | simp []) | (simp only [List.drop_succ_cons, List.drop_zero, List.take_succ_cons, List.take_zero]; rfl) | (simp [List.drop_append, List.take_append]; rfl)) (by first | rfl | simp []) rfl ?_))
              | ((with_reducible refine gBuild ?_); refine aZero rfl rfl ?_)
              | ((with_reducible refine gStore ?_); (first | (refine aStore H _ _ rfl rfl rfl (by (first | exact ⟨rfl, rfl⟩ | exact ⟨by decide, rfl⟩ | (simp []; done) | (constructor <;> simp [] <;> omega))) (by first | rfl | simp [List.all_append, one_all]) rfl ?_) | (refine aLay H _ _ rfl rfl rfl (by (first | exact ⟨rfl, rfl⟩ | exact ⟨by decide, rfl⟩ | (simp []; done) | (constructor <;> simp [] <;> omega))) (by first | rfl | simp [List.all_append, one_all]) (by simp only [lay, List.take_succ_cons, List.take_zero, List.drop_succ_cons, List.drop_zero, List.nil_append, List.cons_append, List.length_cons, List.length_nil, Nat.zero_add, Nat.reduceAdd]; rfl) rfl ?_)); clear H; intro w' H; try dsimp only at H)
              | (at_builtin; refine aAppS1 H _ _ rfl rfl rfl (by first | omega | (have := HCL.out; omega)) rfl ?_; clear H; intro v' w' ys HY H; (try dsimp only at H); obtain ⟨A', c', rfl, hc'⟩ := (H.hold.rr v').len)
              | (at_builtin; refine aAppB1 _ H _ _ rfl rfl rfl (by first | omega | (have := HCL.out; omega)) rfl ?_; clear H; intro v' w' ys HY H; (try dsimp only at H); obtain ⟨A', c', rfl, hc'⟩ := (H.hold.rr v').len))
            refine bodyPost_ret (res_cell_tmp rfl _ H.hold rfl rfl) rfl ?_
            rw [invT, if_neg d2, ← HC.out]
            exact ⟨A6, _, rfl, H.ow _, H.below⟩
end Go.Proofs.Ytfnneneaalaagaa

namespace Go.Proofs.Ytfnneneaalaagaa
set_option maxRecDepth 100000
open Go.RowKit
set_option linter.unusedSimpArgs false
set_option linter.unusedVariables false

def elF (l : List UInt8) (n i j : Nat) : UInt8 := l.getD (i * n + j) 0
theorem wide_fe (l : List UInt8) (n i j : Nat) (hi : i < n) (hj : j < n + n) : fe (wideM l n (n + n)) i j = wideF n (elF l n) i j := by
  rw [fe, wideM, List.getD_eq_getElem?_getD (a := ([] : List UInt8)), List.getElem?_map, List.getElem?_range hi]
  simp only [Option.map_some, Option.getD_some]
  rw [List.getD_eq_getElem?_getD, List.getElem?_map, List.getElem?_range hj]
  simp only [Option.map_some, Option.getD_some]
  rw [invF, wideF]
  rfl
theorem fillL_congr {r c : Nat} {f g : Nat → Nat → UInt8} (h : ∀ i j, i < r → j < c → f i j = g i j) : fillL r c f = fillL r c g := by
  unfold fillL
  rw [List.flatMap_def, List.flatMap_def]
  congr 1
  exact List.map_congr_left fun i hi => List.map_congr_left fun j hj => h i j (List.mem_range.1 hi) (List.mem_range.1 hj)
/-- The run of the program, and of the reference. -/
theorem run_wide (pk : List UInt8 → Int) (hp : Picks pk) (l : List UInt8) (n : Nat) : Run n (n + n) (fe (wideM l n (n + n))) n (runG pk n (n + n) (wideM l n (n + n)) n).2 (fe (runG pk n (n + n) (wideM l n (n + n)) n).1) ∧ (runG pk n (n + n) (wideM l n (n + n)) n).2 ≤ n :=
  ⟨(runG_mat hp (wideM_mat l n (n + n)) n (by omega)).2.2, (runG_mat hp (wideM_mat l n (n + n)) n (by omega)).2.1⟩
theorem run_undo {pk : List UInt8 → Int} (hp : Picks pk) (l : List UInt8) (n : Nat) (h : ¬ (runG pk n (n + n) (wideM l n (n + n)) n).2 < n) : Undo n (elF l n) (fun i j => fe (runG pk n (n + n) (wideM l n (n + n)) n).1 i (n + j)) := by
  obtain ⟨h1, h2⟩ := run_wide pk hp l n
  have e : (runG pk n (n + n) (wideM l n (n + n)) n).2 = n := by omega
  rw [e] at h1
  exact h1.undo fun i j hi hj => wide_fe l n i j hi hj
theorem inv_same (l : List UInt8) (n : Nat) : invT (runG lzI n (n + n) (wideM l n (n + n)) n) n = invT (clr n (n + n) (wideM l n (n + n)) n) n := by
  rw [clr_run]
  have e : (runG lzI n (n + n) (wideM l n (n + n)) n).2 = (runG nzI n (n + n) (wideM l n (n + n)) n).2 := (run_wide lzI picks_lz l n).1.same (run_wide nzI picks_nz l n).1 fun _ _ => Iff.rfl
  unfold invT
  rw [e]
  by_cases h : (runG nzI n (n + n) (wideM l n (n + n)) n).2 < n
  · rw [if_pos h, if_pos h]
  · rw [if_neg h, if_neg h, fillL_congr (Undo.same (run_undo picks_lz l n (by rw [e]; exact h)) (run_undo picks_nz l n h))]
theorem Inverse_pair (l : List UInt8) (r c : Int) (A0 : Option Addr) (cp0 : Nat) (hcp : l.length ≤ cp0) : ∃ x : Told26,
    (∀ w, RB w (.slice A0 l.length cp0) l → Calls Try.prog 29 #[.agg (mxT.enc (r, c, A0, l.length, cp0)).toArray] w (Gives26 mxT w x)) ∧
    (∀ w, RB w (.slice A0 l.length cp0) l → Calls Try.prog 30 #[.agg (rxT.enc (r, c, A0, l.length, cp0)).toArray] w (Gives26 rxT w x)) := by
  cases hm : mayB r c l.length with
  | false => exact ⟨_, fun w _ => Inverse_bad r c _ A0 cp0 w (.inl hm), fun w _ => rInverse_bad r c _ A0 cp0 w (.inl hm)⟩
  | true =>
    cases hrc : (r == c) with
    | false => exact ⟨_, fun w _ => Inverse_bad r c _ A0 cp0 w (.inr ⟨hm, hrc⟩), fun w _ => rInverse_bad r c _ A0 cp0 w (.inr ⟨hm, hrc⟩)⟩
    | true =>
      obtain rfl := beq_iff_eq.1 hrc
      obtain ⟨n, _, rfl, _⟩ := mayB_ok hm
      exact ⟨_, fun w h => Inverse_ok l n A0 cp0 w h hcp hm, fun w h => by rw [← inv_same]; exact rInverse_ok l n A0 cp0 w h hcp hm⟩
set_option maxHeartbeats 3200000 in
set_option maxRecDepth 100000 in
theorem MatrixInverse_any (r c : Int) (la : List UInt8) (Aa : Option Addr) (pa : Nat) (w : World) (ha : RB w (.slice Aa la.length pa) la) (hpa : la.length ≤ pa) :
    Calls Try.prog 8 #[.agg (mxT.enc (r, c, Aa, la.length, pa)).toArray] w fun e w' => e = .returned (.bool true) ∧ Below w.heap.size w w' := by
  have H := SH.start Nil w
  have RO := HOLD.rdOne ha
  obtain ⟨⟨r1, c1, l1, E1⟩, P1, P2⟩ := Inverse_pair la r c Aa pa hpa
  have cS : ∀ W, Calls Try.prog 19 #[.agg (mxT.enc (r, c, Aa, la.length, pa)).toArray] W fun e w' => e = .returned (.bool (smallB r c la.length)) ∧ Below W.heap.size W w' := fun W => small_any r c Aa la.length pa W
  have cL : ∀ W, Calls Try.prog 20 #[] W fun e w' => e = .returned (.bool true) ∧ Below W.heap.size W w' := alive26_any
  have cP : ∀ W, Calls Try.prog 23 #[.agg (mxT.enc (r, c, Aa, la.length, pa)).toArray] W fun e w' => e = .returned (.agg (rxT.enc (r, c, Aa, la.length, pa)).toArray) ∧ Below W.heap.size W w' := fun W => plain26_any r c Aa la.length pa W
  have hq : smallB r c la.length = true → la.length ≤ 64 := fun h => by simp [smallB] at h; omega
  have HP1 := Lib.hid P1
  have HP2 := Lib.hid P2
  have HE1 : (E1 == E1) = true := by simp
  clear P1 P2
  generalize hsm : smallB r c la.length = sm at cS hq
  cases sm with
  | false =>
    clear ha hpa hq hsm
    go_enter Try.func8, Try.ntmps8
    go_wp2_with (first
      | ((with_reducible refine gDst 1 ?_); refine aBox H _ rfl rfl rfl ?_; clear H; intro b1 w1 H)
      | ((with_reducible refine gDst 4 ?_); refine aAlloc H rfl rfl ?_; clear H; intro b4 w4 H)
      | ((with_reducible refine gDst 6 ?_); refine aAlloc H rfl rfl ?_; clear H; intro b6 w6 H)
      | ((with_reducible refine gLoad ?_); first | (refine aLoad1 H _ rfl rfl (by first | exact (rfl : _ = some (Value.int _ _)) | exact (rfl : _ = some (Value.slice _ _ _)) | exact (rfl : _ = some (Value.bool _)) | exact (rfl : _ = some (Value.string _)) | exact (rfl : _ = some (Value.pointer _)) | rfl | (simp [List.getElem?_append]; done)) rfl ?_) | (refine aLoadR1 RO H _ rfl rfl (by first | exact (rfl : _ = some (Value.int _ _)) | exact (rfl : _ = some (Value.slice _ _ _)) | exact (rfl : _ = some (Value.bool _)) | exact (rfl : _ = some (Value.string _)) | exact (rfl : _ = some (Value.pointer _)) | rfl | (simp [List.getElem?_append]; done)) rfl ?_) | (refine aLoadC _ rfl rfl (by assumption) rfl ?_) | (refine aLoad H _ rfl rfl (by first | exact part_all (by first | rfl | simp []) | (simp only [List.drop_succ_cons, List.drop_zero, List.take_succ_cons, List.take_zero]; rfl) | (simp [List.drop_append, List.take_append]; rfl)) (by first | rfl | simp []) rfl ?_) | (refine aLoadR RO H _ rfl rfl (by first | exact part_all (by first | rfl | simp []) | (simp only [List.drop_succ_cons, List.drop_zero, List.take_succ_cons, List.take_zero]; rfl) | (simp [List.drop_append, List.take_append]; rfl)) (by first | rfl | simp []) rfl ?_))
      | ((with_reducible refine gStore ?_); (first | (refine aStore H _ _ rfl rfl rfl (by (first | exact ⟨rfl, rfl⟩ | exact ⟨by decide, rfl⟩ | (simp []; done) | (constructor <;> simp [] <;> omega))) (by first | rfl | simp [List.all_append, one_all]) rfl ?_) | (refine aLay H _ _ rfl rfl rfl (by (first | exact ⟨rfl, rfl⟩ | exact ⟨by decide, rfl⟩ | (simp []; done) | (constructor <;> simp [] <;> omega))) (by first | rfl | simp [List.all_append, one_all]) (by simp only [lay, List.take_succ_cons, List.take_zero, List.drop_succ_cons, List.drop_zero, List.nil_append, List.cons_append, List.length_cons, List.length_nil, Nat.zero_add, Nat.reduceAdd]; rfl) rfl ?_)); clear H; intro w' H; try dsimp only at H)
      | ((with_reducible refine gConv ?_); first | (refine aStr H _ rfl rfl rfl ?_) | (refine aStrR RO H _ rfl rfl rfl ?_))
      | (go_at_call 19; (with_reducible refine (cS _).mono ?_); rintro e w' ⟨rfl, hb⟩; replace H := H.step hb; clear hb)
      | (go_at_call 20; (with_reducible refine (cL _).mono ?_); rintro e w' ⟨rfl, hb⟩; replace H := H.step hb; clear hb))
    go_ret
    exact ⟨rfl, H.below⟩
  | true =>
    have hql := hq rfl
    have cK1 := fun (W : World) (hB : Below w.heap.size w W) => Rank_any r c Aa pa la W (ha.below hB) (by omega)
    have cK2 := fun (W : World) (hB : Below w.heap.size w W) => rRank_any r c Aa pa la W (ha.below hB) hpa
    generalize (rankI r c la : Int) = q at *
    have hbb : (q == q) = true := by simp
    clear ha hpa hq hql hsm
    go_enter Try.func8, Try.ntmps8
    go_wp2_with (first
      | ((with_reducible refine gDst 1 ?_); refine aBox H _ rfl rfl rfl ?_; clear H; intro b1 w1 H)
      | ((with_reducible refine gDst 4 ?_); refine aAlloc H rfl rfl ?_; clear H; intro b4 w4 H)
      | ((with_reducible refine gDst 6 ?_); refine aAlloc H rfl rfl ?_; clear H; intro b6 w6 H)
      | ((with_reducible refine gLoad ?_); first | (refine aLoad1 H _ rfl rfl (by first | exact (rfl : _ = some (Value.int _ _)) | exact (rfl : _ = some (Value.slice _ _ _)) | exact (rfl : _ = some (Value.bool _)) | exact (rfl : _ = some (Value.string _)) | exact (rfl : _ = some (Value.pointer _)) | rfl | (simp [List.getElem?_append]; done)) rfl ?_) | (refine aLoadR1 RO H _ rfl rfl (by first | exact (rfl : _ = some (Value.int _ _)) | exact (rfl : _ = some (Value.slice _ _ _)) | exact (rfl : _ = some (Value.bool _)) | exact (rfl : _ = some (Value.string _)) | exact (rfl : _ = some (Value.pointer _)) | rfl | (simp [List.getElem?_append]; done)) rfl ?_) | (refine aLoadC _ rfl rfl (by assumption) rfl ?_) | (refine aLoad H _ rfl rfl (by first | exact part_all (by first | rfl | simp []) | (simp only [List.drop_succ_cons, List.drop_zero, List.take_succ_cons, List.take_zero]; rfl) | (simp [List.drop_append, List.take_append]; rfl)) (by first | rfl | simp []) rfl ?_) | (refine aLoadR RO H _ rfl rfl (by first | exact part_all (by first | rfl | simp []) | (simp only [List.drop_succ_cons, List.drop_zero, List.take_succ_cons, List.take_zero]; rfl) | (simp [List.drop_append, List.take_append]; rfl)) (by first | rfl | simp []) rfl ?_))
      | ((with_reducible refine gStore ?_); (first | (refine aStore H _ _ rfl rfl rfl (by (first | exact ⟨rfl, rfl⟩ | exact ⟨by decide, rfl⟩ | (simp []; done) | (constructor <;> simp [] <;> omega))) (by first | rfl | simp [List.all_append, one_all]) rfl ?_) | (refine aLay H _ _ rfl rfl rfl (by (first | exact ⟨rfl, rfl⟩ | exact ⟨by decide, rfl⟩ | (simp []; done) | (constructor <;> simp [] <;> omega))) (by first | rfl | simp [List.all_append, one_all]) (by simp only [lay, List.take_succ_cons, List.take_zero, List.drop_succ_cons, List.drop_zero, List.nil_append, List.cons_append, List.length_cons, List.length_nil, Nat.zero_add, Nat.reduceAdd]; rfl) rfl ?_)); clear H; intro w' H; try dsimp only at H)
      | ((with_reducible refine gConv ?_); first | (refine aStr H _ rfl rfl rfl ?_) | (refine aStrR RO H _ rfl rfl rfl ?_))
      | (go_at_call 19; (with_reducible refine (cS _).mono ?_); rintro e w' ⟨rfl, hb⟩; replace H := H.step hb; clear hb)
      | (go_at_call 29; (with_reducible refine (HP1.out _ ((H.old RO).rd _)).mono ?_); rintro e w' ⟨A1, cp1, rfl, ho, hb⟩; replace H := H.pushRow hb ho; clear hb ho)
      | (go_at_call 23; (with_reducible refine (cP _).mono ?_); rintro e w' ⟨rfl, hb⟩; replace H := H.step hb; clear hb)
      | (go_at_call 30; (with_reducible refine (HP2.out _ ((H.old RO).rd _)).mono ?_); rintro e w' ⟨A2, cp2, rfl, ho, hb⟩; replace H := H.pushRow hb ho; clear hb ho))
    refine startA (fun i => false) (by kernel_rfl) (fun wS hS => ?_)
    replace H := H.drew
    rw [← hS] at H
    have HH := H.hold
    have HR := H.old RO
    have HS0 : Below wS.heap.size wS wS := Below.refl _ _
    clear hS
    refine stepL 0 rfl (by kernel_rfl) rfl (fun K hK => ?_)
    (go_simp; (with_reducible refine (cL _).mono ?_); rintro e w' ⟨rfl, hb⟩; replace H := H.step hb; replace HS0 := below_two HS0 HS0.size hb; clear hb; refine hK.out _ _ (fun _ _ => HS0) ?_; clear K hK)
    (try simp only [Act.put, List.setIfInBounds_toArray, List.set_cons_zero, List.set_cons_succ])
    refine takeP 1 rfl (by kernel_rfl) (by kernel_rfl) (by kernel_rfl) (by kernel_rfl) (fun _ _ _ h => h) rfl (v := ?_) ?_ ?_
    rotate_left
    · intro w'; go_simp; (try with_reducible rfl)
    (try simp only [Act.put, List.setIfInBounds_toArray, List.set_cons_zero, List.set_cons_succ])
    refine takeL 2 HS0 rfl (by kernel_rfl) (by kernel_rfl) (by kernel_rfl) (by kernel_rfl) (by kernel_rfl) (fun _ _ _ h => h) rfl (v := ?_) ?_ ?_
    rotate_left
    · intro w' hw'; first | (refine Eq.trans (xLoad (HR.below hw') _ rfl rfl (by first | exact part_all (by first | rfl | simp []) | (simp only [List.drop_succ_cons, List.drop_zero, List.take_succ_cons, List.take_zero]; rfl) | (simp [List.drop_append, List.take_append]; rfl)) (by first | rfl | simp [])) ?_; with_reducible rfl) | (refine Eq.trans (xLoad (HH.below hw') _ rfl rfl (by first | exact part_all (by first | rfl | simp []) | (simp only [List.drop_succ_cons, List.drop_zero, List.take_succ_cons, List.take_zero]; rfl) | (simp [List.drop_append, List.take_append]; rfl)) (by first | rfl | simp [])) ?_; with_reducible rfl)
    (try simp only [Act.put, List.setIfInBounds_toArray, List.set_cons_zero, List.set_cons_succ])
    refine takeL 3 HS0 rfl (by kernel_rfl) (by kernel_rfl) (by kernel_rfl) (by kernel_rfl) (by kernel_rfl) (fun _ _ _ h => h) rfl (v := ?_) ?_ ?_
    rotate_left
    · intro w' hw'; first | (refine Eq.trans (xLoad (HR.below hw') _ rfl rfl (by first | exact part_all (by first | rfl | simp []) | (simp only [List.drop_succ_cons, List.drop_zero, List.take_succ_cons, List.take_zero]; rfl) | (simp [List.drop_append, List.take_append]; rfl)) (by first | rfl | simp [])) ?_; with_reducible rfl) | (refine Eq.trans (xLoad (HH.below hw') _ rfl rfl (by first | exact part_all (by first | rfl | simp []) | (simp only [List.drop_succ_cons, List.drop_zero, List.take_succ_cons, List.take_zero]; rfl) | (simp [List.drop_append, List.take_append]; rfl)) (by first | rfl | simp [])) ?_; with_reducible rfl)
    (try simp only [Act.put, List.setIfInBounds_toArray, List.set_cons_zero, List.set_cons_succ])
    refine stepL 4 rfl (by kernel_rfl) rfl (fun K hK => ?_)
    (go_simp; (with_reducible refine (same_true r1 c1 A1 A2 _ _ cp1 cp2 l1 _ (H.hold.rd _) (H.hold.rd _)).mono ?_); rintro e w' ⟨rfl, hb⟩; replace H := H.step hb; replace HS0 := below_two HS0 HS0.size hb; clear hb; refine hK.out _ _ (fun _ _ => HS0) ?_; clear K hK)
    (try simp only [Act.put, List.setIfInBounds_toArray, List.set_cons_zero, List.set_cons_succ])
    refine takeP 5 rfl (by kernel_rfl) (by kernel_rfl) (by kernel_rfl) (by kernel_rfl) (fun _ _ _ h => h) rfl (v := ?_) ?_ ?_
    rotate_left
    · intro w'; go_simp; (try with_reducible rfl)
    (try simp only [Act.put, List.setIfInBounds_toArray, List.set_cons_zero, List.set_cons_succ])
    refine takeP 6 rfl (by kernel_rfl) (by kernel_rfl) (by kernel_rfl) (by kernel_rfl) (fun _ _ _ h => h) rfl (v := ?_) ?_ ?_
    rotate_left
    · intro w'; go_simp; (try with_reducible rfl)
    (try simp only [Act.put, List.setIfInBounds_toArray, List.set_cons_zero, List.set_cons_succ])
    refine takeP 7 rfl (by kernel_rfl) (by kernel_rfl) (by kernel_rfl) (by kernel_rfl) (fun _ _ _ h => h) rfl (v := ?_) ?_ ?_
    rotate_left
    · intro w'; go_simp; (try with_reducible rfl)
    (try simp only [Act.put, List.setIfInBounds_toArray, List.set_cons_zero, List.set_cons_succ])
    refine takeP 8 rfl (by kernel_rfl) (by kernel_rfl) (by kernel_rfl) (by kernel_rfl) (fun _ _ _ h => h) rfl (v := ?_) ?_ ?_
    rotate_left
    · intro w'; go_simp; (try with_reducible rfl)
    (try simp only [Act.put, List.setIfInBounds_toArray, List.set_cons_zero, List.set_cons_succ])
    refine takeP 9 rfl (by kernel_rfl) (by kernel_rfl) (by kernel_rfl) (by kernel_rfl) (fun _ _ _ h => h) rfl (v := ?_) ?_ ?_
    rotate_left
    · intro w'; go_simp; (try with_reducible rfl)
    (try simp only [Act.put, List.setIfInBounds_toArray, List.set_cons_zero, List.set_cons_succ])
    refine takeP 10 rfl (by kernel_rfl) (by kernel_rfl) (by kernel_rfl) (by kernel_rfl) (fun _ _ _ h => h) rfl (v := ?_) ?_ ?_
    rotate_left
    · intro w'; go_simp; (try with_reducible rfl)
    (try simp only [Act.put, List.setIfInBounds_toArray, List.set_cons_zero, List.set_cons_succ])
    refine takeP 11 rfl (by kernel_rfl) (by kernel_rfl) (by kernel_rfl) (by kernel_rfl) (fun _ _ _ h => h) rfl (v := ?_) ?_ ?_
    rotate_left
    · intro w'; go_simp; (try with_reducible rfl)
    (try simp only [Act.put, List.setIfInBounds_toArray, List.set_cons_zero, List.set_cons_succ])
    refine takeL 12 HS0 rfl (by kernel_rfl) (by kernel_rfl) (by kernel_rfl) (by kernel_rfl) (by kernel_rfl) (fun _ _ _ h => h) rfl (v := ?_) ?_ ?_
    rotate_left
    · intro w' hw'; first | (refine Eq.trans (xLoad (HR.below hw') _ rfl rfl (by first | exact part_all (by first | rfl | simp []) | (simp only [List.drop_succ_cons, List.drop_zero, List.take_succ_cons, List.take_zero]; rfl) | (simp [List.drop_append, List.take_append]; rfl)) (by first | rfl | simp [])) ?_; with_reducible rfl) | (refine Eq.trans (xLoad (HH.below hw') _ rfl rfl (by first | exact part_all (by first | rfl | simp []) | (simp only [List.drop_succ_cons, List.drop_zero, List.take_succ_cons, List.take_zero]; rfl) | (simp [List.drop_append, List.take_append]; rfl)) (by first | rfl | simp [])) ?_; with_reducible rfl)
    (try simp only [Act.put, List.setIfInBounds_toArray, List.set_cons_zero, List.set_cons_succ])
    refine takeL 14 HS0 rfl (by kernel_rfl) (by kernel_rfl) (by kernel_rfl) (by kernel_rfl) (by kernel_rfl) (fun _ _ _ h => h) rfl (v := ?_) ?_ ?_
    rotate_left
    · intro w' hw'; first | (refine Eq.trans (xLoad (HR.below hw') _ rfl rfl (by first | exact part_all (by first | rfl | simp []) | (simp only [List.drop_succ_cons, List.drop_zero, List.take_succ_cons, List.take_zero]; rfl) | (simp [List.drop_append, List.take_append]; rfl)) (by first | rfl | simp [])) ?_; with_reducible rfl) | (refine Eq.trans (xLoad (HH.below hw') _ rfl rfl (by first | exact part_all (by first | rfl | simp []) | (simp only [List.drop_succ_cons, List.drop_zero, List.take_succ_cons, List.take_zero]; rfl) | (simp [List.drop_append, List.take_append]; rfl)) (by first | rfl | simp [])) ?_; with_reducible rfl)
    (try simp only [Act.put, List.setIfInBounds_toArray, List.set_cons_zero, List.set_cons_succ])
    refine stepL 13 rfl (by kernel_rfl) rfl (fun K hK => ?_)
    (go_simp; (with_reducible refine (cK1 _ H.below).mono ?_); rintro e w' ⟨rfl, hb⟩; replace H := H.step hb; replace HS0 := below_two HS0 HS0.size hb; clear hb; refine hK.out _ _ (fun _ _ => HS0) ?_; clear K hK)
    (try simp only [Act.put, List.setIfInBounds_toArray, List.set_cons_zero, List.set_cons_succ])
    refine stepL 15 rfl (by kernel_rfl) rfl (fun K hK => ?_)
    (go_simp; (with_reducible refine (cP _).mono ?_); rintro e w' ⟨rfl, hb⟩; replace H := H.step hb; replace HS0 := below_two HS0 HS0.size hb; clear hb; refine hK.out _ _ (fun _ _ => HS0) ?_; clear K hK)
    (try simp only [Act.put, List.setIfInBounds_toArray, List.set_cons_zero, List.set_cons_succ])
    refine stepL 16 rfl (by kernel_rfl) rfl (fun K hK => ?_)
    (go_simp; (with_reducible refine (cK2 _ H.below).mono ?_); rintro e w' ⟨rfl, hb⟩; replace H := H.step hb; replace HS0 := below_two HS0 HS0.size hb; clear hb; refine hK.out _ _ (fun _ _ => HS0) ?_; clear K hK)
    (try simp only [Act.put, List.setIfInBounds_toArray, List.set_cons_zero, List.set_cons_succ])
    refine takeP 17 rfl (by kernel_rfl) (by kernel_rfl) (by kernel_rfl) (by kernel_rfl) (fun _ _ _ h => h) rfl (v := ?_) ?_ ?_
    rotate_left
    · intro w'; go_simp; (try with_reducible rfl)
    (try simp only [Act.put, List.setIfInBounds_toArray, List.set_cons_zero, List.set_cons_succ])
    refine takeP 18 rfl (by kernel_rfl) (by kernel_rfl) (by kernel_rfl) (by kernel_rfl) (fun _ _ _ h => h) rfl (v := ?_) ?_ ?_
    rotate_left
    · intro w'; go_simp; (try with_reducible rfl)
    (try simp only [Act.put, List.setIfInBounds_toArray, List.set_cons_zero, List.set_cons_succ])
    refine takeP 19 rfl (by kernel_rfl) (by kernel_rfl) (by kernel_rfl) (by kernel_rfl) (fun _ _ _ h => h) rfl (v := ?_) ?_ ?_
    rotate_left
    · intro w'; go_simp; (try with_reducible rfl)
    (try simp only [Act.put, List.setIfInBounds_toArray, List.set_cons_zero, List.set_cons_succ])
    refine takeP 20 rfl (by kernel_rfl) (by kernel_rfl) (by kernel_rfl) (by kernel_rfl) (fun _ _ _ h => h) rfl (v := ?_) ?_ ?_
    rotate_left
    · intro w'; go_simp; (try with_reducible rfl)
    (try simp only [Act.put, List.setIfInBounds_toArray, List.set_cons_zero, List.set_cons_succ])
    refine takeP 21 rfl (by kernel_rfl) (by kernel_rfl) (by kernel_rfl) (by kernel_rfl) (fun _ _ _ h => h) rfl (v := ?_) ?_ ?_
    rotate_left
    · intro w'; go_simp; (try with_reducible rfl)
    (try simp only [Act.put, List.setIfInBounds_toArray, List.set_cons_zero, List.set_cons_succ])
    refine takeL 22 HS0 rfl (by kernel_rfl) (by kernel_rfl) (by kernel_rfl) (by kernel_rfl) (by kernel_rfl) (fun _ _ _ h => h) rfl (v := ?_) ?_ ?_
    rotate_left
    · intro w' hw'; first | (refine Eq.trans (xLoad1 (HR.below hw') _ rfl rfl (by first | exact (rfl : _ = some (Value.int _ _)) | exact (rfl : _ = some (Value.slice _ _ _)) | exact (rfl : _ = some (Value.bool _)) | exact (rfl : _ = some (Value.string _)) | exact (rfl : _ = some (Value.pointer _)) | rfl | (simp [List.getElem?_append]; done))) ?_; with_reducible rfl) | (refine Eq.trans (xLoad1 (HH.below hw') _ rfl rfl (by first | exact (rfl : _ = some (Value.int _ _)) | exact (rfl : _ = some (Value.slice _ _ _)) | exact (rfl : _ = some (Value.bool _)) | exact (rfl : _ = some (Value.string _)) | exact (rfl : _ = some (Value.pointer _)) | rfl | (simp [List.getElem?_append]; done))) ?_; with_reducible rfl) | (refine Eq.trans (xLoadC _ rfl rfl (cell_below hw' (by assumption))) ?_; with_reducible rfl)
    (try simp only [Act.put, List.setIfInBounds_toArray, List.set_cons_zero, List.set_cons_succ])
    refine takeL 23 HS0 rfl (by kernel_rfl) (by kernel_rfl) (by kernel_rfl) (by kernel_rfl) (by kernel_rfl) (fun _ _ _ h => h) rfl (v := ?_) ?_ ?_
    rotate_left
    · intro w' hw'; first | (refine Eq.trans (xStr _ rfl rfl (HR.below hw')) ?_; with_reducible rfl) | (refine Eq.trans (xStr _ rfl rfl (HH.below hw')) ?_; with_reducible rfl)
    (try simp only [Act.put, List.setIfInBounds_toArray, List.set_cons_zero, List.set_cons_succ])
    refine takeP 24 rfl (by kernel_rfl) (by kernel_rfl) (by kernel_rfl) (by kernel_rfl) (fun _ _ _ h => h) rfl (v := ?_) ?_ ?_
    rotate_left
    · intro w'; go_simp; (try with_reducible rfl)
    (try simp only [Act.put, List.setIfInBounds_toArray, List.set_cons_zero, List.set_cons_succ])
    refine takeP 25 rfl (by kernel_rfl) (by kernel_rfl) (by kernel_rfl) (by kernel_rfl) (fun _ _ _ h => h) rfl (v := ?_) ?_ ?_
    rotate_left
    · intro w'; go_simp; (try with_reducible rfl)
    (try simp only [Act.put, List.setIfInBounds_toArray, List.set_cons_zero, List.set_cons_succ])
    refine takeP 26 rfl (by kernel_rfl) (by kernel_rfl) (by kernel_rfl) (by kernel_rfl) (fun _ _ _ h => h) rfl (v := ?_) ?_ ?_
    rotate_left
    · intro w'; go_simp; (try with_reducible rfl)
    (try simp only [Act.put, List.setIfInBounds_toArray, List.set_cons_zero, List.set_cons_succ])
    refine doneL (by kernel_rfl) ?_
    go_wp2
    go_ret
    exact ⟨rfl, H.below⟩
end Go.Proofs.Ytfnneneaalaagaa

namespace Go.Proofs.Ytfnneneaalaagaa
set_option maxRecDepth 100000
open Go.RowKit
set_option linter.unusedSimpArgs false
set_option linter.unusedVariables false

theorem cnt_full {p : Nat → Prop} : ∀ {k : Nat}, (∀ c, c < k → ¬ p c) → cnt p k = k
  | 0, _ => rfl
  | k + 1, h => by rw [cnt, cnt_full (fun c hc => h c (by omega)), if_neg (h k (by omega))]
/-- M times x. -/
def app (n : Nat) (M : Nat → Nat → UInt8) (x : Nat → UInt8) (i : Nat) : UInt8 := sumX n fun j => fmul (M i j) (x j)
def mulM (n : Nat) (M N : Nat → Nat → UInt8) (i k : Nat) : UInt8 := sumX n fun j => fmul (M i j) (N j k)
theorem app_congr {n : Nat} {M M' : Nat → Nat → UInt8} {x x' : Nat → UInt8} {i : Nat} (hM : ∀ j, j < n → M i j = M' i j) (hx : ∀ j, j < n → x j = x' j) : app n M x i = app n M' x' i :=
  sumX_congr fun j hj => by rw [hM j hj, hx j hj]
theorem app_mul (n : Nat) (M N : Nat → Nat → UInt8) (x : Nat → UInt8) (i : Nat) : app n (mulM n M N) x i = app n M (app n N x) i := by
  unfold app mulM
  have e1 : ∀ k, fmul (sumX n fun j => fmul (M i j) (N j k)) (x k) = sumX n fun j => fmul (fmul (M i j) (N j k)) (x k) := fun k => (sumX_mul n (x k) _).symm
  have e2 : ∀ j, fmul (M i j) (sumX n fun k => fmul (N j k) (x k)) = sumX n fun k => fmul (M i j) (fmul (N j k) (x k)) := fun j => (sumX_mul' n (M i j) _).symm
  rw [sumX_congr (fun k _ => e1 k), sumX_comm, sumX_congr (fun j _ => e2 j)]
  exact sumX_congr fun j _ => sumX_congr fun k _ => fmul_assoc _ _ _
theorem Undo.app_right {n : Nat} {M B : Nat → Nat → UInt8} (h : Undo n M B) (y : Nat → UInt8) (i : Nat) (hi : i < n) : app n M (app n B y) i = y i := h.right y i hi
theorem Undo.app_left {n : Nat} {M B : Nat → Nat → UInt8} (h : Undo n M B) (x : Nat → UInt8) (i : Nat) (hi : i < n) : app n B (app n M x) i = x i := h.left x i hi
theorem Undo.mul {n : Nat} {A X B Y : Nat → Nat → UInt8} (h : Undo n A X) (k : Undo n B Y) : Undo n (mulM n A B) (mulM n Y X) := by
  refine ⟨fun y i hi => ?_, fun x i hi => ?_⟩
  · show app n (mulM n A B) (app n (mulM n Y X) y) i = y i
    rw [app_mul, ← h.app_right y i hi]
    refine app_congr (fun _ _ => rfl) fun j hj => ?_
    rw [← k.app_right (app n X y) j hj]
    exact app_congr (fun _ _ => rfl) fun l _ => app_mul n Y X y l
  · show app n (mulM n Y X) (app n (mulM n A B) x) i = x i
    rw [app_mul, ← k.app_left x i hi]
    refine app_congr (fun _ _ => rfl) fun j hj => ?_
    rw [← h.app_left (app n B x) j hj]
    exact app_congr (fun _ _ => rfl) fun l _ => app_mul n A B x l
theorem Undo.congr {n : Nat} {M M' B B' : Nat → Nat → UInt8} (h : Undo n M B) (hM : ∀ i j, i < n → j < n → M' i j = M i j) (hB : ∀ i j, i < n → j < n → B' i j = B i j) : Undo n M' B' := by
  refine ⟨fun y i hi => ?_, fun x i hi => ?_⟩
  · rw [← h.right y i hi]
    exact sumX_congr fun j hj => by rw [hM i j hi hj, sumX_congr fun k hk => by rw [hB j k hj hk]]
  · rw [← h.left x i hi]
    exact sumX_congr fun j hj => by rw [hB i j hi hj, sumX_congr fun k hk => by rw [hM j k hj hk]]
theorem Undo.one {n : Nat} {M B : Nat → Nat → UInt8} (h : Undo n M B) (i j : Nat) (hi : i < n) (hj : j < n) : mulM n M B i j = unitF i j ∧ mulM n B M i j = unitF i j := by
  have one : ∀ (C : Nat → Nat → UInt8) l, (sumX n fun k => fmul (C l k) (if k = j then 1 else 0)) = C l j := fun C l => by
    rw [sumX_one n j _ hj (fun k _ hne => by rw [if_neg hne, fmul_zero]), if_pos rfl, fmul_one]
  have h1 := h.right (fun k => if k = j then 1 else 0) i hi
  have h2 := h.left (fun k => if k = j then 1 else 0) i hi
  rw [sumX_congr (g := fun k => fmul (M i k) (B k j)) (fun k _ => by rw [one B k])] at h1
  rw [sumX_congr (g := fun k => fmul (B i k) (M k j)) (fun k _ => by rw [one M k])] at h2
  exact ⟨h1, h2⟩
/-- What nothing but 0 is taken to 0 by, is undone. -/
theorem full_run (l : List UInt8) (n : Nat) (h : ∀ v : Nat → UInt8, (∀ i, i < n → app n (elF l n) v i = 0) → ∀ i, i < n → v i = 0) : ¬ (clr n (n + n) (wideM l n (n + n)) n).2 < n := by
  rw [clr_run]
  have e := (run_wide nzI picks_nz l n).1.steps.2.2
  rw [cnt_full] at e
  · omega
  · rintro c hc ⟨v, h1, h2, h3⟩
    have k1 : Ker n (n + n) (wideF n (elF l n)) v := (Ker.congr (fun i j hi hj => wide_fe l n i j hi hj) v).1 h3
    have k2 := (wide_ker v (fun j hj => h2 j (by omega))).1 k1
    have := h v (fun i hi => k2 i hi) c hc
    rw [h1] at this
    exact absurd this (by decide)
theorem Undo.full {l : List UInt8} {n : Nat} {B : Nat → Nat → UInt8} (h : Undo n (elF l n) B) : ¬ (clr n (n + n) (wideM l n (n + n)) n).2 < n :=
  full_run l n fun v hv i hi => by
    rw [← h.app_left v i hi]
    exact sumX_none n _ fun j hj => by rw [hv j hj, fmul_zero]
theorem rowsL_fe (l : List UInt8) (n i j : Nat) (hl : l.length = n * n) (hi : i < n) (hj : j < n) : fe (rowsL l n n) i j = elF l n i j := by
  have hM := (rowsL_mat l n n hl).1
  rw [← mat_at hM hi hj, (rowsL_mat l n n hl).2, elF]
/-- The rank is the number of the rows just if the matrix is undone. -/
theorem rank_wide (l : List UInt8) (n : Nat) (hl : l.length = n * n) : (clr n n (rowsL l n n) n).2 = (clr n (n + n) (wideM l n (n + n)) n).2 := by
  rw [clr_run, clr_run]
  refine ((runG_mat picks_nz (rowsL_mat l n n hl).1 n (Nat.le_refl _)).2.2).same (run_wide nzI picks_nz l n).1 fun v hv => ?_
  exact (Ker.congr (fun i j hi hj => rowsL_fe l n i j hl hi hj) v).trans ((wide_ker v hv).symm.trans (Ker.congr (fun i j hi hj => wide_fe l n i j hi hj) v).symm)
theorem el_fill (n : Nat) (f : Nat → Nat → UInt8) (i j : Nat) (hi : i < n) (hj : j < n) : elF (fillL n n f) n i j = f i j := fillL_get n n f i j hi hj
theorem mulE_el (la lb : List UInt8) (n i j : Nat) : mulE la n lb n i j = mulM n (elF la n) (elF lb n) i j := rfl
/-- What the program's inverse tells of a matrix that may be. -/
theorem invT_cases (l : List UInt8) (n : Nat) (hl : l.length = n * n) :
    (invT (clr n (n + n) (wideM l n (n + n)) n) n = (0, 0, [], 5) ∧ (clr n n (rowsL l n n) n).2 ≠ n) ∨
    (∃ B, invT (clr n (n + n) (wideM l n (n + n)) n) n = ((n : Int), (n : Int), fillL n n B, (0 : Int)) ∧ Undo n (elF l n) B ∧ (clr n n (rowsL l n n) n).2 = n) := by
  rw [rank_wide l n hl]
  have h2 := (run_wide nzI picks_nz l n).2
  rw [← clr_run] at h2
  by_cases h : (clr n (n + n) (wideM l n (n + n)) n).2 < n
  · left
    rw [invT, if_pos h]
    exact ⟨rfl, by omega⟩
  · right
    refine ⟨fun i j => fe (clr n (n + n) (wideM l n (n + n)) n).1 i (n + j), by rw [invT, if_neg h], ?_, by omega⟩
    rw [clr_run] at h ⊢
    exact run_undo picks_nz l n h
end Go.Proofs.Ytfnneneaalaagaa

namespace Go.Proofs.Ytfnneneaalaagaa
set_option maxRecDepth 100000
open Go.RowKit
set_option linter.unusedSimpArgs false
set_option linter.unusedVariables false

set_option maxHeartbeats 1600000 in
set_option maxRecDepth 100000 in
theorem rApply_of (r c : Int) (n : Nat) (A A2 : Option Addr) (cp n2 cp2 : Nat) (w : World) (r' c' : Int) (l' : List UInt8) (E : Int)
    (hM : ∀ W, Below w.heap.size w W → Calls Try.prog 34 #[.agg (rxT.enc (r, c, A, n, cp)).toArray, .agg (rxT.enc ((n2 : Int), 1, A2, n2, cp2)).toArray] W fun e w' => GivesP rxT W r' c' l' E e w') :
    Calls Try.prog 36 #[.agg (rxT.enc (r, c, A, n, cp)).toArray, .slice A2 n2 cp2] w fun e w' => GivesV w l' E e w' := by
  have H := SH.start Nil w
  have cM : ∀ W, Below w.heap.size w W → Calls Try.prog 34 #[.agg (rxT.enc (r, c, A, n, cp)).toArray, .agg #[.int .i64 (n2 : Int), .int .i64 1, .slice A2 n2 cp2]] W fun e w' => GivesP rxT W r' c' l' E e w' := hM
  clear hM
  go_enter Try.func36, Try.ntmps36
  go_wp2_with (first
    | ((with_reducible refine gDst 2 ?_); refine aBox H _ rfl rfl rfl ?_; clear H; intro b2 w2 H)
    | ((with_reducible refine gDst 6 ?_); refine aAlloc H rfl rfl ?_; clear H; intro b6 w6 H)
    | ((with_reducible refine gLoad ?_); first | (refine aLoad1 H _ rfl rfl (by first | exact (rfl : _ = some (Value.int _ _)) | exact (rfl : _ = some (Value.slice _ _ _)) | exact (rfl : _ = some (Value.bool _)) | exact (rfl : _ = some (Value.string _)) | exact (rfl : _ = some (Value.pointer _)) | rfl | (simp [List.getElem?_append]; done)) rfl ?_) | (refine aLoadC _ rfl rfl (by assumption) rfl ?_) | (refine aLoad H _ rfl rfl (by first | exact part_all (by first | rfl | simp []) | (simp only [List.drop_succ_cons, List.drop_zero, List.take_succ_cons, List.take_zero]; rfl) | (simp [List.drop_append, List.take_append]; rfl)) (by first | rfl | simp []) rfl ?_))
    | ((with_reducible refine gStore ?_); (first | (refine aStore H _ _ rfl rfl rfl (by (first | exact ⟨rfl, rfl⟩ | exact ⟨by decide, rfl⟩ | (simp []; done) | (constructor <;> simp [] <;> omega))) (by first | rfl | simp [List.all_append, one_all]) rfl ?_) | (refine aLay H _ _ rfl rfl rfl (by (first | exact ⟨rfl, rfl⟩ | exact ⟨by decide, rfl⟩ | (simp []; done) | (constructor <;> simp [] <;> omega))) (by first | rfl | simp [List.all_append, one_all]) (by simp only [lay, List.take_succ_cons, List.take_zero, List.drop_succ_cons, List.drop_zero, List.nil_append, List.cons_append, List.length_cons, List.length_nil, Nat.zero_add, Nat.reduceAdd]; rfl) rfl ?_)); clear H; intro w' H; try dsimp only at H)
    | (go_at_call 34; (with_reducible refine (cM _ H.below).mono ?_); rintro e w' ⟨A5, cp5, rfl, ho, hb⟩; replace H := H.pushRow hb ho; clear hb ho))
  go_ret2
  exact ⟨A5, cp5, rfl, H.ow _, H.below⟩
/-- Both products tell the same. -/
theorem Mul_pair (la lb : List UInt8) (ra ca rb cb : Int) (Aa Ab : Option Addr) (pa pb : Nat) (hpa : la.length ≤ pa) (hpb : lb.length ≤ pb) : ∃ r c l E,
    (∀ w, RB w (.slice Aa la.length pa) la → RB w (.slice Ab lb.length pb) lb → Calls Try.prog 33 #[.agg (mxT.enc (ra, ca, Aa, la.length, pa)).toArray, .agg (mxT.enc (rb, cb, Ab, lb.length, pb)).toArray] w fun e w' => GivesP mxT w r c l E e w') ∧
    (∀ w, RB w (.slice Aa la.length pa) la → RB w (.slice Ab lb.length pb) lb → Calls Try.prog 34 #[.agg (rxT.enc (ra, ca, Aa, la.length, pa)).toArray, .agg (rxT.enc (rb, cb, Ab, lb.length, pb)).toArray] w fun e w' => GivesP rxT w r c l E e w') := by
  by_cases hbad : mulBad ra ca la.length rb cb lb.length
  · exact ⟨0, 0, [], 1, fun w _ _ => Mul_bad _ _ _ _ _ _ _ _ _ _ w hbad, fun w _ _ => rMul_bad _ _ _ _ _ _ _ _ _ _ w hbad⟩
  · unfold mulBad at hbad
    cases h1 : mayB ra ca la.length with
    | false => exact absurd (Or.inl h1) hbad
    | true =>
      cases h2 : mayB rb cb lb.length with
      | false => exact absurd (Or.inr (Or.inl ⟨h1, h2⟩)) hbad
      | true =>
        cases h3 : (ca == rb) with
        | false => exact absurd (Or.inr (Or.inr ⟨h1, h2, h3⟩)) hbad
        | true =>
          obtain rfl := beq_iff_eq.1 h3
          obtain ⟨a, b, rfl, rfl, _⟩ := mayB_ok h1
          obtain ⟨a', b', e1, rfl, _⟩ := mayB_ok h2
          exact ⟨a, b', _, 0, fun w ha hb => Mul_ok la lb a b b' Aa Ab pa pb w ha hb h1 h2 hpa hpb, fun w ha hb => rMul_ok la lb a b b' Aa Ab pa pb w ha hb h1 h2⟩
theorem Apply_pair (la lb : List UInt8) (ra ca : Int) (Aa Ab : Option Addr) (pa pb : Nat) (hpa : la.length ≤ pa) (hpb : lb.length ≤ pb) : ∃ l E,
    (∀ w, RB w (.slice Aa la.length pa) la → RB w (.slice Ab lb.length pb) lb → Calls Try.prog 35 #[.agg (mxT.enc (ra, ca, Aa, la.length, pa)).toArray, .slice Ab lb.length pb] w fun e w' => GivesV w l E e w') ∧
    (∀ w, RB w (.slice Aa la.length pa) la → RB w (.slice Ab lb.length pb) lb → Calls Try.prog 36 #[.agg (rxT.enc (ra, ca, Aa, la.length, pa)).toArray, .slice Ab lb.length pb] w fun e w' => GivesV w l E e w') := by
  obtain ⟨r, c, l, E, h1, h2⟩ := Mul_pair la lb ra ca lb.length 1 Aa Ab pa pb hpa hpb
  exact ⟨l, E, fun w ha hb => Apply_of _ _ _ _ _ _ _ _ _ r c l E fun W h => h1 W (ha.below h) (hb.below h), fun w ha hb => rApply_of _ _ _ _ _ _ _ _ _ r c l E fun W h => h2 W (ha.below h) (hb.below h)⟩
end Go.Proofs.Ytfnneneaalaagaa

namespace Go.Proofs.Ytfnneneaalaagaa
set_option maxRecDepth 100000
open Go.RowKit
set_option linter.unusedSimpArgs false
set_option linter.unusedVariables false

theorem mayB_sq {n : Nat} (h1 : 1 ≤ n) (h2 : n ≤ 32) : mayB (n : Int) (n : Int) (n * n) = true := by
  have hs : sizeB (n : Int) = true := (sizeB_iff _).2 (by omega)
  rw [mayB, if_pos hs, if_pos hs]
  exact beq_iff_eq.2 (by push_cast; rfl)
theorem Inverse_told (lb : List UInt8) (rb cb : Int) (Ab : Option Addr) (pb : Nat) (hpb : lb.length ≤ pb) : ∃ x : Told26,
    (∀ w, RB w (.slice Ab lb.length pb) lb → Calls Try.prog 29 #[.agg (mxT.enc (rb, cb, Ab, lb.length, pb)).toArray] w (Gives26 mxT w x)) ∧
    ((x.2.2.2 = 1 ∨ x.2.2.2 = 5) ∨ ∃ (n : Nat) (B : Nat → Nat → UInt8), rb = n ∧ cb = n ∧ 1 ≤ n ∧ n ≤ 32 ∧ lb.length = n * n ∧ x = ((n : Int), (n : Int), fillL n n B, (0 : Int)) ∧ Undo n (elF lb n) B) := by
  cases hm : mayB rb cb lb.length with
  | false => exact ⟨(0, 0, [], 1), fun w _ => Inverse_bad rb cb _ Ab pb w (.inl hm), .inl (.inl rfl)⟩
  | true =>
    cases hrc : (rb == cb) with
    | false => exact ⟨(0, 0, [], 1), fun w _ => Inverse_bad rb cb _ Ab pb w (.inr ⟨hm, hrc⟩), .inl (.inl rfl)⟩
    | true =>
      obtain rfl := beq_iff_eq.1 hrc
      obtain ⟨n, n', rfl, e, h1, h2, _, _, hl⟩ := mayB_ok hm
      obtain rfl : n = n' := by omega
      refine ⟨_, fun w h => Inverse_ok lb n Ab pb w h hpb hm, ?_⟩
      rcases invT_cases lb n hl with ⟨h3, _⟩ | ⟨B, h3, h4, _⟩
      · rw [h3]; exact .inl (.inr rfl)
      · rw [h3]; exact .inr ⟨n, B, rfl, rfl, h1, h2, hl, rfl, h4⟩
set_option maxHeartbeats 3200000 in
set_option maxRecDepth 100000 in
theorem Undone_early (r c r2 c2 : Int) (la lb : List UInt8) (Aa Ab : Option Addr) (pa pb : Nat) (w : World) (ha : RB w (.slice Aa la.length pa) la) (hb : RB w (.slice Ab lb.length pb) lb)
    (h : smallB r c la.length = false ∨ (smallB r c la.length = true ∧ smallB r2 c2 lb.length = false) ∨ (smallB r c la.length = true ∧ smallB r2 c2 lb.length = true ∧ mayB r c la.length = false) ∨ (smallB r c la.length = true ∧ smallB r2 c2 lb.length = true ∧ mayB r c la.length = true ∧ (r == c) = false)) :
    Calls Try.prog 11 #[.agg (mxT.enc (r, c, Aa, la.length, pa)).toArray, .agg (mxT.enc (r2, c2, Ab, lb.length, pb)).toArray] w fun e w' => e = .returned (.bool true) ∧ Below w.heap.size w w' := by
  have H := SH.start Nil w
  have RO := HOLD.rdCons ha (HOLD.rdOne hb)
  have cS : ∀ W, Calls Try.prog 19 #[.agg (mxT.enc (r, c, Aa, la.length, pa)).toArray] W fun e w' => e = .returned (.bool (smallB r c la.length)) ∧ Below W.heap.size W w' := fun W => small_any r c Aa la.length pa W
  have cS2 : ∀ W, Calls Try.prog 19 #[.agg (mxT.enc (r2, c2, Ab, lb.length, pb)).toArray] W fun e w' => e = .returned (.bool (smallB r2 c2 lb.length)) ∧ Below W.heap.size W w' := fun W => small_any r2 c2 Ab lb.length pb W
  have cL : ∀ W, Calls Try.prog 20 #[] W fun e w' => e = .returned (.bool true) ∧ Below W.heap.size W w' := alive26_any
  have cM : ∀ W, Calls Try.prog 37 #[.agg (mxT.enc (r, c, Aa, la.length, pa)).toArray] W fun e w' => e = .returned (.bool (mayB r c la.length)) ∧ Below W.heap.size W w' := fun W => MMay_any _ _ _ _ _ W
  clear ha hb
  rcases h with h1 | ⟨h1, h2⟩ | ⟨h1, h2, h3⟩ | ⟨h1, h2, h3, h4⟩
  all_goals
    rw [h1] at cS
    try rw [h2] at cS2
    try rw [h3] at cM
    clear h1
    try clear h2
    try clear h3
    go_enter Try.func11, Try.ntmps11
    go_wp2_with (first
      | ((with_reducible refine gDst 2 ?_); refine aBox H _ rfl rfl rfl ?_; clear H; intro b2 w2 H)
      | ((with_reducible refine gDst 3 ?_); refine aBox H _ rfl rfl rfl ?_; clear H; intro b3 w3 H)
      | ((with_reducible refine gDst 5 ?_); refine aAlloc H rfl rfl ?_; clear H; intro b5 w5 H)
      | ((with_reducible refine gDst 7 ?_); refine aAlloc H rfl rfl ?_; clear H; intro b7 w7 H)
      | ((with_reducible refine gDst 9 ?_); refine aAlloc H rfl rfl ?_; clear H; intro b9 w9 H)
      | ((with_reducible refine gDst 11 ?_); refine aAlloc H rfl rfl ?_; clear H; intro b11 w11 H)
      | ((with_reducible refine gDst 13 ?_); refine aAlloc H rfl rfl ?_; clear H; intro b13 w13 H)
      | ((with_reducible refine gDst 15 ?_); refine aAlloc H rfl rfl ?_; clear H; intro b15 w15 H)
      | ((with_reducible refine gDst 17 ?_); refine aAlloc H rfl rfl ?_; clear H; intro b17 w17 H)
      | ((with_reducible refine gDst 19 ?_); refine aAlloc H rfl rfl ?_; clear H; intro b19 w19 H)
      | ((with_reducible refine gLoad ?_); first | (refine aLoad1 H _ rfl rfl (by first | exact (rfl : _ = some (Value.int _ _)) | exact (rfl : _ = some (Value.slice _ _ _)) | exact (rfl : _ = some (Value.bool _)) | exact (rfl : _ = some (Value.string _)) | exact (rfl : _ = some (Value.pointer _)) | rfl | (simp [List.getElem?_append]; done)) rfl ?_) | (refine aLoadR1 RO H _ rfl rfl (by first | exact (rfl : _ = some (Value.int _ _)) | exact (rfl : _ = some (Value.slice _ _ _)) | exact (rfl : _ = some (Value.bool _)) | exact (rfl : _ = some (Value.string _)) | exact (rfl : _ = some (Value.pointer _)) | rfl | (simp [List.getElem?_append]; done)) rfl ?_) | (refine aLoadC _ rfl rfl (by assumption) rfl ?_) | (refine aLoad H _ rfl rfl (by first | exact part_all (by first | rfl | simp []) | (simp only [List.drop_succ_cons, List.drop_zero, List.take_succ_cons, List.take_zero]; rfl) | (simp [List.drop_append, List.take_append]; rfl)) (by first | rfl | simp []) rfl ?_) | (refine aLoadR RO H _ rfl rfl (by first | exact part_all (by first | rfl | simp []) | (simp only [List.drop_succ_cons, List.drop_zero, List.take_succ_cons, List.take_zero]; rfl) | (simp [List.drop_append, List.take_append]; rfl)) (by first | rfl | simp []) rfl ?_))
      | ((with_reducible refine gStore ?_); (first | (refine aStore H _ _ rfl rfl rfl (by (first | exact ⟨rfl, rfl⟩ | exact ⟨by decide, rfl⟩ | (simp []; done) | (constructor <;> simp [] <;> omega))) (by first | rfl | simp [List.all_append, one_all]) rfl ?_) | (refine aLay H _ _ rfl rfl rfl (by (first | exact ⟨rfl, rfl⟩ | exact ⟨by decide, rfl⟩ | (simp []; done) | (constructor <;> simp [] <;> omega))) (by first | rfl | simp [List.all_append, one_all]) (by simp only [lay, List.take_succ_cons, List.take_zero, List.drop_succ_cons, List.drop_zero, List.nil_append, List.cons_append, List.length_cons, List.length_nil, Nat.zero_add, Nat.reduceAdd]; rfl) rfl ?_)); clear H; intro w' H; try dsimp only at H)
      | (go_at_call 19; (with_reducible refine (cS _).mono ?_); rintro e w' ⟨rfl, hb⟩; replace H := H.step hb; clear hb)
      | (go_at_call 19; (with_reducible refine (cS2 _).mono ?_); rintro e w' ⟨rfl, hb⟩; replace H := H.step hb; clear hb)
      | (go_at_call 37; (with_reducible refine (cM _).mono ?_); rintro e w' ⟨rfl, hb⟩; replace H := H.step hb; clear hb)
      | (go_at_call 20; (with_reducible refine (cL _).mono ?_); rintro e w' ⟨rfl, hb⟩; replace H := H.step hb; clear hb))
    go_ret
    exact ⟨rfl, H.below⟩
set_option maxHeartbeats 3200000 in
set_option maxRecDepth 100000 in
theorem Undone_none (n : Nat) (r2 c2 : Int) (la lb : List UInt8) (Aa Ab : Option Addr) (pa pb : Nat) (w : World) (ha : RB w (.slice Aa la.length pa) la) (hb : RB w (.slice Ab lb.length pb) lb) (hpa : la.length ≤ pa)
    (hs1 : smallB n n la.length = true) (hs2 : smallB r2 c2 lb.length = true) (hm : mayB n n la.length = true) (hx : invT (clr n (n + n) (wideM la n (n + n)) n) n = (0, 0, [], 5)) (hk : (clr n n (rowsL la n n) n).2 ≠ n) :
    Calls Try.prog 11 #[.agg (mxT.enc ((n : Int), (n : Int), Aa, la.length, pa)).toArray, .agg (mxT.enc (r2, c2, Ab, lb.length, pb)).toArray] w fun e w' => e = .returned (.bool true) ∧ Below w.heap.size w w' := by
  have H := SH.start Nil w
  have RO := HOLD.rdCons ha (HOLD.rdOne hb)
  have cS : ∀ W, Calls Try.prog 19 #[.agg (mxT.enc ((n : Int), (n : Int), Aa, la.length, pa)).toArray] W fun e w' => e = .returned (.bool true) ∧ Below W.heap.size W w' := fun W => by rw [← hs1]; exact small_any n n Aa la.length pa W
  have cS2 : ∀ W, Calls Try.prog 19 #[.agg (mxT.enc (r2, c2, Ab, lb.length, pb)).toArray] W fun e w' => e = .returned (.bool true) ∧ Below W.heap.size W w' := fun W => by rw [← hs2]; exact small_any r2 c2 Ab lb.length pb W
  have cL : ∀ W, Calls Try.prog 20 #[] W fun e w' => e = .returned (.bool true) ∧ Below W.heap.size W w' := alive26_any
  have cM : ∀ W, Calls Try.prog 37 #[.agg (mxT.enc ((n : Int), (n : Int), Aa, la.length, pa)).toArray] W fun e w' => e = .returned (.bool true) ∧ Below W.heap.size W w' := fun W => by rw [← hm]; exact MMay_any _ _ _ _ _ W
  obtain ⟨x1, x2, e1, e2, hn1, hn2, -, -, hl⟩ := mayB_ok hm
  rw [show x1 = n by omega, show x2 = n by omega] at hl
  rw [show x1 = n by omega] at hn1 hn2
  have cU := fun W => Unit_ok n W hn1 hn2
  have cK := fun (W : World) (hB : Below w.heap.size w W) => Rank_any (n : Int) (n : Int) Aa pa la W (ha.below hB) (by rw [hl]; have := Nat.mul_le_mul hn2 hn2; omega)
  rw [show rankI n n la = (clr n n (rowsL la n n) n).2 from by rw [rankI, hm]; rfl] at cK
  have cI := fun (W : World) (hB : Below w.heap.size w W) => Inverse_ok la n Aa pa W (ha.below hB) hpa hm
  have hnn : ((n : Int) != (n : Int)) = false := by simp
  have hni : (n : Int) ≤ 32 := by omega
  rw [hx] at cI
  have hkb : (((clr n n (rowsL la n n) n).2 : Int) == (n : Int)) = false := beq_eq_false_iff_ne.mpr (by omega)
  generalize ((clr n n (rowsL la n n) n).2 : Int) = q at *
  clear ha hb hx hk hl hm hs1 hs2 hpa e1 e2
  go_enter Try.func11, Try.ntmps11
  go_wp2_with (first
    | ((with_reducible refine gDst 2 ?_); refine aBox H _ rfl rfl rfl ?_; clear H; intro b2 w2 H)
    | ((with_reducible refine gDst 3 ?_); refine aBox H _ rfl rfl rfl ?_; clear H; intro b3 w3 H)
    | ((with_reducible refine gDst 5 ?_); refine aAlloc H rfl rfl ?_; clear H; intro b5 w5 H)
    | ((with_reducible refine gDst 7 ?_); refine aAlloc H rfl rfl ?_; clear H; intro b7 w7 H)
    | ((with_reducible refine gDst 9 ?_); refine aAlloc H rfl rfl ?_; clear H; intro b9 w9 H)
    | ((with_reducible refine gDst 11 ?_); refine aAlloc H rfl rfl ?_; clear H; intro b11 w11 H)
    | ((with_reducible refine gDst 13 ?_); refine aAlloc H rfl rfl ?_; clear H; intro b13 w13 H)
    | ((with_reducible refine gDst 15 ?_); refine aAlloc H rfl rfl ?_; clear H; intro b15 w15 H)
    | ((with_reducible refine gDst 17 ?_); refine aAlloc H rfl rfl ?_; clear H; intro b17 w17 H)
    | ((with_reducible refine gDst 19 ?_); refine aAlloc H rfl rfl ?_; clear H; intro b19 w19 H)
    | ((with_reducible refine gLoad ?_); first | (refine aLoad1 H _ rfl rfl (by first | exact (rfl : _ = some (Value.int _ _)) | exact (rfl : _ = some (Value.slice _ _ _)) | exact (rfl : _ = some (Value.bool _)) | exact (rfl : _ = some (Value.string _)) | exact (rfl : _ = some (Value.pointer _)) | rfl | (simp [List.getElem?_append]; done)) rfl ?_) | (refine aLoadR1 RO H _ rfl rfl (by first | exact (rfl : _ = some (Value.int _ _)) | exact (rfl : _ = some (Value.slice _ _ _)) | exact (rfl : _ = some (Value.bool _)) | exact (rfl : _ = some (Value.string _)) | exact (rfl : _ = some (Value.pointer _)) | rfl | (simp [List.getElem?_append]; done)) rfl ?_) | (refine aLoadC _ rfl rfl (by assumption) rfl ?_) | (refine aLoad H _ rfl rfl (by first | exact part_all (by first | rfl | simp []) | (simp only [List.drop_succ_cons, List.drop_zero, List.take_succ_cons, List.take_zero]; rfl) | (simp [List.drop_append, List.take_append]; rfl)) (by first | rfl | simp []) rfl ?_) | (refine aLoadR RO H _ rfl rfl (by first | exact part_all (by first | rfl | simp []) | (simp only [List.drop_succ_cons, List.drop_zero, List.take_succ_cons, List.take_zero]; rfl) | (simp [List.drop_append, List.take_append]; rfl)) (by first | rfl | simp []) rfl ?_))
    | ((with_reducible refine gStore ?_); (first | (refine aStore H _ _ rfl rfl rfl (by (first | exact ⟨rfl, rfl⟩ | exact ⟨by decide, rfl⟩ | (simp []; done) | (constructor <;> simp [] <;> omega))) (by first | rfl | simp [List.all_append, one_all]) rfl ?_) | (refine aLay H _ _ rfl rfl rfl (by (first | exact ⟨rfl, rfl⟩ | exact ⟨by decide, rfl⟩ | (simp []; done) | (constructor <;> simp [] <;> omega))) (by first | rfl | simp [List.all_append, one_all]) (by simp only [lay, List.take_succ_cons, List.take_zero, List.drop_succ_cons, List.drop_zero, List.nil_append, List.cons_append, List.length_cons, List.length_nil, Nat.zero_add, Nat.reduceAdd]; rfl) rfl ?_)); clear H; intro w' H; try dsimp only at H)
    | (go_at_call 19; (with_reducible refine (cS _).mono ?_); rintro e w' ⟨rfl, hb⟩; replace H := H.step hb; clear hb)
    | (go_at_call 19; (with_reducible refine (cS2 _).mono ?_); rintro e w' ⟨rfl, hb⟩; replace H := H.step hb; clear hb)
    | (go_at_call 37; (with_reducible refine (cM _).mono ?_); rintro e w' ⟨rfl, hb⟩; replace H := H.step hb; clear hb)
    | (go_at_call 24; (with_reducible refine (cU _).mono ?_); rintro e w' ⟨Au, uc, rfl, ho, hb⟩; replace H := H.pushRow hb ho; clear hb ho)
    | (go_at_call 29; (with_reducible refine (cI _ H.below).mono ?_); rintro e w' ⟨Ax, px, rfl, ho, hb⟩; replace H := H.pushRow hb ho; clear hb ho))
  refine startA (fun i => false) (by kernel_rfl) (fun wS hS => ?_)
  replace H := H.drew
  rw [← hS] at H
  have HH := H.hold
  have HR := H.old RO
  have HS0 : Below wS.heap.size wS wS := Below.refl _ _
  clear hS
  refine takeP 0 rfl (by kernel_rfl) (by kernel_rfl) (by kernel_rfl) (by kernel_rfl) (fun _ _ _ h => h) rfl (v := ?_) ?_ ?_
  rotate_left
  · intro w'; go_simp; (try with_reducible rfl)
  (try simp only [Act.put, List.setIfInBounds_toArray, List.set_cons_zero, List.set_cons_succ])
  refine takeP 1 rfl (by kernel_rfl) (by kernel_rfl) (by kernel_rfl) (by kernel_rfl) (fun _ _ _ h => h) rfl (v := ?_) ?_ ?_
  rotate_left
  · intro w'; go_simp; (try with_reducible rfl)
  (try simp only [Act.put, List.setIfInBounds_toArray, List.set_cons_zero, List.set_cons_succ])
  refine takeL 2 HS0 rfl (by kernel_rfl) (by kernel_rfl) (by kernel_rfl) (by kernel_rfl) (by kernel_rfl) (fun _ _ _ h => h) rfl (v := ?_) ?_ ?_
  rotate_left
  · intro w' hw'; first | (refine Eq.trans (xLoad (HR.below hw') _ rfl rfl (by first | exact part_all (by first | rfl | simp []) | (simp only [List.drop_succ_cons, List.drop_zero, List.take_succ_cons, List.take_zero]; rfl) | (simp [List.drop_append, List.take_append]; rfl)) (by first | rfl | simp [])) ?_; with_reducible rfl) | (refine Eq.trans (xLoad (HH.below hw') _ rfl rfl (by first | exact part_all (by first | rfl | simp []) | (simp only [List.drop_succ_cons, List.drop_zero, List.take_succ_cons, List.take_zero]; rfl) | (simp [List.drop_append, List.take_append]; rfl)) (by first | rfl | simp [])) ?_; with_reducible rfl)
  (try simp only [Act.put, List.setIfInBounds_toArray, List.set_cons_zero, List.set_cons_succ])
  refine takeP 4 rfl (by kernel_rfl) (by kernel_rfl) (by kernel_rfl) (by kernel_rfl) (fun _ _ _ h => h) rfl (v := ?_) ?_ ?_
  rotate_left
  · intro w'; go_simp; (try with_reducible rfl)
  (try simp only [Act.put, List.setIfInBounds_toArray, List.set_cons_zero, List.set_cons_succ])
  refine takeL 5 HS0 rfl (by kernel_rfl) (by kernel_rfl) (by kernel_rfl) (by kernel_rfl) (by kernel_rfl) (fun _ _ _ h => h) rfl (v := ?_) ?_ ?_
  rotate_left
  · intro w' hw'; first | (refine Eq.trans (xLoad1 (HR.below hw') _ rfl rfl (by first | exact (rfl : _ = some (Value.int _ _)) | exact (rfl : _ = some (Value.slice _ _ _)) | exact (rfl : _ = some (Value.bool _)) | exact (rfl : _ = some (Value.string _)) | exact (rfl : _ = some (Value.pointer _)) | rfl | (simp [List.getElem?_append]; done))) ?_; with_reducible rfl) | (refine Eq.trans (xLoad1 (HH.below hw') _ rfl rfl (by first | exact (rfl : _ = some (Value.int _ _)) | exact (rfl : _ = some (Value.slice _ _ _)) | exact (rfl : _ = some (Value.bool _)) | exact (rfl : _ = some (Value.string _)) | exact (rfl : _ = some (Value.pointer _)) | rfl | (simp [List.getElem?_append]; done))) ?_; with_reducible rfl) | (refine Eq.trans (xLoadC _ rfl rfl (cell_below hw' (by assumption))) ?_; with_reducible rfl)
  (try simp only [Act.put, List.setIfInBounds_toArray, List.set_cons_zero, List.set_cons_succ])
  refine stepL 3 rfl (by kernel_rfl) rfl (fun K hK => ?_)
  (go_simp; (with_reducible refine (cK _ H.below).mono ?_); rintro e w' ⟨rfl, hb⟩; replace H := H.step hb; replace HS0 := below_two HS0 HS0.size hb; clear hb; refine hK.out _ _ (fun _ _ => HS0) ?_; clear K hK)
  (try simp only [Act.put, List.setIfInBounds_toArray, List.set_cons_zero, List.set_cons_succ])
  refine takeP 6 rfl (by kernel_rfl) (by kernel_rfl) (by kernel_rfl) (by kernel_rfl) (fun _ _ _ h => h) rfl (v := ?_) ?_ ?_
  rotate_left
  · intro w'; go_simp; (try with_reducible rfl)
  (try simp only [Act.put, List.setIfInBounds_toArray, List.set_cons_zero, List.set_cons_succ])
  refine takeP 7 rfl (by kernel_rfl) (by kernel_rfl) (by kernel_rfl) (by kernel_rfl) (fun _ _ _ h => h) rfl (v := ?_) ?_ ?_
  rotate_left
  · intro w'; go_simp; (try with_reducible rfl)
  (try simp only [Act.put, List.setIfInBounds_toArray, List.set_cons_zero, List.set_cons_succ])
  refine doneL (by kernel_rfl) ?_
  go_wp2_with (first
    | ((with_reducible refine gDst 2 ?_); refine aBox H _ rfl rfl rfl ?_; clear H; intro b2 w2 H)
    | ((with_reducible refine gDst 3 ?_); refine aBox H _ rfl rfl rfl ?_; clear H; intro b3 w3 H)
    | ((with_reducible refine gDst 5 ?_); refine aAlloc H rfl rfl ?_; clear H; intro b5 w5 H)
    | ((with_reducible refine gDst 7 ?_); refine aAlloc H rfl rfl ?_; clear H; intro b7 w7 H)
    | ((with_reducible refine gDst 9 ?_); refine aAlloc H rfl rfl ?_; clear H; intro b9 w9 H)
    | ((with_reducible refine gDst 11 ?_); refine aAlloc H rfl rfl ?_; clear H; intro b11 w11 H)
    | ((with_reducible refine gDst 13 ?_); refine aAlloc H rfl rfl ?_; clear H; intro b13 w13 H)
    | ((with_reducible refine gDst 15 ?_); refine aAlloc H rfl rfl ?_; clear H; intro b15 w15 H)
    | ((with_reducible refine gDst 17 ?_); refine aAlloc H rfl rfl ?_; clear H; intro b17 w17 H)
    | ((with_reducible refine gDst 19 ?_); refine aAlloc H rfl rfl ?_; clear H; intro b19 w19 H)
    | ((with_reducible refine gLoad ?_); first | (refine aLoad1 H _ rfl rfl (by first | exact (rfl : _ = some (Value.int _ _)) | exact (rfl : _ = some (Value.slice _ _ _)) | exact (rfl : _ = some (Value.bool _)) | exact (rfl : _ = some (Value.string _)) | exact (rfl : _ = some (Value.pointer _)) | rfl | (simp [List.getElem?_append]; done)) rfl ?_) | (refine aLoadR1 RO H _ rfl rfl (by first | exact (rfl : _ = some (Value.int _ _)) | exact (rfl : _ = some (Value.slice _ _ _)) | exact (rfl : _ = some (Value.bool _)) | exact (rfl : _ = some (Value.string _)) | exact (rfl : _ = some (Value.pointer _)) | rfl | (simp [List.getElem?_append]; done)) rfl ?_) | (refine aLoadC _ rfl rfl (by assumption) rfl ?_) | (refine aLoad H _ rfl rfl (by first | exact part_all (by first | rfl | simp []) | (simp only [List.drop_succ_cons, List.drop_zero, List.take_succ_cons, List.take_zero]; rfl) | (simp [List.drop_append, List.take_append]; rfl)) (by first | rfl | simp []) rfl ?_) | (refine aLoadR RO H _ rfl rfl (by first | exact part_all (by first | rfl | simp []) | (simp only [List.drop_succ_cons, List.drop_zero, List.take_succ_cons, List.take_zero]; rfl) | (simp [List.drop_append, List.take_append]; rfl)) (by first | rfl | simp []) rfl ?_))
    | ((with_reducible refine gStore ?_); (first | (refine aStore H _ _ rfl rfl rfl (by (first | exact ⟨rfl, rfl⟩ | exact ⟨by decide, rfl⟩ | (simp []; done) | (constructor <;> simp [] <;> omega))) (by first | rfl | simp [List.all_append, one_all]) rfl ?_) | (refine aLay H _ _ rfl rfl rfl (by (first | exact ⟨rfl, rfl⟩ | exact ⟨by decide, rfl⟩ | (simp []; done) | (constructor <;> simp [] <;> omega))) (by first | rfl | simp [List.all_append, one_all]) (by simp only [lay, List.take_succ_cons, List.take_zero, List.drop_succ_cons, List.drop_zero, List.nil_append, List.cons_append, List.length_cons, List.length_nil, Nat.zero_add, Nat.reduceAdd]; rfl) rfl ?_)); clear H; intro w' H; try dsimp only at H)
    | (go_at_call 20; (with_reducible refine (cL _).mono ?_); rintro e w' ⟨rfl, hb⟩; replace H := H.step hb; clear hb))
  go_ret
  exact ⟨rfl, H.below⟩
end Go.Proofs.Ytfnneneaalaagaa

namespace Go.Proofs.Ytfnneneaalaagaa
set_option maxRecDepth 100000
open Go.RowKit
set_option linter.unusedSimpArgs false
set_option linter.unusedVariables false

set_option maxHeartbeats 6400000 in
set_option maxRecDepth 100000 in
theorem Undone_other (n : Nat) (r2 c2 : Int) (B : Nat → Nat → UInt8) (tb : Told26) (la lb : List UInt8) (Aa Ab : Option Addr) (pa pb : Nat) (w : World) (ha : RB w (.slice Aa la.length pa) la) (hb : RB w (.slice Ab lb.length pb) lb) (hpa : la.length ≤ pa)
    (hs1 : smallB n n la.length = true) (hs2 : smallB r2 c2 lb.length = true) (hm : mayB n n la.length = true) (hx : invT (clr n (n + n) (wideM la n (n + n)) n) n = ((n : Int), (n : Int), fillL n n B, (0 : Int))) (hu : Undo n (elF la n) B) (hk : (clr n n (rowsL la n n) n).2 = n)
    (hb2 : ∀ w, RB w (.slice Ab lb.length pb) lb → Calls Try.prog 29 #[.agg (mxT.enc (r2, c2, Ab, lb.length, pb)).toArray] w (Gives26 mxT w tb))
    (hE : (tb.2.2.2 != 0) = true ∨ ((tb.2.2.2 != 0) = false ∧ (r2 != (n : Int)) = true)) :
    Calls Try.prog 11 #[.agg (mxT.enc ((n : Int), (n : Int), Aa, la.length, pa)).toArray, .agg (mxT.enc (r2, c2, Ab, lb.length, pb)).toArray] w fun e w' => e = .returned (.bool true) ∧ Below w.heap.size w w' := by
  have H := SH.start Nil w
  have RO := HOLD.rdCons ha (HOLD.rdOne hb)
  have cS : ∀ W, Calls Try.prog 19 #[.agg (mxT.enc ((n : Int), (n : Int), Aa, la.length, pa)).toArray] W fun e w' => e = .returned (.bool true) ∧ Below W.heap.size W w' := fun W => by rw [← hs1]; exact small_any n n Aa la.length pa W
  have cS2 : ∀ W, Calls Try.prog 19 #[.agg (mxT.enc (r2, c2, Ab, lb.length, pb)).toArray] W fun e w' => e = .returned (.bool true) ∧ Below W.heap.size W w' := fun W => by rw [← hs2]; exact small_any r2 c2 Ab lb.length pb W
  have cL : ∀ W, Calls Try.prog 20 #[] W fun e w' => e = .returned (.bool true) ∧ Below W.heap.size W w' := alive26_any
  have cM : ∀ W, Calls Try.prog 37 #[.agg (mxT.enc ((n : Int), (n : Int), Aa, la.length, pa)).toArray] W fun e w' => e = .returned (.bool true) ∧ Below W.heap.size W w' := fun W => by rw [← hm]; exact MMay_any _ _ _ _ _ W
  obtain ⟨x1, x2, e1, e2, hn1, hn2, -, -, hl⟩ := mayB_ok hm
  rw [show x1 = n by omega, show x2 = n by omega] at hl
  rw [show x1 = n by omega] at hn1 hn2
  have cU := fun W => Unit_ok n W hn1 hn2
  have cK := fun (W : World) (hB : Below w.heap.size w W) => Rank_any (n : Int) (n : Int) Aa pa la W (ha.below hB) (by rw [hl]; have := Nat.mul_le_mul hn2 hn2; omega)
  rw [show rankI n n la = (clr n n (rowsL la n n) n).2 from by rw [rankI, hm]; rfl, hk] at cK
  have cI := fun (W : World) (hB : Below w.heap.size w W) => Inverse_ok la n Aa pa W (ha.below hB) hpa hm
  rw [hx] at cI
  have hxl : (fillL n n B).length = n * n := fillL_len _ _ _
  have hmx : mayB n n (fillL n n B).length = true := by rw [hxl]; exact mayB_sq hn1 hn2
  have cP := fun (W : World) (Ax : Option Addr) (px : Nat) (hB : Below w.heap.size w W) (h : RB W (.slice Ax (fillL n n B).length px) (fillL n n B)) => Mul_ok la (fillL n n B) n n n Aa Ax pa px W (ha.below hB) h hm hmx hpa (rb_cap h)
  have cQ := fun (W : World) (Ax : Option Addr) (px : Nat) (hB : Below w.heap.size w W) (h : RB W (.slice Ax (fillL n n B).length px) (fillL n n B)) => Mul_ok (fillL n n B) la n n n Ax Aa px pa W h (ha.below hB) hmx hm (rb_cap h) hpa
  have hB2 : Undo n (elF la n) (elF (fillL n n B) n) := hu.congr (fun _ _ _ _ => rfl) (fun i j hi hj => el_fill n B i j hi hj)
  rw [fillL_congr (f := mulE la n (fillL n n B) n) (g := unitF) (fun i j hi hj => (hB2.one i j hi hj).1)] at cP
  rw [fillL_congr (f := mulE (fillL n n B) n la n) (g := unitF) (fun i j hi hj => (hB2.one i j hi hj).2)] at cQ
  have cPl := fun W (Au : Option Addr) (uc : Nat) => plain26_any n n Au (fillL n n unitF).length uc W
  have hnn : ((n : Int) != (n : Int)) = false := by simp
  have hne : ((n : Int) == (n : Int)) = true := by simp
  have hni : (n : Int) ≤ 32 := by omega
  obtain ⟨r9, c9, l9, E9⟩ := tb
  dsimp only at hE
  have CB := Lib.hid hb2
  generalize fillL n n B = xl at *
  generalize fillL n n unitF = ul at *
  clear ha hb hx hk hl hm hs1 hs2 hpa e1 e2 hu hB2 hxl hmx hb2
  go_enter Try.func11, Try.ntmps11
  go_wp2_with (first
    | ((with_reducible refine gDst 2 ?_); refine aBox H _ rfl rfl rfl ?_; clear H; intro b2 w2 H)
    | ((with_reducible refine gDst 3 ?_); refine aBox H _ rfl rfl rfl ?_; clear H; intro b3 w3 H)
    | ((with_reducible refine gDst 5 ?_); refine aAlloc H rfl rfl ?_; clear H; intro b5 w5 H)
    | ((with_reducible refine gDst 7 ?_); refine aAlloc H rfl rfl ?_; clear H; intro b7 w7 H)
    | ((with_reducible refine gDst 9 ?_); refine aAlloc H rfl rfl ?_; clear H; intro b9 w9 H)
    | ((with_reducible refine gDst 11 ?_); refine aAlloc H rfl rfl ?_; clear H; intro b11 w11 H)
    | ((with_reducible refine gDst 13 ?_); refine aAlloc H rfl rfl ?_; clear H; intro b13 w13 H)
    | ((with_reducible refine gDst 15 ?_); refine aAlloc H rfl rfl ?_; clear H; intro b15 w15 H)
    | ((with_reducible refine gDst 17 ?_); refine aAlloc H rfl rfl ?_; clear H; intro b17 w17 H)
    | ((with_reducible refine gDst 19 ?_); refine aAlloc H rfl rfl ?_; clear H; intro b19 w19 H)
    | ((with_reducible refine gLoad ?_); first | (refine aLoad1 H _ rfl rfl (by first | exact (rfl : _ = some (Value.int _ _)) | exact (rfl : _ = some (Value.slice _ _ _)) | exact (rfl : _ = some (Value.bool _)) | exact (rfl : _ = some (Value.string _)) | exact (rfl : _ = some (Value.pointer _)) | rfl | (simp [List.getElem?_append]; done)) rfl ?_) | (refine aLoadR1 RO H _ rfl rfl (by first | exact (rfl : _ = some (Value.int _ _)) | exact (rfl : _ = some (Value.slice _ _ _)) | exact (rfl : _ = some (Value.bool _)) | exact (rfl : _ = some (Value.string _)) | exact (rfl : _ = some (Value.pointer _)) | rfl | (simp [List.getElem?_append]; done)) rfl ?_) | (refine aLoadC _ rfl rfl (by assumption) rfl ?_) | (refine aLoad H _ rfl rfl (by first | exact part_all (by first | rfl | simp []) | (simp only [List.drop_succ_cons, List.drop_zero, List.take_succ_cons, List.take_zero]; rfl) | (simp [List.drop_append, List.take_append]; rfl)) (by first | rfl | simp []) rfl ?_) | (refine aLoadR RO H _ rfl rfl (by first | exact part_all (by first | rfl | simp []) | (simp only [List.drop_succ_cons, List.drop_zero, List.take_succ_cons, List.take_zero]; rfl) | (simp [List.drop_append, List.take_append]; rfl)) (by first | rfl | simp []) rfl ?_))
    | ((with_reducible refine gStore ?_); (first | (refine aStore H _ _ rfl rfl rfl (by (first | exact ⟨rfl, rfl⟩ | exact ⟨by decide, rfl⟩ | (simp []; done) | (constructor <;> simp [] <;> omega))) (by first | rfl | simp [List.all_append, one_all]) rfl ?_) | (refine aLay H _ _ rfl rfl rfl (by (first | exact ⟨rfl, rfl⟩ | exact ⟨by decide, rfl⟩ | (simp []; done) | (constructor <;> simp [] <;> omega))) (by first | rfl | simp [List.all_append, one_all]) (by simp only [lay, List.take_succ_cons, List.take_zero, List.drop_succ_cons, List.drop_zero, List.nil_append, List.cons_append, List.length_cons, List.length_nil, Nat.zero_add, Nat.reduceAdd]; rfl) rfl ?_)); clear H; intro w' H; try dsimp only at H)
    | (go_at_call 19; (with_reducible refine (cS _).mono ?_); rintro e w' ⟨rfl, hb⟩; replace H := H.step hb; clear hb)
    | (go_at_call 19; (with_reducible refine (cS2 _).mono ?_); rintro e w' ⟨rfl, hb⟩; replace H := H.step hb; clear hb)
    | (go_at_call 37; (with_reducible refine (cM _).mono ?_); rintro e w' ⟨rfl, hb⟩; replace H := H.step hb; clear hb)
    | (go_at_call 24; (with_reducible refine (cU _).mono ?_); rintro e w' ⟨Au, uc, rfl, ho, hb⟩; replace H := H.pushRow hb ho; clear hb ho)
    | (go_at_call 29; (with_reducible refine (cI _ H.below).mono ?_); rintro e w' ⟨Ax, px, rfl, ho, hb⟩; replace H := H.pushRow hb ho; clear hb ho))
  refine startA (fun i => false) (by kernel_rfl) (fun wS hS => ?_)
  replace H := H.drew
  rw [← hS] at H
  have HH := H.hold
  have HR := H.old RO
  have HS0 : Below wS.heap.size wS wS := Below.refl _ _
  clear hS
  refine takeP 0 rfl (by kernel_rfl) (by kernel_rfl) (by kernel_rfl) (by kernel_rfl) (fun _ _ _ h => h) rfl (v := ?_) ?_ ?_
  rotate_left
  · intro w'; go_simp; (try with_reducible rfl)
  (try simp only [Act.put, List.setIfInBounds_toArray, List.set_cons_zero, List.set_cons_succ])
  refine takeP 1 rfl (by kernel_rfl) (by kernel_rfl) (by kernel_rfl) (by kernel_rfl) (fun _ _ _ h => h) rfl (v := ?_) ?_ ?_
  rotate_left
  · intro w'; go_simp; (try with_reducible rfl)
  (try simp only [Act.put, List.setIfInBounds_toArray, List.set_cons_zero, List.set_cons_succ])
  refine takeL 2 HS0 rfl (by kernel_rfl) (by kernel_rfl) (by kernel_rfl) (by kernel_rfl) (by kernel_rfl) (fun _ _ _ h => h) rfl (v := ?_) ?_ ?_
  rotate_left
  · intro w' hw'; first | (refine Eq.trans (xLoad (HR.below hw') _ rfl rfl (by first | exact part_all (by first | rfl | simp []) | (simp only [List.drop_succ_cons, List.drop_zero, List.take_succ_cons, List.take_zero]; rfl) | (simp [List.drop_append, List.take_append]; rfl)) (by first | rfl | simp [])) ?_; with_reducible rfl) | (refine Eq.trans (xLoad (HH.below hw') _ rfl rfl (by first | exact part_all (by first | rfl | simp []) | (simp only [List.drop_succ_cons, List.drop_zero, List.take_succ_cons, List.take_zero]; rfl) | (simp [List.drop_append, List.take_append]; rfl)) (by first | rfl | simp [])) ?_; with_reducible rfl)
  (try simp only [Act.put, List.setIfInBounds_toArray, List.set_cons_zero, List.set_cons_succ])
  refine takeP 4 rfl (by kernel_rfl) (by kernel_rfl) (by kernel_rfl) (by kernel_rfl) (fun _ _ _ h => h) rfl (v := ?_) ?_ ?_
  rotate_left
  · intro w'; go_simp; (try with_reducible rfl)
  (try simp only [Act.put, List.setIfInBounds_toArray, List.set_cons_zero, List.set_cons_succ])
  refine takeL 5 HS0 rfl (by kernel_rfl) (by kernel_rfl) (by kernel_rfl) (by kernel_rfl) (by kernel_rfl) (fun _ _ _ h => h) rfl (v := ?_) ?_ ?_
  rotate_left
  · intro w' hw'; first | (refine Eq.trans (xLoad1 (HR.below hw') _ rfl rfl (by first | exact (rfl : _ = some (Value.int _ _)) | exact (rfl : _ = some (Value.slice _ _ _)) | exact (rfl : _ = some (Value.bool _)) | exact (rfl : _ = some (Value.string _)) | exact (rfl : _ = some (Value.pointer _)) | rfl | (simp [List.getElem?_append]; done))) ?_; with_reducible rfl) | (refine Eq.trans (xLoad1 (HH.below hw') _ rfl rfl (by first | exact (rfl : _ = some (Value.int _ _)) | exact (rfl : _ = some (Value.slice _ _ _)) | exact (rfl : _ = some (Value.bool _)) | exact (rfl : _ = some (Value.string _)) | exact (rfl : _ = some (Value.pointer _)) | rfl | (simp [List.getElem?_append]; done))) ?_; with_reducible rfl) | (refine Eq.trans (xLoadC _ rfl rfl (cell_below hw' (by assumption))) ?_; with_reducible rfl)
  (try simp only [Act.put, List.setIfInBounds_toArray, List.set_cons_zero, List.set_cons_succ])
  refine stepL 3 rfl (by kernel_rfl) rfl (fun K hK => ?_)
  (go_simp; (with_reducible refine (cK _ H.below).mono ?_); rintro e w' ⟨rfl, hb⟩; replace H := H.step hb; replace HS0 := below_two HS0 HS0.size hb; clear hb; refine hK.out _ _ (fun _ _ => HS0) ?_; clear K hK)
  (try simp only [Act.put, List.setIfInBounds_toArray, List.set_cons_zero, List.set_cons_succ])
  refine takeP 6 rfl (by kernel_rfl) (by kernel_rfl) (by kernel_rfl) (by kernel_rfl) (fun _ _ _ h => h) rfl (v := ?_) ?_ ?_
  rotate_left
  · intro w'; go_simp; (try with_reducible rfl)
  (try simp only [Act.put, List.setIfInBounds_toArray, List.set_cons_zero, List.set_cons_succ])
  refine takeP 7 rfl (by kernel_rfl) (by kernel_rfl) (by kernel_rfl) (by kernel_rfl) (fun _ _ _ h => h) rfl (v := ?_) ?_ ?_
  rotate_left
  · intro w'; go_simp; (try with_reducible rfl)
  (try simp only [Act.put, List.setIfInBounds_toArray, List.set_cons_zero, List.set_cons_succ])
  refine doneL (by kernel_rfl) ?_
  go_wp2_with (first
    | ((with_reducible refine gDst 2 ?_); refine aBox H _ rfl rfl rfl ?_; clear H; intro b2 w2 H)
    | ((with_reducible refine gDst 3 ?_); refine aBox H _ rfl rfl rfl ?_; clear H; intro b3 w3 H)
    | ((with_reducible refine gDst 5 ?_); refine aAlloc H rfl rfl ?_; clear H; intro b5 w5 H)
    | ((with_reducible refine gDst 7 ?_); refine aAlloc H rfl rfl ?_; clear H; intro b7 w7 H)
    | ((with_reducible refine gDst 9 ?_); refine aAlloc H rfl rfl ?_; clear H; intro b9 w9 H)
    | ((with_reducible refine gDst 11 ?_); refine aAlloc H rfl rfl ?_; clear H; intro b11 w11 H)
    | ((with_reducible refine gDst 13 ?_); refine aAlloc H rfl rfl ?_; clear H; intro b13 w13 H)
    | ((with_reducible refine gDst 15 ?_); refine aAlloc H rfl rfl ?_; clear H; intro b15 w15 H)
    | ((with_reducible refine gDst 17 ?_); refine aAlloc H rfl rfl ?_; clear H; intro b17 w17 H)
    | ((with_reducible refine gDst 19 ?_); refine aAlloc H rfl rfl ?_; clear H; intro b19 w19 H)
    | ((with_reducible refine gLoad ?_); first | (refine aLoad1 H _ rfl rfl (by first | exact (rfl : _ = some (Value.int _ _)) | exact (rfl : _ = some (Value.slice _ _ _)) | exact (rfl : _ = some (Value.bool _)) | exact (rfl : _ = some (Value.string _)) | exact (rfl : _ = some (Value.pointer _)) | rfl | (simp [List.getElem?_append]; done)) rfl ?_) | (refine aLoadR1 RO H _ rfl rfl (by first | exact (rfl : _ = some (Value.int _ _)) | exact (rfl : _ = some (Value.slice _ _ _)) | exact (rfl : _ = some (Value.bool _)) | exact (rfl : _ = some (Value.string _)) | exact (rfl : _ = some (Value.pointer _)) | rfl | (simp [List.getElem?_append]; done)) rfl ?_) | (refine aLoadC _ rfl rfl (by assumption) rfl ?_) | (refine aLoad H _ rfl rfl (by first | exact part_all (by first | rfl | simp []) | (simp only [List.drop_succ_cons, List.drop_zero, List.take_succ_cons, List.take_zero]; rfl) | (simp [List.drop_append, List.take_append]; rfl)) (by first | rfl | simp []) rfl ?_) | (refine aLoadR RO H _ rfl rfl (by first | exact part_all (by first | rfl | simp []) | (simp only [List.drop_succ_cons, List.drop_zero, List.take_succ_cons, List.take_zero]; rfl) | (simp [List.drop_append, List.take_append]; rfl)) (by first | rfl | simp []) rfl ?_))
    | ((with_reducible refine gStore ?_); (first | (refine aStore H _ _ rfl rfl rfl (by (first | exact ⟨rfl, rfl⟩ | exact ⟨by decide, rfl⟩ | (simp []; done) | (constructor <;> simp [] <;> omega))) (by first | rfl | simp [List.all_append, one_all]) rfl ?_) | (refine aLay H _ _ rfl rfl rfl (by (first | exact ⟨rfl, rfl⟩ | exact ⟨by decide, rfl⟩ | (simp []; done) | (constructor <;> simp [] <;> omega))) (by first | rfl | simp [List.all_append, one_all]) (by simp only [lay, List.take_succ_cons, List.take_zero, List.drop_succ_cons, List.drop_zero, List.nil_append, List.cons_append, List.length_cons, List.length_nil, Nat.zero_add, Nat.reduceAdd]; rfl) rfl ?_)); clear H; intro w' H; try dsimp only at H)
    | (go_at_call 33; (with_reducible refine (cP _ Ax px H.below (H.hold.rd _)).mono ?_); rintro e w' ⟨Ap, pp, rfl, ho, hb⟩; replace H := H.pushRow hb ho; clear hb ho)
    | (go_at_call 33; (with_reducible refine (cQ _ Ax px H.below (H.hold.rd _)).mono ?_); rintro e w' ⟨Aq, pq, rfl, ho, hb⟩; replace H := H.pushRow hb ho; clear hb ho))
  refine startA (fun i => false) (by kernel_rfl) (fun wS hS => ?_)
  replace H := H.drew
  rw [← hS] at H
  have HH := H.hold
  have HR := H.old RO
  have HS0 : Below wS.heap.size wS wS := Below.refl _ _
  clear hS
  refine takeP 0 rfl (by kernel_rfl) (by kernel_rfl) (by kernel_rfl) (by kernel_rfl) (fun _ _ _ h => h) rfl (v := ?_) ?_ ?_
  rotate_left
  · intro w'; go_simp; (try with_reducible rfl)
  (try simp only [Act.put, List.setIfInBounds_toArray, List.set_cons_zero, List.set_cons_succ])
  refine takeP 1 rfl (by kernel_rfl) (by kernel_rfl) (by kernel_rfl) (by kernel_rfl) (fun _ _ _ h => h) rfl (v := ?_) ?_ ?_
  rotate_left
  · intro w'; go_simp; (try with_reducible rfl)
  (try simp only [Act.put, List.setIfInBounds_toArray, List.set_cons_zero, List.set_cons_succ])
  refine takeP 2 rfl (by kernel_rfl) (by kernel_rfl) (by kernel_rfl) (by kernel_rfl) (fun _ _ _ h => h) rfl (v := ?_) ?_ ?_
  rotate_left
  · intro w'; go_simp; (try with_reducible rfl)
  (try simp only [Act.put, List.setIfInBounds_toArray, List.set_cons_zero, List.set_cons_succ])
  refine takeP 3 rfl (by kernel_rfl) (by kernel_rfl) (by kernel_rfl) (by kernel_rfl) (fun _ _ _ h => h) rfl (v := ?_) ?_ ?_
  rotate_left
  · intro w'; go_simp; (try with_reducible rfl)
  (try simp only [Act.put, List.setIfInBounds_toArray, List.set_cons_zero, List.set_cons_succ])
  refine takeP 4 rfl (by kernel_rfl) (by kernel_rfl) (by kernel_rfl) (by kernel_rfl) (fun _ _ _ h => h) rfl (v := ?_) ?_ ?_
  rotate_left
  · intro w'; go_simp; (try with_reducible rfl)
  (try simp only [Act.put, List.setIfInBounds_toArray, List.set_cons_zero, List.set_cons_succ])
  refine takeP 5 rfl (by kernel_rfl) (by kernel_rfl) (by kernel_rfl) (by kernel_rfl) (fun _ _ _ h => h) rfl (v := ?_) ?_ ?_
  rotate_left
  · intro w'; go_simp; (try with_reducible rfl)
  (try simp only [Act.put, List.setIfInBounds_toArray, List.set_cons_zero, List.set_cons_succ])
  refine takeP 6 rfl (by kernel_rfl) (by kernel_rfl) (by kernel_rfl) (by kernel_rfl) (fun _ _ _ h => h) rfl (v := ?_) ?_ ?_
  rotate_left
  · intro w'; go_simp; (try with_reducible rfl)
  (try simp only [Act.put, List.setIfInBounds_toArray, List.set_cons_zero, List.set_cons_succ])
  refine takeL 7 HS0 rfl (by kernel_rfl) (by kernel_rfl) (by kernel_rfl) (by kernel_rfl) (by kernel_rfl) (fun _ _ _ h => h) rfl (v := ?_) ?_ ?_
  rotate_left
  · intro w' hw'; first | (refine Eq.trans (xLoad (HR.below hw') _ rfl rfl (by first | exact part_all (by first | rfl | simp []) | (simp only [List.drop_succ_cons, List.drop_zero, List.take_succ_cons, List.take_zero]; rfl) | (simp [List.drop_append, List.take_append]; rfl)) (by first | rfl | simp [])) ?_; with_reducible rfl) | (refine Eq.trans (xLoad (HH.below hw') _ rfl rfl (by first | exact part_all (by first | rfl | simp []) | (simp only [List.drop_succ_cons, List.drop_zero, List.take_succ_cons, List.take_zero]; rfl) | (simp [List.drop_append, List.take_append]; rfl)) (by first | rfl | simp [])) ?_; with_reducible rfl)
  (try simp only [Act.put, List.setIfInBounds_toArray, List.set_cons_zero, List.set_cons_succ])
  refine takeL 8 HS0 rfl (by kernel_rfl) (by kernel_rfl) (by kernel_rfl) (by kernel_rfl) (by kernel_rfl) (fun _ _ _ h => h) rfl (v := ?_) ?_ ?_
  rotate_left
  · intro w' hw'; first | (refine Eq.trans (xLoad (HR.below hw') _ rfl rfl (by first | exact part_all (by first | rfl | simp []) | (simp only [List.drop_succ_cons, List.drop_zero, List.take_succ_cons, List.take_zero]; rfl) | (simp [List.drop_append, List.take_append]; rfl)) (by first | rfl | simp [])) ?_; with_reducible rfl) | (refine Eq.trans (xLoad (HH.below hw') _ rfl rfl (by first | exact part_all (by first | rfl | simp []) | (simp only [List.drop_succ_cons, List.drop_zero, List.take_succ_cons, List.take_zero]; rfl) | (simp [List.drop_append, List.take_append]; rfl)) (by first | rfl | simp [])) ?_; with_reducible rfl)
  (try simp only [Act.put, List.setIfInBounds_toArray, List.set_cons_zero, List.set_cons_succ])
  refine stepL 9 rfl (by kernel_rfl) rfl (fun K hK => ?_)
  (go_simp; (with_reducible refine (cPl _ _ _).mono ?_); rintro e w' ⟨rfl, hb⟩; replace H := H.step hb; replace HS0 := below_two HS0 HS0.size hb; clear hb; refine hK.out _ _ (fun _ _ => HS0) ?_; clear K hK)
  (try simp only [Act.put, List.setIfInBounds_toArray, List.set_cons_zero, List.set_cons_succ])
  refine stepL 10 rfl (by kernel_rfl) rfl (fun K hK => ?_)
  (go_simp; (with_reducible refine (same_true n n Ap Au _ _ pp uc ul _ (H.hold.rd _) (H.hold.rd _)).mono ?_); rintro e w' ⟨rfl, hb⟩; replace H := H.step hb; replace HS0 := below_two HS0 HS0.size hb; clear hb; refine hK.out _ _ (fun _ _ => HS0) ?_; clear K hK)
  (try simp only [Act.put, List.setIfInBounds_toArray, List.set_cons_zero, List.set_cons_succ])
  refine takeP 11 rfl (by kernel_rfl) (by kernel_rfl) (by kernel_rfl) (by kernel_rfl) (fun _ _ _ h => h) rfl (v := ?_) ?_ ?_
  rotate_left
  · intro w'; go_simp; (try with_reducible rfl)
  (try simp only [Act.put, List.setIfInBounds_toArray, List.set_cons_zero, List.set_cons_succ])
  refine takeP 12 rfl (by kernel_rfl) (by kernel_rfl) (by kernel_rfl) (by kernel_rfl) (fun _ _ _ h => h) rfl (v := ?_) ?_ ?_
  rotate_left
  · intro w'; go_simp; (try with_reducible rfl)
  (try simp only [Act.put, List.setIfInBounds_toArray, List.set_cons_zero, List.set_cons_succ])
  refine takeP 13 rfl (by kernel_rfl) (by kernel_rfl) (by kernel_rfl) (by kernel_rfl) (fun _ _ _ h => h) rfl (v := ?_) ?_ ?_
  rotate_left
  · intro w'; go_simp; (try with_reducible rfl)
  (try simp only [Act.put, List.setIfInBounds_toArray, List.set_cons_zero, List.set_cons_succ])
  refine takeL 14 HS0 rfl (by kernel_rfl) (by kernel_rfl) (by kernel_rfl) (by kernel_rfl) (by kernel_rfl) (fun _ _ _ h => h) rfl (v := ?_) ?_ ?_
  rotate_left
  · intro w' hw'; first | (refine Eq.trans (xLoad (HR.below hw') _ rfl rfl (by first | exact part_all (by first | rfl | simp []) | (simp only [List.drop_succ_cons, List.drop_zero, List.take_succ_cons, List.take_zero]; rfl) | (simp [List.drop_append, List.take_append]; rfl)) (by first | rfl | simp [])) ?_; with_reducible rfl) | (refine Eq.trans (xLoad (HH.below hw') _ rfl rfl (by first | exact part_all (by first | rfl | simp []) | (simp only [List.drop_succ_cons, List.drop_zero, List.take_succ_cons, List.take_zero]; rfl) | (simp [List.drop_append, List.take_append]; rfl)) (by first | rfl | simp [])) ?_; with_reducible rfl)
  (try simp only [Act.put, List.setIfInBounds_toArray, List.set_cons_zero, List.set_cons_succ])
  refine takeL 15 HS0 rfl (by kernel_rfl) (by kernel_rfl) (by kernel_rfl) (by kernel_rfl) (by kernel_rfl) (fun _ _ _ h => h) rfl (v := ?_) ?_ ?_
  rotate_left
  · intro w' hw'; first | (refine Eq.trans (xLoad (HR.below hw') _ rfl rfl (by first | exact part_all (by first | rfl | simp []) | (simp only [List.drop_succ_cons, List.drop_zero, List.take_succ_cons, List.take_zero]; rfl) | (simp [List.drop_append, List.take_append]; rfl)) (by first | rfl | simp [])) ?_; with_reducible rfl) | (refine Eq.trans (xLoad (HH.below hw') _ rfl rfl (by first | exact part_all (by first | rfl | simp []) | (simp only [List.drop_succ_cons, List.drop_zero, List.take_succ_cons, List.take_zero]; rfl) | (simp [List.drop_append, List.take_append]; rfl)) (by first | rfl | simp [])) ?_; with_reducible rfl)
  (try simp only [Act.put, List.setIfInBounds_toArray, List.set_cons_zero, List.set_cons_succ])
  refine stepL 16 rfl (by kernel_rfl) rfl (fun K hK => ?_)
  (go_simp; (with_reducible refine (cPl _ _ _).mono ?_); rintro e w' ⟨rfl, hb⟩; replace H := H.step hb; replace HS0 := below_two HS0 HS0.size hb; clear hb; refine hK.out _ _ (fun _ _ => HS0) ?_; clear K hK)
  (try simp only [Act.put, List.setIfInBounds_toArray, List.set_cons_zero, List.set_cons_succ])
  refine stepL 17 rfl (by kernel_rfl) rfl (fun K hK => ?_)
  (go_simp; (with_reducible refine (same_true n n Aq Au _ _ pq uc ul _ (H.hold.rd _) (H.hold.rd _)).mono ?_); rintro e w' ⟨rfl, hb⟩; replace H := H.step hb; replace HS0 := below_two HS0 HS0.size hb; clear hb; refine hK.out _ _ (fun _ _ => HS0) ?_; clear K hK)
  (try simp only [Act.put, List.setIfInBounds_toArray, List.set_cons_zero, List.set_cons_succ])
  refine takeP 18 rfl (by kernel_rfl) (by kernel_rfl) (by kernel_rfl) (by kernel_rfl) (fun _ _ _ h => h) rfl (v := ?_) ?_ ?_
  rotate_left
  · intro w'; go_simp; (try with_reducible rfl)
  (try simp only [Act.put, List.setIfInBounds_toArray, List.set_cons_zero, List.set_cons_succ])
  refine takeP 19 rfl (by kernel_rfl) (by kernel_rfl) (by kernel_rfl) (by kernel_rfl) (fun _ _ _ h => h) rfl (v := ?_) ?_ ?_
  rotate_left
  · intro w'; go_simp; (try with_reducible rfl)
  (try simp only [Act.put, List.setIfInBounds_toArray, List.set_cons_zero, List.set_cons_succ])
  refine doneL (by kernel_rfl) ?_
  rcases hE with h1 | ⟨h1, h2⟩
  all_goals
    go_wp2_with (first
      | ((with_reducible refine gDst 2 ?_); refine aBox H _ rfl rfl rfl ?_; clear H; intro b2 w2 H)
      | ((with_reducible refine gDst 3 ?_); refine aBox H _ rfl rfl rfl ?_; clear H; intro b3 w3 H)
      | ((with_reducible refine gDst 5 ?_); refine aAlloc H rfl rfl ?_; clear H; intro b5 w5 H)
      | ((with_reducible refine gDst 7 ?_); refine aAlloc H rfl rfl ?_; clear H; intro b7 w7 H)
      | ((with_reducible refine gDst 9 ?_); refine aAlloc H rfl rfl ?_; clear H; intro b9 w9 H)
      | ((with_reducible refine gDst 11 ?_); refine aAlloc H rfl rfl ?_; clear H; intro b11 w11 H)
      | ((with_reducible refine gDst 13 ?_); refine aAlloc H rfl rfl ?_; clear H; intro b13 w13 H)
      | ((with_reducible refine gDst 15 ?_); refine aAlloc H rfl rfl ?_; clear H; intro b15 w15 H)
      | ((with_reducible refine gDst 17 ?_); refine aAlloc H rfl rfl ?_; clear H; intro b17 w17 H)
      | ((with_reducible refine gDst 19 ?_); refine aAlloc H rfl rfl ?_; clear H; intro b19 w19 H)
      | ((with_reducible refine gLoad ?_); first | (refine aLoad1 H _ rfl rfl (by first | exact (rfl : _ = some (Value.int _ _)) | exact (rfl : _ = some (Value.slice _ _ _)) | exact (rfl : _ = some (Value.bool _)) | exact (rfl : _ = some (Value.string _)) | exact (rfl : _ = some (Value.pointer _)) | rfl | (simp [List.getElem?_append]; done)) rfl ?_) | (refine aLoadR1 RO H _ rfl rfl (by first | exact (rfl : _ = some (Value.int _ _)) | exact (rfl : _ = some (Value.slice _ _ _)) | exact (rfl : _ = some (Value.bool _)) | exact (rfl : _ = some (Value.string _)) | exact (rfl : _ = some (Value.pointer _)) | rfl | (simp [List.getElem?_append]; done)) rfl ?_) | (refine aLoadC _ rfl rfl (by assumption) rfl ?_) | (refine aLoad H _ rfl rfl (by first | exact part_all (by first | rfl | simp []) | (simp only [List.drop_succ_cons, List.drop_zero, List.take_succ_cons, List.take_zero]; rfl) | (simp [List.drop_append, List.take_append]; rfl)) (by first | rfl | simp []) rfl ?_) | (refine aLoadR RO H _ rfl rfl (by first | exact part_all (by first | rfl | simp []) | (simp only [List.drop_succ_cons, List.drop_zero, List.take_succ_cons, List.take_zero]; rfl) | (simp [List.drop_append, List.take_append]; rfl)) (by first | rfl | simp []) rfl ?_))
      | ((with_reducible refine gStore ?_); (first | (refine aStore H _ _ rfl rfl rfl (by (first | exact ⟨rfl, rfl⟩ | exact ⟨by decide, rfl⟩ | (simp []; done) | (constructor <;> simp [] <;> omega))) (by first | rfl | simp [List.all_append, one_all]) rfl ?_) | (refine aLay H _ _ rfl rfl rfl (by (first | exact ⟨rfl, rfl⟩ | exact ⟨by decide, rfl⟩ | (simp []; done) | (constructor <;> simp [] <;> omega))) (by first | rfl | simp [List.all_append, one_all]) (by simp only [lay, List.take_succ_cons, List.take_zero, List.drop_succ_cons, List.drop_zero, List.nil_append, List.cons_append, List.length_cons, List.length_nil, Nat.zero_add, Nat.reduceAdd]; rfl) rfl ?_)); clear H; intro w' H; try dsimp only at H)
      | (go_at_call 29; (with_reducible refine (CB.out _ ((H.old RO).rd _)).mono ?_); rintro e w' ⟨Ay, py, rfl, ho, hb⟩; replace H := H.pushRow hb ho; clear hb ho)
      | (go_at_call 20; (with_reducible refine (cL _).mono ?_); rintro e w' ⟨rfl, hb⟩; replace H := H.step hb; clear hb))
    go_ret
    exact ⟨rfl, H.below⟩
set_option maxHeartbeats 6400000 in
set_option maxRecDepth 100000 in
theorem Undone_full (n : Nat) (B B2 : Nat → Nat → UInt8) (la lb : List UInt8) (Aa Ab : Option Addr) (pa pb : Nat) (w : World) (ha : RB w (.slice Aa la.length pa) la) (hb : RB w (.slice Ab lb.length pb) lb) (hpa : la.length ≤ pa) (hpb : lb.length ≤ pb)
    (hs1 : smallB n n la.length = true) (hs2 : smallB n n lb.length = true) (hm : mayB n n la.length = true) (hx : invT (clr n (n + n) (wideM la n (n + n)) n) n = ((n : Int), (n : Int), fillL n n B, (0 : Int))) (hu : Undo n (elF la n) B) (hk : (clr n n (rowsL la n n) n).2 = n)
    (hlb : lb.length = n * n) (hu2 : Undo n (elF lb n) B2)
    (hb2 : ∀ w, RB w (.slice Ab lb.length pb) lb → Calls Try.prog 29 #[.agg (mxT.enc ((n : Int), (n : Int), Ab, lb.length, pb)).toArray] w (Gives26 mxT w ((n : Int), (n : Int), fillL n n B2, (0 : Int)))) :
    Calls Try.prog 11 #[.agg (mxT.enc ((n : Int), (n : Int), Aa, la.length, pa)).toArray, .agg (mxT.enc ((n : Int), (n : Int), Ab, lb.length, pb)).toArray] w fun e w' => e = .returned (.bool true) ∧ Below w.heap.size w w' := by
  obtain ⟨r2, hr2⟩ : ∃ r2 : Int, r2 = (n : Int) := ⟨_, rfl⟩
  obtain ⟨c2, hc2⟩ : ∃ c2 : Int, c2 = (n : Int) := ⟨_, rfl⟩
  have hs2' := hs2
  replace hs2 : smallB r2 c2 lb.length = true := by rw [hr2, hc2]; exact hs2'
  have H := SH.start Nil w
  have RO := HOLD.rdCons ha (HOLD.rdOne hb)
  have cS : ∀ W, Calls Try.prog 19 #[.agg (mxT.enc ((n : Int), (n : Int), Aa, la.length, pa)).toArray] W fun e w' => e = .returned (.bool true) ∧ Below W.heap.size W w' := fun W => by rw [← hs1]; exact small_any n n Aa la.length pa W
  have cS2 : ∀ W, Calls Try.prog 19 #[.agg (mxT.enc (r2, c2, Ab, lb.length, pb)).toArray] W fun e w' => e = .returned (.bool true) ∧ Below W.heap.size W w' := fun W => by rw [← hs2]; exact small_any r2 c2 Ab lb.length pb W
  have cL : ∀ W, Calls Try.prog 20 #[] W fun e w' => e = .returned (.bool true) ∧ Below W.heap.size W w' := alive26_any
  have cM : ∀ W, Calls Try.prog 37 #[.agg (mxT.enc ((n : Int), (n : Int), Aa, la.length, pa)).toArray] W fun e w' => e = .returned (.bool true) ∧ Below W.heap.size W w' := fun W => by rw [← hm]; exact MMay_any _ _ _ _ _ W
  obtain ⟨x1, x2, e1, e2, hn1, hn2, -, -, hl⟩ := mayB_ok hm
  rw [show x1 = n by omega, show x2 = n by omega] at hl
  rw [show x1 = n by omega] at hn1 hn2
  have cU := fun W => Unit_ok n W hn1 hn2
  have cK := fun (W : World) (hB : Below w.heap.size w W) => Rank_any (n : Int) (n : Int) Aa pa la W (ha.below hB) (by rw [hl]; have := Nat.mul_le_mul hn2 hn2; omega)
  rw [show rankI n n la = (clr n n (rowsL la n n) n).2 from by rw [rankI, hm]; rfl, hk] at cK
  have cI := fun (W : World) (hB : Below w.heap.size w W) => Inverse_ok la n Aa pa W (ha.below hB) hpa hm
  rw [hx] at cI
  have hxl : (fillL n n B).length = n * n := fillL_len _ _ _
  have hmx : mayB n n (fillL n n B).length = true := by rw [hxl]; exact mayB_sq hn1 hn2
  have cP := fun (W : World) (Ax : Option Addr) (px : Nat) (hB : Below w.heap.size w W) (h : RB W (.slice Ax (fillL n n B).length px) (fillL n n B)) => Mul_ok la (fillL n n B) n n n Aa Ax pa px W (ha.below hB) h hm hmx hpa (rb_cap h)
  have cQ := fun (W : World) (Ax : Option Addr) (px : Nat) (hB : Below w.heap.size w W) (h : RB W (.slice Ax (fillL n n B).length px) (fillL n n B)) => Mul_ok (fillL n n B) la n n n Ax Aa px pa W h (ha.below hB) hmx hm (rb_cap h) hpa
  have hB2 : Undo n (elF la n) (elF (fillL n n B) n) := hu.congr (fun _ _ _ _ => rfl) (fun i j hi hj => el_fill n B i j hi hj)
  rw [fillL_congr (f := mulE la n (fillL n n B) n) (g := unitF) (fun i j hi hj => (hB2.one i j hi hj).1)] at cP
  rw [fillL_congr (f := mulE (fillL n n B) n la n) (g := unitF) (fun i j hi hj => (hB2.one i j hi hj).2)] at cQ
  have cPl := fun W (Au : Option Addr) (uc : Nat) => plain26_any n n Au (fillL n n unitF).length uc W
  have hnn : ((n : Int) != (n : Int)) = false := by simp
  have hne : ((n : Int) == (n : Int)) = true := by simp
  have hni : (n : Int) ≤ 32 := by omega
  rw [hr2, hc2] at cS2
  clear hs2 hs2' hr2 hc2 r2 c2
  have CB := Lib.hid hb2
  have hyl : (fillL n n B2).length = n * n := fillL_len _ _ _
  have hmb : mayB n n lb.length = true := by rw [hlb]; exact mayB_sq hn1 hn2
  have hmy : mayB n n (fillL n n B2).length = true := by rw [hyl]; exact mayB_sq hn1 hn2
  have cAB := fun (W : World) (hB : Below w.heap.size w W) => Mul_ok la lb n n n Aa Ab pa pb W (ha.below hB) (hb.below hB) hm hmb hpa hpb
  have cYX := fun (W : World) (Ay Ax : Option Addr) (py px : Nat) (h : RB W (.slice Ay (fillL n n B2).length py) (fillL n n B2)) (h2 : RB W (.slice Ax (fillL n n B).length px) (fillL n n B)) => Mul_ok (fillL n n B2) (fillL n n B) n n n Ay Ax py px W h h2 hmy hmx (rb_cap h) (rb_cap h2)
  have hB3 : Undo n (elF lb n) (elF (fillL n n B2) n) := hu2.congr (fun _ _ _ _ => rfl) (fun i j hi hj => el_fill n B2 i j hi hj)
  have hab : (fillL n n (mulE la n lb n)).length = n * n := fillL_len _ _ _
  have hmab : mayB n n (fillL n n (mulE la n lb n)).length = true := by rw [hab]; exact mayB_sq hn1 hn2
  have hU : Undo n (elF (fillL n n (mulE la n lb n)) n) (mulE (fillL n n B2) n (fillL n n B) n) := (hB2.mul hB3).congr (fun i j hi hj => el_fill n _ i j hi hj) (fun _ _ _ _ => rfl)
  have cZ := fun (W : World) (A : Option Addr) (p : Nat) (h : RB W (.slice A (fillL n n (mulE la n lb n)).length p) (fillL n n (mulE la n lb n))) => Inverse_ok (fillL n n (mulE la n lb n)) n A p W h (rb_cap h) hmab
  have hz : invT (clr n (n + n) (wideM (fillL n n (mulE la n lb n)) n (n + n)) n) n = ((n : Int), (n : Int), fillL n n (mulE (fillL n n B2) n (fillL n n B) n), (0 : Int)) := by
    rcases invT_cases (fillL n n (mulE la n lb n)) n hab with ⟨_, h2⟩ | ⟨Bz, h1, h2, _⟩
    · rw [rank_wide _ n hab] at h2
      have h3 := hU.full
      have h4 := (run_wide nzI picks_nz (fillL n n (mulE la n lb n)) n).2
      rw [← clr_run] at h4
      omega
    · rw [h1, fillL_congr (fun i j hi hj => h2.same hU i j hi hj)]
  rw [hz] at cZ
  generalize fillL n n (mulE (fillL n n B2) n (fillL n n B) n) = zl at *
  generalize fillL n n (mulE la n lb n) = ab at *
  generalize fillL n n B = xl at *
  generalize fillL n n B2 = yl at *
  generalize fillL n n unitF = ul at *
  have cPz := fun W (A : Option Addr) (p : Nat) => plain26_any n n A zl.length p W
  clear ha hb hx hk hl hm hs1 hpa hpb e1 e2 hu hu2 hB2 hB3 hxl hyl hmx hmb hmy hab hmab hU hz hb2 hlb
  go_enter Try.func11, Try.ntmps11
  go_wp2_with (first
    | ((with_reducible refine gDst 2 ?_); refine aBox H _ rfl rfl rfl ?_; clear H; intro b2 w2 H)
    | ((with_reducible refine gDst 3 ?_); refine aBox H _ rfl rfl rfl ?_; clear H; intro b3 w3 H)
    | ((with_reducible refine gDst 5 ?_); refine aAlloc H rfl rfl ?_; clear H; intro b5 w5 H)
    | ((with_reducible refine gDst 7 ?_); refine aAlloc H rfl rfl ?_; clear H; intro b7 w7 H)
    | ((with_reducible refine gDst 9 ?_); refine aAlloc H rfl rfl ?_; clear H; intro b9 w9 H)
    | ((with_reducible refine gDst 11 ?_); refine aAlloc H rfl rfl ?_; clear H; intro b11 w11 H)
    | ((with_reducible refine gDst 13 ?_); refine aAlloc H rfl rfl ?_; clear H; intro b13 w13 H)
    | ((with_reducible refine gDst 15 ?_); refine aAlloc H rfl rfl ?_; clear H; intro b15 w15 H)
    | ((with_reducible refine gDst 17 ?_); refine aAlloc H rfl rfl ?_; clear H; intro b17 w17 H)
    | ((with_reducible refine gDst 19 ?_); refine aAlloc H rfl rfl ?_; clear H; intro b19 w19 H)
    | ((with_reducible refine gLoad ?_); first | (refine aLoad1 H _ rfl rfl (by first | exact (rfl : _ = some (Value.int _ _)) | exact (rfl : _ = some (Value.slice _ _ _)) | exact (rfl : _ = some (Value.bool _)) | exact (rfl : _ = some (Value.string _)) | exact (rfl : _ = some (Value.pointer _)) | rfl | (simp [List.getElem?_append]; done)) rfl ?_) | (refine aLoadR1 RO H _ rfl rfl (by first | exact (rfl : _ = some (Value.int _ _)) | exact (rfl : _ = some (Value.slice _ _ _)) | exact (rfl : _ = some (Value.bool _)) | exact (rfl : _ = some (Value.string _)) | exact (rfl : _ = some (Value.pointer _)) | rfl | (simp [List.getElem?_append]; done)) rfl ?_) | (refine aLoadC _ rfl rfl (by assumption) rfl ?_) | (refine aLoad H _ rfl rfl (by first | exact part_all (by first | rfl | simp []) | (simp only [List.drop_succ_cons, List.drop_zero, List.take_succ_cons, List.take_zero]; rfl) | (simp [List.drop_append, List.take_append]; rfl)) (by first | rfl | simp []) rfl ?_) | (refine aLoadR RO H _ rfl rfl (by first | exact part_all (by first | rfl | simp []) | (simp only [List.drop_succ_cons, List.drop_zero, List.take_succ_cons, List.take_zero]; rfl) | (simp [List.drop_append, List.take_append]; rfl)) (by first | rfl | simp []) rfl ?_))
    | ((with_reducible refine gStore ?_); (first | (refine aStore H _ _ rfl rfl rfl (by (first | exact ⟨rfl, rfl⟩ | exact ⟨by decide, rfl⟩ | (simp []; done) | (constructor <;> simp [] <;> omega))) (by first | rfl | simp [List.all_append, one_all]) rfl ?_) | (refine aLay H _ _ rfl rfl rfl (by (first | exact ⟨rfl, rfl⟩ | exact ⟨by decide, rfl⟩ | (simp []; done) | (constructor <;> simp [] <;> omega))) (by first | rfl | simp [List.all_append, one_all]) (by simp only [lay, List.take_succ_cons, List.take_zero, List.drop_succ_cons, List.drop_zero, List.nil_append, List.cons_append, List.length_cons, List.length_nil, Nat.zero_add, Nat.reduceAdd]; rfl) rfl ?_)); clear H; intro w' H; try dsimp only at H)
    | (go_at_call 19; (with_reducible refine (cS _).mono ?_); rintro e w' ⟨rfl, hb⟩; replace H := H.step hb; clear hb)
    | (go_at_call 19; (with_reducible refine (cS2 _).mono ?_); rintro e w' ⟨rfl, hb⟩; replace H := H.step hb; clear hb)
    | (go_at_call 37; (with_reducible refine (cM _).mono ?_); rintro e w' ⟨rfl, hb⟩; replace H := H.step hb; clear hb)
    | (go_at_call 24; (with_reducible refine (cU _).mono ?_); rintro e w' ⟨Au, uc, rfl, ho, hb⟩; replace H := H.pushRow hb ho; clear hb ho)
    | (go_at_call 29; (with_reducible refine (cI _ H.below).mono ?_); rintro e w' ⟨Ax, px, rfl, ho, hb⟩; replace H := H.pushRow hb ho; clear hb ho))
  refine startA (fun i => false) (by kernel_rfl) (fun wS hS => ?_)
  replace H := H.drew
  rw [← hS] at H
  have HH := H.hold
  have HR := H.old RO
  have HS0 : Below wS.heap.size wS wS := Below.refl _ _
  clear hS
  refine takeP 0 rfl (by kernel_rfl) (by kernel_rfl) (by kernel_rfl) (by kernel_rfl) (fun _ _ _ h => h) rfl (v := ?_) ?_ ?_
  rotate_left
  · intro w'; go_simp; (try with_reducible rfl)
  (try simp only [Act.put, List.setIfInBounds_toArray, List.set_cons_zero, List.set_cons_succ])
  refine takeP 1 rfl (by kernel_rfl) (by kernel_rfl) (by kernel_rfl) (by kernel_rfl) (fun _ _ _ h => h) rfl (v := ?_) ?_ ?_
  rotate_left
  · intro w'; go_simp; (try with_reducible rfl)
  (try simp only [Act.put, List.setIfInBounds_toArray, List.set_cons_zero, List.set_cons_succ])
  refine takeL 2 HS0 rfl (by kernel_rfl) (by kernel_rfl) (by kernel_rfl) (by kernel_rfl) (by kernel_rfl) (fun _ _ _ h => h) rfl (v := ?_) ?_ ?_
  rotate_left
  · intro w' hw'; first | (refine Eq.trans (xLoad (HR.below hw') _ rfl rfl (by first | exact part_all (by first | rfl | simp []) | (simp only [List.drop_succ_cons, List.drop_zero, List.take_succ_cons, List.take_zero]; rfl) | (simp [List.drop_append, List.take_append]; rfl)) (by first | rfl | simp [])) ?_; with_reducible rfl) | (refine Eq.trans (xLoad (HH.below hw') _ rfl rfl (by first | exact part_all (by first | rfl | simp []) | (simp only [List.drop_succ_cons, List.drop_zero, List.take_succ_cons, List.take_zero]; rfl) | (simp [List.drop_append, List.take_append]; rfl)) (by first | rfl | simp [])) ?_; with_reducible rfl)
  (try simp only [Act.put, List.setIfInBounds_toArray, List.set_cons_zero, List.set_cons_succ])
  refine takeP 4 rfl (by kernel_rfl) (by kernel_rfl) (by kernel_rfl) (by kernel_rfl) (fun _ _ _ h => h) rfl (v := ?_) ?_ ?_
  rotate_left
  · intro w'; go_simp; (try with_reducible rfl)
  (try simp only [Act.put, List.setIfInBounds_toArray, List.set_cons_zero, List.set_cons_succ])
  refine takeL 5 HS0 rfl (by kernel_rfl) (by kernel_rfl) (by kernel_rfl) (by kernel_rfl) (by kernel_rfl) (fun _ _ _ h => h) rfl (v := ?_) ?_ ?_
  rotate_left
  · intro w' hw'; first | (refine Eq.trans (xLoad1 (HR.below hw') _ rfl rfl (by first | exact (rfl : _ = some (Value.int _ _)) | exact (rfl : _ = some (Value.slice _ _ _)) | exact (rfl : _ = some (Value.bool _)) | exact (rfl : _ = some (Value.string _)) | exact (rfl : _ = some (Value.pointer _)) | rfl | (simp [List.getElem?_append]; done))) ?_; with_reducible rfl) | (refine Eq.trans (xLoad1 (HH.below hw') _ rfl rfl (by first | exact (rfl : _ = some (Value.int _ _)) | exact (rfl : _ = some (Value.slice _ _ _)) | exact (rfl : _ = some (Value.bool _)) | exact (rfl : _ = some (Value.string _)) | exact (rfl : _ = some (Value.pointer _)) | rfl | (simp [List.getElem?_append]; done))) ?_; with_reducible rfl) | (refine Eq.trans (xLoadC _ rfl rfl (cell_below hw' (by assumption))) ?_; with_reducible rfl)
  (try simp only [Act.put, List.setIfInBounds_toArray, List.set_cons_zero, List.set_cons_succ])
  refine stepL 3 rfl (by kernel_rfl) rfl (fun K hK => ?_)
  (go_simp; (with_reducible refine (cK _ H.below).mono ?_); rintro e w' ⟨rfl, hb⟩; replace H := H.step hb; replace HS0 := below_two HS0 HS0.size hb; clear hb; refine hK.out _ _ (fun _ _ => HS0) ?_; clear K hK)
  (try simp only [Act.put, List.setIfInBounds_toArray, List.set_cons_zero, List.set_cons_succ])
  refine takeP 6 rfl (by kernel_rfl) (by kernel_rfl) (by kernel_rfl) (by kernel_rfl) (fun _ _ _ h => h) rfl (v := ?_) ?_ ?_
  rotate_left
  · intro w'; go_simp; (try with_reducible rfl)
  (try simp only [Act.put, List.setIfInBounds_toArray, List.set_cons_zero, List.set_cons_succ])
  refine takeP 7 rfl (by kernel_rfl) (by kernel_rfl) (by kernel_rfl) (by kernel_rfl) (fun _ _ _ h => h) rfl (v := ?_) ?_ ?_
  rotate_left
  · intro w'; go_simp; (try with_reducible rfl)
  (try simp only [Act.put, List.setIfInBounds_toArray, List.set_cons_zero, List.set_cons_succ])
  refine doneL (by kernel_rfl) ?_
  go_wp2_with (first
    | ((with_reducible refine gDst 2 ?_); refine aBox H _ rfl rfl rfl ?_; clear H; intro b2 w2 H)
    | ((with_reducible refine gDst 3 ?_); refine aBox H _ rfl rfl rfl ?_; clear H; intro b3 w3 H)
    | ((with_reducible refine gDst 5 ?_); refine aAlloc H rfl rfl ?_; clear H; intro b5 w5 H)
    | ((with_reducible refine gDst 7 ?_); refine aAlloc H rfl rfl ?_; clear H; intro b7 w7 H)
    | ((with_reducible refine gDst 9 ?_); refine aAlloc H rfl rfl ?_; clear H; intro b9 w9 H)
    | ((with_reducible refine gDst 11 ?_); refine aAlloc H rfl rfl ?_; clear H; intro b11 w11 H)
    | ((with_reducible refine gDst 13 ?_); refine aAlloc H rfl rfl ?_; clear H; intro b13 w13 H)
    | ((with_reducible refine gDst 15 ?_); refine aAlloc H rfl rfl ?_; clear H; intro b15 w15 H)
    | ((with_reducible refine gDst 17 ?_); refine aAlloc H rfl rfl ?_; clear H; intro b17 w17 H)
    | ((with_reducible refine gDst 19 ?_); refine aAlloc H rfl rfl ?_; clear H; intro b19 w19 H)
    | ((with_reducible refine gLoad ?_); first | (refine aLoad1 H _ rfl rfl (by first | exact (rfl : _ = some (Value.int _ _)) | exact (rfl : _ = some (Value.slice _ _ _)) | exact (rfl : _ = some (Value.bool _)) | exact (rfl : _ = some (Value.string _)) | exact (rfl : _ = some (Value.pointer _)) | rfl | (simp [List.getElem?_append]; done)) rfl ?_) | (refine aLoadR1 RO H _ rfl rfl (by first | exact (rfl : _ = some (Value.int _ _)) | exact (rfl : _ = some (Value.slice _ _ _)) | exact (rfl : _ = some (Value.bool _)) | exact (rfl : _ = some (Value.string _)) | exact (rfl : _ = some (Value.pointer _)) | rfl | (simp [List.getElem?_append]; done)) rfl ?_) | (refine aLoadC _ rfl rfl (by assumption) rfl ?_) | (refine aLoad H _ rfl rfl (by first | exact part_all (by first | rfl | simp []) | (simp only [List.drop_succ_cons, List.drop_zero, List.take_succ_cons, List.take_zero]; rfl) | (simp [List.drop_append, List.take_append]; rfl)) (by first | rfl | simp []) rfl ?_) | (refine aLoadR RO H _ rfl rfl (by first | exact part_all (by first | rfl | simp []) | (simp only [List.drop_succ_cons, List.drop_zero, List.take_succ_cons, List.take_zero]; rfl) | (simp [List.drop_append, List.take_append]; rfl)) (by first | rfl | simp []) rfl ?_))
    | ((with_reducible refine gStore ?_); (first | (refine aStore H _ _ rfl rfl rfl (by (first | exact ⟨rfl, rfl⟩ | exact ⟨by decide, rfl⟩ | (simp []; done) | (constructor <;> simp [] <;> omega))) (by first | rfl | simp [List.all_append, one_all]) rfl ?_) | (refine aLay H _ _ rfl rfl rfl (by (first | exact ⟨rfl, rfl⟩ | exact ⟨by decide, rfl⟩ | (simp []; done) | (constructor <;> simp [] <;> omega))) (by first | rfl | simp [List.all_append, one_all]) (by simp only [lay, List.take_succ_cons, List.take_zero, List.drop_succ_cons, List.drop_zero, List.nil_append, List.cons_append, List.length_cons, List.length_nil, Nat.zero_add, Nat.reduceAdd]; rfl) rfl ?_)); clear H; intro w' H; try dsimp only at H)
    | (go_at_call 33; (with_reducible refine (cP _ Ax px H.below (H.hold.rd _)).mono ?_); rintro e w' ⟨Ap, pp, rfl, ho, hb⟩; replace H := H.pushRow hb ho; clear hb ho)
    | (go_at_call 33; (with_reducible refine (cQ _ Ax px H.below (H.hold.rd _)).mono ?_); rintro e w' ⟨Aq, pq, rfl, ho, hb⟩; replace H := H.pushRow hb ho; clear hb ho))
  refine startA (fun i => false) (by kernel_rfl) (fun wS hS => ?_)
  replace H := H.drew
  rw [← hS] at H
  have HH := H.hold
  have HR := H.old RO
  have HS0 : Below wS.heap.size wS wS := Below.refl _ _
  clear hS
  refine takeP 0 rfl (by kernel_rfl) (by kernel_rfl) (by kernel_rfl) (by kernel_rfl) (fun _ _ _ h => h) rfl (v := ?_) ?_ ?_
  rotate_left
  · intro w'; go_simp; (try with_reducible rfl)
  (try simp only [Act.put, List.setIfInBounds_toArray, List.set_cons_zero, List.set_cons_succ])
  refine takeP 1 rfl (by kernel_rfl) (by kernel_rfl) (by kernel_rfl) (by kernel_rfl) (fun _ _ _ h => h) rfl (v := ?_) ?_ ?_
  rotate_left
  · intro w'; go_simp; (try with_reducible rfl)
  (try simp only [Act.put, List.setIfInBounds_toArray, List.set_cons_zero, List.set_cons_succ])
  refine takeP 2 rfl (by kernel_rfl) (by kernel_rfl) (by kernel_rfl) (by kernel_rfl) (fun _ _ _ h => h) rfl (v := ?_) ?_ ?_
  rotate_left
  · intro w'; go_simp; (try with_reducible rfl)
  (try simp only [Act.put, List.setIfInBounds_toArray, List.set_cons_zero, List.set_cons_succ])
  refine takeP 3 rfl (by kernel_rfl) (by kernel_rfl) (by kernel_rfl) (by kernel_rfl) (fun _ _ _ h => h) rfl (v := ?_) ?_ ?_
  rotate_left
  · intro w'; go_simp; (try with_reducible rfl)
  (try simp only [Act.put, List.setIfInBounds_toArray, List.set_cons_zero, List.set_cons_succ])
  refine takeP 4 rfl (by kernel_rfl) (by kernel_rfl) (by kernel_rfl) (by kernel_rfl) (fun _ _ _ h => h) rfl (v := ?_) ?_ ?_
  rotate_left
  · intro w'; go_simp; (try with_reducible rfl)
  (try simp only [Act.put, List.setIfInBounds_toArray, List.set_cons_zero, List.set_cons_succ])
  refine takeP 5 rfl (by kernel_rfl) (by kernel_rfl) (by kernel_rfl) (by kernel_rfl) (fun _ _ _ h => h) rfl (v := ?_) ?_ ?_
  rotate_left
  · intro w'; go_simp; (try with_reducible rfl)
  (try simp only [Act.put, List.setIfInBounds_toArray, List.set_cons_zero, List.set_cons_succ])
  refine takeP 6 rfl (by kernel_rfl) (by kernel_rfl) (by kernel_rfl) (by kernel_rfl) (fun _ _ _ h => h) rfl (v := ?_) ?_ ?_
  rotate_left
  · intro w'; go_simp; (try with_reducible rfl)
  (try simp only [Act.put, List.setIfInBounds_toArray, List.set_cons_zero, List.set_cons_succ])
  refine takeL 7 HS0 rfl (by kernel_rfl) (by kernel_rfl) (by kernel_rfl) (by kernel_rfl) (by kernel_rfl) (fun _ _ _ h => h) rfl (v := ?_) ?_ ?_
  rotate_left
  · intro w' hw'; first | (refine Eq.trans (xLoad (HR.below hw') _ rfl rfl (by first | exact part_all (by first | rfl | simp []) | (simp only [List.drop_succ_cons, List.drop_zero, List.take_succ_cons, List.take_zero]; rfl) | (simp [List.drop_append, List.take_append]; rfl)) (by first | rfl | simp [])) ?_; with_reducible rfl) | (refine Eq.trans (xLoad (HH.below hw') _ rfl rfl (by first | exact part_all (by first | rfl | simp []) | (simp only [List.drop_succ_cons, List.drop_zero, List.take_succ_cons, List.take_zero]; rfl) | (simp [List.drop_append, List.take_append]; rfl)) (by first | rfl | simp [])) ?_; with_reducible rfl)
  (try simp only [Act.put, List.setIfInBounds_toArray, List.set_cons_zero, List.set_cons_succ])
  refine takeL 8 HS0 rfl (by kernel_rfl) (by kernel_rfl) (by kernel_rfl) (by kernel_rfl) (by kernel_rfl) (fun _ _ _ h => h) rfl (v := ?_) ?_ ?_
  rotate_left
  · intro w' hw'; first | (refine Eq.trans (xLoad (HR.below hw') _ rfl rfl (by first | exact part_all (by first | rfl | simp []) | (simp only [List.drop_succ_cons, List.drop_zero, List.take_succ_cons, List.take_zero]; rfl) | (simp [List.drop_append, List.take_append]; rfl)) (by first | rfl | simp [])) ?_; with_reducible rfl) | (refine Eq.trans (xLoad (HH.below hw') _ rfl rfl (by first | exact part_all (by first | rfl | simp []) | (simp only [List.drop_succ_cons, List.drop_zero, List.take_succ_cons, List.take_zero]; rfl) | (simp [List.drop_append, List.take_append]; rfl)) (by first | rfl | simp [])) ?_; with_reducible rfl)
  (try simp only [Act.put, List.setIfInBounds_toArray, List.set_cons_zero, List.set_cons_succ])
  refine stepL 9 rfl (by kernel_rfl) rfl (fun K hK => ?_)
  (go_simp; (with_reducible refine (cPl _ _ _).mono ?_); rintro e w' ⟨rfl, hb⟩; replace H := H.step hb; replace HS0 := below_two HS0 HS0.size hb; clear hb; refine hK.out _ _ (fun _ _ => HS0) ?_; clear K hK)
  (try simp only [Act.put, List.setIfInBounds_toArray, List.set_cons_zero, List.set_cons_succ])
  refine stepL 10 rfl (by kernel_rfl) rfl (fun K hK => ?_)
  (go_simp; (with_reducible refine (same_true n n Ap Au _ _ pp uc ul _ (H.hold.rd _) (H.hold.rd _)).mono ?_); rintro e w' ⟨rfl, hb⟩; replace H := H.step hb; replace HS0 := below_two HS0 HS0.size hb; clear hb; refine hK.out _ _ (fun _ _ => HS0) ?_; clear K hK)
  (try simp only [Act.put, List.setIfInBounds_toArray, List.set_cons_zero, List.set_cons_succ])
  refine takeP 11 rfl (by kernel_rfl) (by kernel_rfl) (by kernel_rfl) (by kernel_rfl) (fun _ _ _ h => h) rfl (v := ?_) ?_ ?_
  rotate_left
  · intro w'; go_simp; (try with_reducible rfl)
  (try simp only [Act.put, List.setIfInBounds_toArray, List.set_cons_zero, List.set_cons_succ])
  refine takeP 12 rfl (by kernel_rfl) (by kernel_rfl) (by kernel_rfl) (by kernel_rfl) (fun _ _ _ h => h) rfl (v := ?_) ?_ ?_
  rotate_left
  · intro w'; go_simp; (try with_reducible rfl)
  (try simp only [Act.put, List.setIfInBounds_toArray, List.set_cons_zero, List.set_cons_succ])
  refine takeP 13 rfl (by kernel_rfl) (by kernel_rfl) (by kernel_rfl) (by kernel_rfl) (fun _ _ _ h => h) rfl (v := ?_) ?_ ?_
  rotate_left
  · intro w'; go_simp; (try with_reducible rfl)
  (try simp only [Act.put, List.setIfInBounds_toArray, List.set_cons_zero, List.set_cons_succ])
  refine takeL 14 HS0 rfl (by kernel_rfl) (by kernel_rfl) (by kernel_rfl) (by kernel_rfl) (by kernel_rfl) (fun _ _ _ h => h) rfl (v := ?_) ?_ ?_
  rotate_left
  · intro w' hw'; first | (refine Eq.trans (xLoad (HR.below hw') _ rfl rfl (by first | exact part_all (by first | rfl | simp []) | (simp only [List.drop_succ_cons, List.drop_zero, List.take_succ_cons, List.take_zero]; rfl) | (simp [List.drop_append, List.take_append]; rfl)) (by first | rfl | simp [])) ?_; with_reducible rfl) | (refine Eq.trans (xLoad (HH.below hw') _ rfl rfl (by first | exact part_all (by first | rfl | simp []) | (simp only [List.drop_succ_cons, List.drop_zero, List.take_succ_cons, List.take_zero]; rfl) | (simp [List.drop_append, List.take_append]; rfl)) (by first | rfl | simp [])) ?_; with_reducible rfl)
  (try simp only [Act.put, List.setIfInBounds_toArray, List.set_cons_zero, List.set_cons_succ])
  refine takeL 15 HS0 rfl (by kernel_rfl) (by kernel_rfl) (by kernel_rfl) (by kernel_rfl) (by kernel_rfl) (fun _ _ _ h => h) rfl (v := ?_) ?_ ?_
  rotate_left
  · intro w' hw'; first | (refine Eq.trans (xLoad (HR.below hw') _ rfl rfl (by first | exact part_all (by first | rfl | simp []) | (simp only [List.drop_succ_cons, List.drop_zero, List.take_succ_cons, List.take_zero]; rfl) | (simp [List.drop_append, List.take_append]; rfl)) (by first | rfl | simp [])) ?_; with_reducible rfl) | (refine Eq.trans (xLoad (HH.below hw') _ rfl rfl (by first | exact part_all (by first | rfl | simp []) | (simp only [List.drop_succ_cons, List.drop_zero, List.take_succ_cons, List.take_zero]; rfl) | (simp [List.drop_append, List.take_append]; rfl)) (by first | rfl | simp [])) ?_; with_reducible rfl)
  (try simp only [Act.put, List.setIfInBounds_toArray, List.set_cons_zero, List.set_cons_succ])
  refine stepL 16 rfl (by kernel_rfl) rfl (fun K hK => ?_)
  (go_simp; (with_reducible refine (cPl _ _ _).mono ?_); rintro e w' ⟨rfl, hb⟩; replace H := H.step hb; replace HS0 := below_two HS0 HS0.size hb; clear hb; refine hK.out _ _ (fun _ _ => HS0) ?_; clear K hK)
  (try simp only [Act.put, List.setIfInBounds_toArray, List.set_cons_zero, List.set_cons_succ])
  refine stepL 17 rfl (by kernel_rfl) rfl (fun K hK => ?_)
  (go_simp; (with_reducible refine (same_true n n Aq Au _ _ pq uc ul _ (H.hold.rd _) (H.hold.rd _)).mono ?_); rintro e w' ⟨rfl, hb⟩; replace H := H.step hb; replace HS0 := below_two HS0 HS0.size hb; clear hb; refine hK.out _ _ (fun _ _ => HS0) ?_; clear K hK)
  (try simp only [Act.put, List.setIfInBounds_toArray, List.set_cons_zero, List.set_cons_succ])
  refine takeP 18 rfl (by kernel_rfl) (by kernel_rfl) (by kernel_rfl) (by kernel_rfl) (fun _ _ _ h => h) rfl (v := ?_) ?_ ?_
  rotate_left
  · intro w'; go_simp; (try with_reducible rfl)
  (try simp only [Act.put, List.setIfInBounds_toArray, List.set_cons_zero, List.set_cons_succ])
  refine takeP 19 rfl (by kernel_rfl) (by kernel_rfl) (by kernel_rfl) (by kernel_rfl) (fun _ _ _ h => h) rfl (v := ?_) ?_ ?_
  rotate_left
  · intro w'; go_simp; (try with_reducible rfl)
  (try simp only [Act.put, List.setIfInBounds_toArray, List.set_cons_zero, List.set_cons_succ])
  refine doneL (by kernel_rfl) ?_
  go_wp2_with (first
    | ((with_reducible refine gDst 2 ?_); refine aBox H _ rfl rfl rfl ?_; clear H; intro b2 w2 H)
    | ((with_reducible refine gDst 3 ?_); refine aBox H _ rfl rfl rfl ?_; clear H; intro b3 w3 H)
    | ((with_reducible refine gDst 5 ?_); refine aAlloc H rfl rfl ?_; clear H; intro b5 w5 H)
    | ((with_reducible refine gDst 7 ?_); refine aAlloc H rfl rfl ?_; clear H; intro b7 w7 H)
    | ((with_reducible refine gDst 9 ?_); refine aAlloc H rfl rfl ?_; clear H; intro b9 w9 H)
    | ((with_reducible refine gDst 11 ?_); refine aAlloc H rfl rfl ?_; clear H; intro b11 w11 H)
    | ((with_reducible refine gDst 13 ?_); refine aAlloc H rfl rfl ?_; clear H; intro b13 w13 H)
    | ((with_reducible refine gDst 15 ?_); refine aAlloc H rfl rfl ?_; clear H; intro b15 w15 H)
    | ((with_reducible refine gDst 17 ?_); refine aAlloc H rfl rfl ?_; clear H; intro b17 w17 H)
    | ((with_reducible refine gDst 19 ?_); refine aAlloc H rfl rfl ?_; clear H; intro b19 w19 H)
    | ((with_reducible refine gLoad ?_); first | (refine aLoad1 H _ rfl rfl (by first | exact (rfl : _ = some (Value.int _ _)) | exact (rfl : _ = some (Value.slice _ _ _)) | exact (rfl : _ = some (Value.bool _)) | exact (rfl : _ = some (Value.string _)) | exact (rfl : _ = some (Value.pointer _)) | rfl | (simp [List.getElem?_append]; done)) rfl ?_) | (refine aLoadR1 RO H _ rfl rfl (by first | exact (rfl : _ = some (Value.int _ _)) | exact (rfl : _ = some (Value.slice _ _ _)) | exact (rfl : _ = some (Value.bool _)) | exact (rfl : _ = some (Value.string _)) | exact (rfl : _ = some (Value.pointer _)) | rfl | (simp [List.getElem?_append]; done)) rfl ?_) | (refine aLoadC _ rfl rfl (by assumption) rfl ?_) | (refine aLoad H _ rfl rfl (by first | exact part_all (by first | rfl | simp []) | (simp only [List.drop_succ_cons, List.drop_zero, List.take_succ_cons, List.take_zero]; rfl) | (simp [List.drop_append, List.take_append]; rfl)) (by first | rfl | simp []) rfl ?_) | (refine aLoadR RO H _ rfl rfl (by first | exact part_all (by first | rfl | simp []) | (simp only [List.drop_succ_cons, List.drop_zero, List.take_succ_cons, List.take_zero]; rfl) | (simp [List.drop_append, List.take_append]; rfl)) (by first | rfl | simp []) rfl ?_))
    | ((with_reducible refine gStore ?_); (first | (refine aStore H _ _ rfl rfl rfl (by (first | exact ⟨rfl, rfl⟩ | exact ⟨by decide, rfl⟩ | (simp []; done) | (constructor <;> simp [] <;> omega))) (by first | rfl | simp [List.all_append, one_all]) rfl ?_) | (refine aLay H _ _ rfl rfl rfl (by (first | exact ⟨rfl, rfl⟩ | exact ⟨by decide, rfl⟩ | (simp []; done) | (constructor <;> simp [] <;> omega))) (by first | rfl | simp [List.all_append, one_all]) (by simp only [lay, List.take_succ_cons, List.take_zero, List.drop_succ_cons, List.drop_zero, List.nil_append, List.cons_append, List.length_cons, List.length_nil, Nat.zero_add, Nat.reduceAdd]; rfl) rfl ?_)); clear H; intro w' H; try dsimp only at H)
    | (go_at_call 29; (with_reducible refine (CB.out _ ((H.old RO).rd _)).mono ?_); rintro e w' ⟨Ay, py, rfl, ho, hb⟩; replace H := H.pushRow hb ho; clear hb ho)
    | (go_at_call 33; (with_reducible refine (cAB _ H.below).mono ?_); rintro e w' ⟨Aab, pab, rfl, ho, hb⟩; replace H := H.pushRow hb ho; clear hb ho)
    | (go_at_call 29; (with_reducible refine (cZ _ Aab pab (H.hold.rd _)).mono ?_); rintro e w' ⟨Az, pz, rfl, ho, hb⟩; replace H := H.pushRow hb ho; clear hb ho)
    | (go_at_call 33; (with_reducible refine (cYX _ Ay Ax py px (H.hold.rd _) (H.hold.rd _)).mono ?_); rintro e w' ⟨Ayx, pyx, rfl, ho, hb⟩; replace H := H.pushRow hb ho; clear hb ho))
  refine startA (fun i => false) (by kernel_rfl) (fun wS hS => ?_)
  replace H := H.drew
  rw [← hS] at H
  have HH := H.hold
  have HR := H.old RO
  have HS0 : Below wS.heap.size wS wS := Below.refl _ _
  clear hS
  refine stepL 0 rfl (by kernel_rfl) rfl (fun K hK => ?_)
  (go_simp; (with_reducible refine (cL _).mono ?_); rintro e w' ⟨rfl, hb⟩; replace H := H.step hb; replace HS0 := below_two HS0 HS0.size hb; clear hb; refine hK.out _ _ (fun _ _ => HS0) ?_; clear K hK)
  (try simp only [Act.put, List.setIfInBounds_toArray, List.set_cons_zero, List.set_cons_succ])
  refine takeP 1 rfl (by kernel_rfl) (by kernel_rfl) (by kernel_rfl) (by kernel_rfl) (fun _ _ _ h => h) rfl (v := ?_) ?_ ?_
  rotate_left
  · intro w'; go_simp; (try with_reducible rfl)
  (try simp only [Act.put, List.setIfInBounds_toArray, List.set_cons_zero, List.set_cons_succ])
  refine takeP 2 rfl (by kernel_rfl) (by kernel_rfl) (by kernel_rfl) (by kernel_rfl) (fun _ _ _ h => h) rfl (v := ?_) ?_ ?_
  rotate_left
  · intro w'; go_simp; (try with_reducible rfl)
  (try simp only [Act.put, List.setIfInBounds_toArray, List.set_cons_zero, List.set_cons_succ])
  refine takeP 3 rfl (by kernel_rfl) (by kernel_rfl) (by kernel_rfl) (by kernel_rfl) (fun _ _ _ h => h) rfl (v := ?_) ?_ ?_
  rotate_left
  · intro w'; go_simp; (try with_reducible rfl)
  (try simp only [Act.put, List.setIfInBounds_toArray, List.set_cons_zero, List.set_cons_succ])
  refine takeP 4 rfl (by kernel_rfl) (by kernel_rfl) (by kernel_rfl) (by kernel_rfl) (fun _ _ _ h => h) rfl (v := ?_) ?_ ?_
  rotate_left
  · intro w'; go_simp; (try with_reducible rfl)
  (try simp only [Act.put, List.setIfInBounds_toArray, List.set_cons_zero, List.set_cons_succ])
  refine takeP 5 rfl (by kernel_rfl) (by kernel_rfl) (by kernel_rfl) (by kernel_rfl) (fun _ _ _ h => h) rfl (v := ?_) ?_ ?_
  rotate_left
  · intro w'; go_simp; (try with_reducible rfl)
  (try simp only [Act.put, List.setIfInBounds_toArray, List.set_cons_zero, List.set_cons_succ])
  refine takeL 6 HS0 rfl (by kernel_rfl) (by kernel_rfl) (by kernel_rfl) (by kernel_rfl) (by kernel_rfl) (fun _ _ _ h => h) rfl (v := ?_) ?_ ?_
  rotate_left
  · intro w' hw'; first | (refine Eq.trans (xLoad (HR.below hw') _ rfl rfl (by first | exact part_all (by first | rfl | simp []) | (simp only [List.drop_succ_cons, List.drop_zero, List.take_succ_cons, List.take_zero]; rfl) | (simp [List.drop_append, List.take_append]; rfl)) (by first | rfl | simp [])) ?_; with_reducible rfl) | (refine Eq.trans (xLoad (HH.below hw') _ rfl rfl (by first | exact part_all (by first | rfl | simp []) | (simp only [List.drop_succ_cons, List.drop_zero, List.take_succ_cons, List.take_zero]; rfl) | (simp [List.drop_append, List.take_append]; rfl)) (by first | rfl | simp [])) ?_; with_reducible rfl)
  (try simp only [Act.put, List.setIfInBounds_toArray, List.set_cons_zero, List.set_cons_succ])
  refine takeL 7 HS0 rfl (by kernel_rfl) (by kernel_rfl) (by kernel_rfl) (by kernel_rfl) (by kernel_rfl) (fun _ _ _ h => h) rfl (v := ?_) ?_ ?_
  rotate_left
  · intro w' hw'; first | (refine Eq.trans (xLoad (HR.below hw') _ rfl rfl (by first | exact part_all (by first | rfl | simp []) | (simp only [List.drop_succ_cons, List.drop_zero, List.take_succ_cons, List.take_zero]; rfl) | (simp [List.drop_append, List.take_append]; rfl)) (by first | rfl | simp [])) ?_; with_reducible rfl) | (refine Eq.trans (xLoad (HH.below hw') _ rfl rfl (by first | exact part_all (by first | rfl | simp []) | (simp only [List.drop_succ_cons, List.drop_zero, List.take_succ_cons, List.take_zero]; rfl) | (simp [List.drop_append, List.take_append]; rfl)) (by first | rfl | simp [])) ?_; with_reducible rfl)
  (try simp only [Act.put, List.setIfInBounds_toArray, List.set_cons_zero, List.set_cons_succ])
  refine stepL 8 rfl (by kernel_rfl) rfl (fun K hK => ?_)
  (go_simp; (with_reducible refine (cPz _ _ _).mono ?_); rintro e w' ⟨rfl, hb⟩; replace H := H.step hb; replace HS0 := below_two HS0 HS0.size hb; clear hb; refine hK.out _ _ (fun _ _ => HS0) ?_; clear K hK)
  (try simp only [Act.put, List.setIfInBounds_toArray, List.set_cons_zero, List.set_cons_succ])
  refine stepL 9 rfl (by kernel_rfl) rfl (fun K hK => ?_)
  (go_simp; (with_reducible refine (same_true n n Az Ayx _ _ pz pyx zl _ (H.hold.rd _) (H.hold.rd _)).mono ?_); rintro e w' ⟨rfl, hb⟩; replace H := H.step hb; replace HS0 := below_two HS0 HS0.size hb; clear hb; refine hK.out _ _ (fun _ _ => HS0) ?_; clear K hK)
  (try simp only [Act.put, List.setIfInBounds_toArray, List.set_cons_zero, List.set_cons_succ])
  refine takeP 10 rfl (by kernel_rfl) (by kernel_rfl) (by kernel_rfl) (by kernel_rfl) (fun _ _ _ h => h) rfl (v := ?_) ?_ ?_
  rotate_left
  · intro w'; go_simp; (try with_reducible rfl)
  (try simp only [Act.put, List.setIfInBounds_toArray, List.set_cons_zero, List.set_cons_succ])
  refine takeP 11 rfl (by kernel_rfl) (by kernel_rfl) (by kernel_rfl) (by kernel_rfl) (fun _ _ _ h => h) rfl (v := ?_) ?_ ?_
  rotate_left
  · intro w'; go_simp; (try with_reducible rfl)
  (try simp only [Act.put, List.setIfInBounds_toArray, List.set_cons_zero, List.set_cons_succ])
  refine doneL (by kernel_rfl) ?_
  go_wp2
  go_ret
  exact ⟨rfl, H.below⟩
theorem MatrixUndone_any (r c r2 c2 : Int) (la lb : List UInt8) (Aa Ab : Option Addr) (pa pb : Nat) (w : World) (ha : RB w (.slice Aa la.length pa) la) (hpa : la.length ≤ pa) (hb : RB w (.slice Ab lb.length pb) lb) (hpb : lb.length ≤ pb) :
    Calls Try.prog 11 #[.agg (mxT.enc (r, c, Aa, la.length, pa)).toArray, .agg (mxT.enc (r2, c2, Ab, lb.length, pb)).toArray] w fun e w' => e = .returned (.bool true) ∧ Below w.heap.size w w' := by
  cases hs1 : smallB r c la.length with
  | false => exact Undone_early r c r2 c2 la lb Aa Ab pa pb w ha hb (.inl hs1)
  | true =>
    cases hs2 : smallB r2 c2 lb.length with
    | false => exact Undone_early r c r2 c2 la lb Aa Ab pa pb w ha hb (.inr (.inl ⟨hs1, hs2⟩))
    | true =>
      cases hm : mayB r c la.length with
      | false => exact Undone_early r c r2 c2 la lb Aa Ab pa pb w ha hb (.inr (.inr (.inl ⟨hs1, hs2, hm⟩)))
      | true =>
        cases hrc : (r == c) with
        | false => exact Undone_early r c r2 c2 la lb Aa Ab pa pb w ha hb (.inr (.inr (.inr ⟨hs1, hs2, hm, hrc⟩)))
        | true =>
          obtain rfl := beq_iff_eq.1 hrc
          obtain ⟨n, n', rfl, e, h1, h2, _, _, hl⟩ := mayB_ok hm
          obtain rfl : n = n' := by omega
          rcases invT_cases la n hl with ⟨hx, hk⟩ | ⟨B, hx, hu, hk⟩
          · exact Undone_none n r2 c2 la lb Aa Ab pa pb w ha hb hpa hs1 hs2 hm hx hk
          · obtain ⟨x2, hx2, hc⟩ := Inverse_told lb r2 c2 Ab pb hpb
            rcases hc with hc | ⟨n2, B2, rfl, rfl, _, _, hlb, rfl, hu2⟩
            · exact Undone_other n r2 c2 B x2 la lb Aa Ab pa pb w ha hb hpa hs1 hs2 hm hx hu hk hx2 (.inl (by rcases hc with h | h <;> rw [h] <;> rfl))
            · by_cases hn : n2 = n
              · subst hn
                exact Undone_full n2 B B2 la lb Aa Ab pa pb w ha hb hpa hpb hs1 hs2 hm hx hu hk hlb hu2 hx2
              · exact Undone_other n n2 n2 B _ la lb Aa Ab pa pb w ha hb hpa hs1 hs2 hm hx hu hk hx2 (.inr ⟨rfl, by simp; omega⟩)
end Go.Proofs.Ytfnneneaalaagaa

namespace Go.Proofs.Ytfnneneaalaagaa
set_option maxRecDepth 100000
open Go.RowKit Go.ChangeShapes Go.WideShapes

theorem wf_u8 {a : Int} (h : (Lit.int .u8 a).wf = true) : ∃ x : UInt8, a = (x.toNat : Int) := by
  simp [Lit.wf, IntKind.min, IntKind.max, IntKind.bits, IntKind.signed] at h
  refine ⟨UInt8.ofNat a.toNat, ?_⟩
  rw [UInt8.toNat_ofNat']
  omega
theorem wf_u32 {a : Int} (h : (Lit.int .u32 a).wf = true) : ∃ n : Nat, a = (n : Int) ∧ n < 4294967296 := by
  simp [Lit.wf, IntKind.min, IntKind.max, IntKind.bits, IntKind.signed] at h
  exact ⟨a.toNat, by omega, by omega⟩
theorem wf_u64 {a : Int} (h : (Lit.int .u64 a).wf = true) : ∃ n : Nat, a = (n : Int) ∧ n < 18446744073709551616 := by
  simp [Lit.wf, IntKind.min, IntKind.max, IntKind.bits, IntKind.signed] at h
  exact ⟨a.toNat, by omega, by omega⟩
theorem wf_i64 {a : Int} (h : (Lit.int .i64 a).wf = true) : -9223372036854775808 ≤ a ∧ a ≤ 9223372036854775807 := by
  simp [Lit.wf, IntKind.min, IntKind.max, IntKind.bits, IntKind.signed] at h
  omega

/-- A slice of bytes that came in. -/
theorem open_bytes {H : Type} {enc : TypeId × Value → H} {P : Program} {W : World} {base : Nat} {spare : Nat → Bool} {held : Bool} {t e : TypeId} {a : Option Addr} {len cap : Nat} {d : DataW H} {ps : List MemPlace}
    (hu : P.underlying t = some (.slice e)) (he : P.underlying e = some (.int .u8)) (hc : P.cellsOf e = 1)
    (h : DataW.Trod enc P W base spare held t (.slice a len cap) d ps) : ∃ xs : List UInt8, RR (U8 e) W (.slice a len cap) xs := by
  obtain ⟨fuel, hf⟩ := h
  rcases open_ints hu he hc hf with ⟨hcs, _⟩ | ⟨x, l, c, zs, hcs, _, hl, hm, hz, _, hcell, hwz⟩
  · simp [Value.cells] at hcs
    obtain ⟨rfl, rfl, rfl⟩ := hcs
    exact ⟨[], RR.nil W⟩
  · simp [Value.cells] at hcs
    obtain ⟨rfl, rfl, rfl⟩ := hcs
    have hlz : len ≤ zs.length := by
      rw [hz]
      split
      · exact hl
      · exact Nat.le_refl _
    have hz2 : ((zs.take len).map fun n => UInt8.ofNat n.toNat).length = len := by simp; omega
    refine ⟨(zs.take len).map fun n => UInt8.ofNat n.toNat, some x, cap, by rw [hz2], by omega, by simp only [maxLen] at hm; omega, fun _ => ⟨x, rfl, fun j u hj => ?_⟩⟩
    rw [U8_all] at hj
    have hjl : j < len := by have := (List.getElem?_eq_some_iff.1 hj).1; simp at this; omega
    rw [hcell j (by omega), ← hj]
    simp only [List.map_map, List.getElem?_map, List.getElem?_take, hjl, if_true, List.getElem?_eq_getElem (show j < zs.length by omega), Option.map_some, Function.comp_apply, cb, List.getD_eq_getElem?_getD, Option.getD_some]
    obtain ⟨b, hb⟩ := wf_u8 (hwz zs[j] (List.getElem_mem _))
    rw [hb]
    simp
end Go.Proofs.Ytfnneneaalaagaa

namespace Go.Proofs.Ytfnneneaalaagaa
set_option maxRecDepth 100000
open Go.RowKit Go.ChangeShapes Go.WideShapes

theorem trod_leaf {H : Type} {enc : TypeId × Value → H} {P : Program} {W : World} {base : Nat} {spare : Nat → Bool} {held : Bool} {t : TypeId} {k : IntKind} {cs : List Value} {x : DataW H × List MemPlace} {fuel : Nat}
    (hu : P.underlying t = some (.int k)) (h : DataW.trod enc P W base spare held fuel t cs = some x) : ∃ n, cs = [.int k n] ∧ (Lit.int k n).wf = true := by
  cases fuel with
  | zero => simp [DataW.trod] at h
  | succ fuel =>
    rcases cs with _ | ⟨v, _ | ⟨u, r⟩⟩
    · simp [DataW.trod, hu] at h
    · cases v <;> simp [DataW.trod, hu] at h
      rename_i k' n
      obtain ⟨⟨rfl, h1⟩, _⟩ := h
      exact ⟨n, rfl, h1⟩
    · simp [DataW.trod, hu] at h
theorem mapM_each {β γ : Type} (f : β → Option γ) : ∀ (l : List β) (r : List γ), l.mapM f = some r → ∀ x ∈ l, ∃ y, f x = some y
  | [], _, _, x, hx => by simp at hx
  | b :: l, r, h, x, hx => by
    simp only [List.mapM_cons, Option.bind_eq_bind, Option.pure_def] at h
    cases hb : f b with
    | none => simp [hb] at h
    | some y =>
      cases hl : l.mapM f with
      | none => simp [hb, hl] at h
      | some ys =>
        rcases List.mem_cons.mp hx with rfl | hx
        · exact ⟨y, hb⟩
        · exact mapM_each f l ys hl x hx
/-- A row of m elements, each one of which reads. -/
theorem trod_array {H : Type} {enc : TypeId × Value → H} {P : Program} {W : World} {base : Nat} {spare : Nat → Bool} {held : Bool} {t e : TypeId} {m : Nat} {cs : List Value} {x : DataW H × List MemPlace} {fuel : Nat}
    (hu : P.underlying t = some (.array m e)) (h : DataW.trod enc P W base spare held (fuel + 1) t cs = some x) :
    cs.length = P.cellsOf t ∧ ∀ i, i < m → ∃ y, DataW.trod enc P W base spare held fuel e ((cs.drop (i * P.cellsOf e)).take (P.cellsOf e)) = some y := by
  unfold DataW.trod at h
  rw [hu] at h
  simp only at h
  split at h
  · rename_i hl
    refine ⟨hl, fun i hi => ?_⟩
    cases hm : (List.range m).mapM fun i => DataW.trod enc P W base spare held fuel e ((cs.drop (i * P.cellsOf e)).take (P.cellsOf e)) with
    | none => simp [hm] at h
    | some r => exact mapM_each _ _ _ hm i (by simpa using hi)
  · cases h
theorem trod_fields {H : Type} {enc : TypeId × Value → H} {P : Program} {W : World} {base : Nat} {spare : Nat → Bool} {held : Bool} {t : TypeId} {fs : Array Field} {cs : List Value} {x : DataW H × List MemPlace} {fuel : Nat}
    (hu : P.underlying t = some (.struct fs)) (h : DataW.trod enc P W base spare held (fuel + 1) t cs = some x) :
    cs.length = P.cellsOf t ∧ ∀ f ∈ fs.toList, ∃ y, DataW.trod enc P W base spare held fuel f.type ((cs.drop f.offset).take (P.cellsOf f.type)) = some y := by
  unfold DataW.trod at h
  rw [hu] at h
  simp only at h
  split at h
  · rename_i hl
    refine ⟨hl, fun f hf => ?_⟩
    cases hm : fs.toList.mapM fun f => DataW.trod enc P W base spare held fuel f.type ((cs.drop f.offset).take (P.cellsOf f.type)) with
    | none => simp [hm] at h
    | some r => exact mapM_each _ _ _ hm f hf
  · cases h

/-- A list, each cell of which is told. -/
theorem list_of {α : Type} (f : α → Value) (cs : List Value) (h : ∀ i, i < cs.length → ∃ x, cs[i]? = some (f x)) : ∃ l : List α, l.length = cs.length ∧ cs = l.map f := by
  induction cs with
  | nil => exact ⟨[], rfl, rfl⟩
  | cons c cs ih =>
    obtain ⟨x, hx⟩ := h 0 (by simp)
    obtain ⟨l, hl, he⟩ := ih (fun i hi => by
      obtain ⟨y, hy⟩ := h (i + 1) (by simpa using hi)
      exact ⟨y, by simpa using hy⟩)
    refine ⟨x :: l, by simp [hl], ?_⟩
    rw [List.map_cons, ← he]
    simp at hx
    rw [hx]
theorem wf_u32' {a : Int} (h : (Lit.int .u32 a).wf = true) : ∃ x : UInt32, a = (x.toNat : Int) := by
  obtain ⟨n, rfl, hn⟩ := wf_u32 h
  exact ⟨UInt32.ofNat n, by rw [UInt32.toNat_ofNat', Nat.mod_eq_of_lt hn]⟩
theorem take_one {cs : List Value} {i : Nat} {v : Value} (h : (cs.drop i).take 1 = [v]) : cs[i]? = some v := by
  have := congrArg (fun l => l[0]?) h
  simp only [List.getElem?_take, List.getElem?_drop, Nat.add_zero] at this
  simpa using this

end Go.Proofs.Ytfnneneaalaagaa
