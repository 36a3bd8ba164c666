/- Ground of the statements BankHealed, BankNever, part 8: BkI. -/
import Derived.Test.YticfcelbnkiopaaDoorBBC7
namespace Go.Proofs.YticfcelbnkiopaaDoor
set_option maxRecDepth 100000
open Go.RowKit
set_option linter.unusedSimpArgs false
set_option linter.unusedVariables false

section
variable {bk bd bo bm : Nat} {vw : Value} {ss : List SVV} {t : UInt32} {st : DS} {u : List Bool}
theorem bCrash_any (hk : BKok st u) (w : World) (hD : SH (feet (bankL bk bd bo bm vw ss t st u)) w w (bankL bk bd bo bm vw ss t st u)) :
    Calls Tryd.prog 51 #[.pointer (some ⟨bd, 0, none⟩), .slice none 0 0] w fun e w' => e = .returned (.tuple #[]) ∧ SH (feet (bankL bk bd bo bm vw ss t st u)) w w' (bankL bk bd bo bm (.slice none 0 0) [] t st.crash0 u) := by
  refine (diskCrash0 bd bo u.length vw ss st hk.d w (hD.subS (D := diskL bd bo vw ss st))).mono ?_
  rintro e w' ⟨rfl, k⟩
  exact ⟨rfl, hD.viaS (D := diskL bd bo vw ss st) k⟩
set_option maxHeartbeats 6400000 in
theorem do_any (kd cp wh a : Int) (pp p : PT) (b : List UInt8) (A : Option Addr) (c : Nat) (hk : BKok st u) (hws : st.ws.length + 2 ≤ 1000000) (hcp : -9223372036854775808 ≤ cp ∧ cp < 9223372036854775808) (hbl : b.length ≤ 300) (w : World)
    (hD : SH (feet (bankL bk bd bo bm vw ss t st u)) w w (bankL bk bd bo bm vw ss t st u)) (hT : ∀ w', Chg (feet (bankL bk bd bo bm vw ss t st u)) w w' → TabAt w') (hv : ∀ w', Chg (feet (bankL bk bd bo bm vw ss t st u)) w w' → RB w' (.slice A b.length c) b) :
    Calls Tryd.prog 25 #[.pointer (some ⟨bk, 0, none⟩), .pointer (some ⟨bd, 0, none⟩), .agg (acC kd cp wh a pp (.slice A b.length c)).toArray, .agg p.cells.toArray] w fun e w' =>
      e = .returned (.agg (doR t st u ⟨kd, cp, wh, a, pp, b⟩ p).1.cells.toArray) ∧ ∃ vw' ss', SH (feet (bankL bk bd bo bm vw ss t st u)) w w' (bankL bk bd bo bm vw' ss' t (doR t st u ⟨kd, cp, wh, a, pp, b⟩ p).2.1 (doR t st u ⟨kd, cp, wh, a, pp, b⟩ p).2.2) := by
  have hRD := fun W (k : HOLD (bankL bk bd bo bm vw ss t st u) W) => bRead_any p hk W k
  have HLK := Lib.hid (fun W (k : HOLD (bankL bk bd bo bm vw ss t st u) W) => bLook_any p hk W k)
  obtain ⟨F, hF⟩ : ∃ F, F = feet (bankL bk bd bo bm vw ss t st u) := ⟨_, rfl⟩
  have hHL := fun W y => bHeal_any (bk := bk) (bd := bd) (bo := bo) (bm := bm) (vw := vw) (ss := ss) (t := t) p hk hws W y
  have hFX := fun (B : List UInt8) vb W y y2 => bFix_any (bk := bk) (bd := bd) (bo := bo) (bm := bm) (vw := vw) (ss := ss) (t := t) p B vb hk hws W y y2
  have hPUT := fun (B : List UInt8) vb W y1 y2 y3 => bPut_any (bk := bk) (bd := bd) (bo := bo) (bm := bm) (vw := vw) (ss := ss) (t := t) vb B cp hk hws hcp W y1 y2 y3
  have hRT := fun W y y2 => bRot_any (bk := bk) (bd := bd) (bo := bo) (bm := bm) (vw := vw) (ss := ss) (t := t) a (.slice A b.length c) b hk W y y2
  have HFU := Lib.hid (fun W y => bFuse_any (bk := bk) (bd := bd) (bo := bo) (bm := bm) (vw := vw) (ss := ss) (t := t) (st := st) (u := u) a W y)
  have HCR := Lib.hid (fun W y => bCrash_any (bk := bk) (bd := bd) (bo := bo) (bm := bm) (vw := vw) (ss := ss) (t := t) hk W y)
  have HFL := Lib.hid (fun W y => bFlush_any (bk := bk) (bd := bd) (bo := bo) (bm := bm) (vw := vw) (ss := ss) (t := t) hk W y)
  rw [← hF] at hD hT hv ⊢
  have H := hD
  have HT := Lib.hid hT
  have HV := Lib.hid hv
  clear hD hT hv hws
  by_cases k1 : kd = 1
  · subst k1
    obtain ⟨P1, E1, s1, u1, hsp⟩ : ∃ P1 E1 s1 u1, putR t st u (blockR ⟨1, cp, wh, a, pp, b⟩) cp = (P1, E1, s1, u1) := ⟨_, _, _, _, rfl⟩
    have e : doR t st u ⟨1, cp, wh, a, pp, b⟩ p = ({ TD.nil with p := P1, e := E1 }, s1, u1) := by
      rw [doR, if_pos rfl, hsp]
    rw [e]
    clear e
    by_cases h5 : 5 < cp
    · have hB : blockR ⟨1, cp, wh, a, pp, b⟩ = b := if_pos h5
      rw [hB] at hsp
      have hC := hPUT b
      rw [hsp] at hC
      have HPUT := Lib.hid hC
      have HBLK := Lib.hid (fun W => block_raw 1 cp wh a pp A b.length c h5 W)
      have HQL := Lib.hid P1.len
      have HQO := Lib.hid (List.all_eq_true.2 P1.one)
      clear hC hsp hB hRD HLK hHL hFX hPUT hRT HFU HCR HFL hk hF h5
      have HXL := Lib.hid (acC_len 1 cp wh a pp (.slice A b.length c))
      have HC0 := Lib.hid (show (acC 1 cp wh a pp (.slice A b.length c))[0]? = some (.int .i64 1) from rfl)
      have HC1 := Lib.hid (show (acC 1 cp wh a pp (.slice A b.length c))[1]? = some (.int .i64 cp) from rfl)
      have HC3 := Lib.hid (show (acC 1 cp wh a pp (.slice A b.length c))[3]? = some (.int .i64 a) from rfl)
      have HC39 := Lib.hid (acC_39 1 cp wh a pp (.slice A b.length c))
      generalize acC 1 cp wh a pp (.slice A b.length c) = X at *
      have HPL := Lib.hid p.len
      generalize hbn : b.length = bn at *
      clear hbn
      go_enter Tryd.func25, Tryd.ntmps25
      go_wp2_with (first
        | ((with_reducible refine gDst 22 ?_); replace H : SH F w _ (.blk b9 56 TD.nil.cells :: .blk b8 56 TD.nil.cells :: .blk b7 33 p.cells :: .blk b6 54 X :: bankL bk bd bo bm vw ss t st u) := H; refine aLoad1 H _ rfl rfl HC0.out rfl ?_)
        | ((with_reducible refine gDst 34 ?_); refine aLoad H _ rfl rfl (part_all HQL.out) HQL.out rfl ?_)
        | ((with_reducible refine gDst 42 ?_); refine aLoad H _ rfl rfl (part_all HPL.out) HPL.out rfl ?_)
        | ((with_reducible refine gDst 55 ?_); refine aLoad H _ rfl rfl (part_all HPL.out) HPL.out rfl ?_)
        | ((with_reducible refine gDst 67 ?_); refine aLoad H _ rfl rfl (part_all HPL.out) HPL.out rfl ?_)
        | ((with_reducible refine gDst 93 ?_); refine aLoad1 H _ rfl rfl HC3.out rfl ?_)
        | ((with_reducible refine gDst 102 ?_); refine aLoad1 H _ rfl rfl HC3.out rfl ?_)
        | ((with_reducible refine gDst 95 ?_); refine aLoad1 H _ rfl rfl HC39.out rfl ?_)
        | ((with_reducible refine gDst 113 ?_); refine aLoad H _ rfl rfl (part_all (TD.len _)) (TD.len _) rfl ?_)
        | ((with_reducible refine gSto (.tmp 35) (.tmp 34) ?_); refine aLay H _ _ rfl rfl rfl ⟨by rw [TD.len]; decide, HQL.out⟩ HQO.out (TD.setP _ _) rfl ?_; clear H; intro w' H; (try dsimp only at H))
        | ((with_reducible refine gSto (.tmp 48) (.tmp 47) ?_); refine aCell H _ _ rfl rfl (rfl : _ = Value.string _) (by rfl) (by rfl) (by rw [TD.len]; decide) (TD.setB _ _) rfl ?_; clear H; intro w' H; (try dsimp only at H))
        | ((with_reducible refine gSto (.tmp 60) (.tmp 59) ?_); refine aLay H _ _ rfl rfl rfl ⟨by rw [TD.len]; decide, by rfl⟩ (by rfl) (TD.setG _ _ _) rfl ?_; clear H; intro w' H; (try dsimp only at H))
        | ((with_reducible refine gSto (.tmp 72) (.tmp 71) ?_); refine aCell H _ _ rfl rfl (rfl : _ = Value.int _ _) (by rfl) (by rfl) (by rw [TD.len]; decide) (TD.setN _ _) rfl ?_; clear H; intro w' H; (try dsimp only at H))
        | ((with_reducible refine gSto (.tmp 86) (.tmp 85) ?_); refine aCell H _ _ rfl rfl (rfl : _ = Value.int _ _) (by rfl) (by rfl) (by rw [TD.len]; decide) (TD.setN _ _) rfl ?_; clear H; intro w' H; (try dsimp only at H))
        | ((first | (with_reducible refine gSto (.tmp 37) (.tmp 36) ?_) | (with_reducible refine gSto (.tmp 50) (.tmp 49) ?_) | (with_reducible refine gSto (.tmp 62) (.tmp 61) ?_) | (with_reducible refine gSto (.tmp 74) (.tmp 73) ?_) | (with_reducible refine gSto (.tmp 88) (.tmp 87) ?_) | (with_reducible refine gSto (.tmp 97) (.tmp 96) ?_) | (with_reducible refine gSto (.tmp 112) (.tmp 111) ?_)); refine aCell H _ _ rfl rfl (rfl : _ = Value.int _ _) (by rfl) (by rfl) (by rw [TD.len]; decide) (TD.setE _ _) rfl ?_; clear H; intro w' H; (try dsimp only at H))
        | ((with_reducible refine gSto (.tmp 8) (.tmp 113) ?_); refine aStore H _ _ rfl rfl rfl ⟨TD.len _, TD.len _⟩ (TD.one _) rfl ?_; clear H; intro w' H; (try dsimp only at H))
        | ((with_reducible refine gDst 47 ?_); first | refine aStr H _ rfl rfl rfl ?_ | refine stepV (xStr _ rfl rfl (HOLD.rdOne (RR.nil _))) rfl ?_)
        | (go_at_call 18; refine (HRD.out _ (HOLD.suf (D := bankL bk bd bo bm vw ss t st u) H.hold)).mono ?_; first | (rintro e w' ⟨A9, c9, rfl, ho, hb⟩; replace H := H.pushRow hb ho; clear hb ho) | (rintro e w' ⟨rfl, hb⟩; replace H := H.step hb; clear hb))
        | (go_at_call 21; refine (HLK.out _ (HOLD.suf (D := bankL bk bd bo bm vw ss t st u) H.hold)).mono ?_; rintro e w' ⟨rfl, hb⟩; replace H := H.step hb; clear hb)
        | (go_at_call 22; refine (HHL.out _ (H.subS (D := bankL bk bd bo bm vw ss t st u))).mono ?_; rintro e w' ⟨rfl, vw5, ss5, kk⟩; replace H := H.viaS kk; (try dsimp only at H); clear kk)
        | (go_at_call 20; refine (HRT.out _ (H.subS (D := bankL bk bd bo bm vw ss t st u)) (fun w' hc => HV.out _ (H.chgS (D := bankL bk bd bo bm vw ss t st u) hc))).mono ?_; rintro e w' ⟨rfl, kk⟩; replace H := H.viaS kk; (try dsimp only at H); clear kk)
        | (go_at_call 45; refine (HFU.out _ (H.subS (D := bankL bk bd bo bm vw ss t st u))).mono ?_; rintro e w' ⟨rfl, kk⟩; replace H := H.viaS kk; (try dsimp only at H); clear kk)
        | (go_at_call 51; refine (HCR.out _ (H.subS (D := bankL bk bd bo bm vw ss t st u))).mono ?_; rintro e w' ⟨rfl, kk⟩; replace H := H.viaS kk; (try dsimp only at H); clear kk)
        | (go_at_call 19; refine (HFL.out _ (H.subS (D := bankL bk bd bo bm vw ss t st u))).mono ?_; rintro e w' ⟨rfl, vw5, ss5, kk⟩; replace H := H.viaS kk; (try dsimp only at H); clear kk)
        | ((with_reducible refine gDst 6 ?_); refine aBox H _ rfl rfl rfl ?_; clear H; intro b6 w6 H)
        | ((with_reducible refine gDst 7 ?_); refine aBox H _ rfl rfl rfl ?_; clear H; intro b7 w7 H)
        | ((with_reducible refine gDst 8 ?_); refine aAlloc H rfl rfl ?_; clear H; intro b8 w8 H)
        | ((with_reducible refine gDst 9 ?_); refine aAlloc H rfl rfl ?_; clear H; intro b9 w9 H)
        | ((with_reducible refine gDst 14 ?_); refine aAlloc H rfl rfl ?_; clear H; intro b14 w14 H)
        | ((with_reducible refine gLoad ?_); first | (refine aLoad1 H _ rfl rfl (by first | exact (rfl : _ = some (Value.int _ _)) | exact (rfl : _ = some (Value.slice _ _ _)) | exact (rfl : _ = some (Value.bool _)) | exact (rfl : _ = some (Value.string _)) | exact (rfl : _ = some (Value.pointer _)) | rfl | (simp [List.getElem?_append]; done)) rfl ?_) | (refine aLoadC _ rfl rfl (by assumption) rfl ?_) | (refine aLoad H _ rfl rfl (by first | exact part_all (by first | rfl | simp []) | (simp only [List.drop_succ_cons, List.drop_zero, List.take_succ_cons, List.take_zero]; rfl) | (simp [List.drop_append, List.take_append]; rfl)) (by first | rfl | simp []) rfl ?_))
        | ((with_reducible refine gBuild ?_); refine aZero rfl rfl ?_)
        | ((with_reducible refine gStore ?_); (first | (refine aCell H _ _ rfl rfl (by first | exact (rfl : _ = Value.int _ _) | exact (rfl : _ = Value.bool _) | exact (rfl : _ = Value.slice _ _ _) | exact (rfl : _ = Value.string _) | exact (rfl : _ = Value.pointer _) | exact (rfl : _ = Value.func _ _ _) | rfl) (by rfl) (by rfl) (by first | exact of_decide_eq_true rfl | (simp []; done) | (simp []; omega)) (by first | (simp only [List.set_cons_zero, List.set_cons_succ]; rfl) | (simp [List.set_append]; rfl)) rfl ?_) | (refine aStore H _ _ rfl rfl rfl (by (first | exact ⟨rfl, rfl⟩ | exact ⟨by decide, rfl⟩ | (simp []; done) | (constructor <;> simp [] <;> omega))) (by first | rfl | simp [List.all_append, one_all]) rfl ?_) | (refine aLay H _ _ rfl rfl rfl (by (first | exact ⟨rfl, rfl⟩ | exact ⟨by decide, rfl⟩ | (simp []; done) | (constructor <;> simp [] <;> omega))) (by first | rfl | simp [List.all_append, one_all]) (by simp only [lay, List.take_succ_cons, List.take_zero, List.drop_succ_cons, List.drop_zero, List.nil_append, List.cons_append, List.length_cons, List.length_nil, Nat.zero_add, Nat.reduceAdd]; rfl) rfl ?_)); clear H; intro w' H; try dsimp only at H)
        | ((with_reducible refine gConv ?_); first | (refine aStr H _ rfl rfl rfl ?_)))
      refine startA (fun i => i == 5 || i == 10) (by kernel_rfl) (fun wS hS => ?_)
      replace H := H.drew
      rw [← hS] at H
      have HH := H.hold
      have HS0 : Below wS.heap.size wS wS := Below.refl _ _
      clear hS
      refine takeP 0 rfl (by kernel_rfl) (by kernel_rfl) (by kernel_rfl) (by kernel_rfl) (fun _ _ _ h => h) rfl (v := ?_) ?_ ?_
      rotate_left
      · intro w'; go_simp; (try with_reducible rfl)
      (try simp only [Act.put, List.setIfInBounds_toArray, List.set_cons_zero, List.set_cons_succ])
      refine takeL 1 HS0 rfl (by kernel_rfl) (by kernel_rfl) (by kernel_rfl) (by kernel_rfl) (by kernel_rfl) (fun _ _ _ h => h) rfl (v := ?_) ?_ ?_
      rotate_left
      · intro w' hw'; refine Eq.trans (xLoad (HH.below hw') _ rfl rfl (part_all HXL.out) HXL.out) ?_; with_reducible rfl
      (try simp only [Act.put, List.setIfInBounds_toArray, List.set_cons_zero, List.set_cons_succ])
      refine takeP 3 rfl (by kernel_rfl) (by kernel_rfl) (by kernel_rfl) (by kernel_rfl) (fun _ _ _ h => h) rfl (v := ?_) ?_ ?_
      rotate_left
      · intro w'; go_simp; (try with_reducible rfl)
      (try simp only [Act.put, List.setIfInBounds_toArray, List.set_cons_zero, List.set_cons_succ])
      refine takeL 4 HS0 rfl (by kernel_rfl) (by kernel_rfl) (by kernel_rfl) (by kernel_rfl) (by kernel_rfl) (fun _ _ _ h => h) rfl (v := ?_) ?_ ?_
      rotate_left
      · intro w' hw'; refine Eq.trans (xLoad1 (HH.below hw') _ rfl rfl HC1.out) ?_; with_reducible rfl
      (try simp only [Act.put, List.setIfInBounds_toArray, List.set_cons_zero, List.set_cons_succ])
      refine stepL2 2 9 rfl rfl (by kernel_rfl) rfl rfl (fun K hK => ?ord4_1_tr_2) (fun K hK => ?ord4_1_tr_9)
      case' ord4_1_tr_2 =>
        (go_simp; (with_reducible refine ((HBLK.out _)).mono ?_); rintro e w' ⟨rfl, hb⟩; replace H := H.step hb; first | (replace HS0 := below_two HS0 HS0.size hb; clear hb; refine hK.out _ _ (fun _ _ => HS0) ?_; clear K hK) | (refine hK.out _ _ (fun _ h => below_two h h.size hb) ?_; clear hb K hK))
        (try simp only [Act.put, List.setIfInBounds_toArray, List.set_cons_zero, List.set_cons_succ])
        refine stepL2 5 9 rfl rfl (by kernel_rfl) rfl rfl (fun K hK => ?ord4_2_tr_5) (fun K hK => ?ord4_2_tr_9)
        case' ord4_2_tr_5 =>
          (go_simp; have q := HPUT.out (.slice A bn c) _ (H.subS (D := bankL bk bd bo bm vw ss t st u)) (fun w2 hc2 => HT.out _ (H.chgS (D := bankL bk bd bo bm vw ss t st u) hc2)) (fun w2 hc2 => HV.out _ (H.chgS (D := bankL bk bd bo bm vw ss t st u) hc2)); (with_reducible refine q.mono ?_); rintro e w' ⟨rfl, vw5, ss5, kk⟩; replace H := H.viaS kk; (try dsimp only at H); clear kk q; refine hK.out _ _ (fun h => by cases h) ?_; clear K hK HS0)
          (try simp only [Act.put, List.setIfInBounds_toArray, List.set_cons_zero, List.set_cons_succ])
          refine takeP 6 rfl (by kernel_rfl) (by kernel_rfl) (by kernel_rfl) (by kernel_rfl) (fun _ _ _ h => h) rfl (v := ?_) ?_ ?_
          rotate_left
          · intro w'; go_simp; (try with_reducible rfl)
          (try simp only [Act.put, List.setIfInBounds_toArray, List.set_cons_zero, List.set_cons_succ])
          refine takeP 7 rfl (by kernel_rfl) (by kernel_rfl) (by kernel_rfl) (by kernel_rfl) (fun _ _ _ h => h) rfl (v := ?_) ?_ ?_
          rotate_left
          · intro w'; go_simp; (try with_reducible rfl)
          (try simp only [Act.put, List.setIfInBounds_toArray, List.set_cons_zero, List.set_cons_succ])
          refine takeP 8 rfl (by kernel_rfl) (by kernel_rfl) (by kernel_rfl) (by kernel_rfl) (fun _ _ _ h => h) rfl (v := ?_) ?_ ?_
          rotate_left
          · intro w'; go_simp; (try with_reducible rfl)
          (try simp only [Act.put, List.setIfInBounds_toArray, List.set_cons_zero, List.set_cons_succ])
          refine stepL 9 rfl (by kernel_rfl) rfl (fun K hK => ?_)
          refine oAlloc H rfl ?_; clear H; intro b10 w10 hb H; first | (replace HS0 := below_two HS0 HS0.size hb; clear hb; refine hK.out _ _ (fun _ _ => HS0) ?_; clear K hK) | (refine hK.out _ _ (fun _ h => below_two h h.size hb) ?_; clear hb K hK)
          (try simp only [Act.put, List.setIfInBounds_toArray, List.set_cons_zero, List.set_cons_succ])
          refine stepL 10 rfl (by kernel_rfl) rfl (fun K hK => ?_)
          (refine oStore H _ _ rfl rfl rfl ⟨by rfl, HQL.out⟩ HQO.out ?_; clear H; intro w' H; (try dsimp only at H); refine hK.out _ _ (fun h => by cases h) ?_; clear K hK)
          (try simp only [Act.put, List.setIfInBounds_toArray, List.set_cons_zero, List.set_cons_succ])
          refine takeP 11 rfl (by kernel_rfl) (by kernel_rfl) (by kernel_rfl) (by kernel_rfl) (fun _ _ _ h => h) rfl (v := ?_) ?_ ?_
          rotate_left
          · intro w'; go_simp; (try with_reducible rfl)
          (try simp only [Act.put, List.setIfInBounds_toArray, List.set_cons_zero, List.set_cons_succ])
          refine doneL (by kernel_rfl) ?_
        case' ord4_2_tr_9 =>
          refine oAlloc H rfl ?_; clear H; intro b10 w10 hb H; first | (replace HS0 := below_two HS0 HS0.size hb; clear hb; refine hK.out _ _ (fun _ _ => HS0) ?_; clear K hK) | (refine hK.out _ _ (fun _ h => below_two h h.size hb) ?_; clear hb K hK)
          (try simp only [Act.put, List.setIfInBounds_toArray, List.set_cons_zero, List.set_cons_succ])
          refine stepL 5 rfl (by kernel_rfl) rfl (fun K hK => ?_)
          (go_simp; have q := HPUT.out (.slice A bn c) _ (H.subS (D := bankL bk bd bo bm vw ss t st u)) (fun w2 hc2 => HT.out _ (H.chgS (D := bankL bk bd bo bm vw ss t st u) hc2)) (fun w2 hc2 => HV.out _ (H.chgS (D := bankL bk bd bo bm vw ss t st u) hc2)); (with_reducible refine q.mono ?_); rintro e w' ⟨rfl, vw5, ss5, kk⟩; replace H := H.viaS kk; (try dsimp only at H); clear kk q; refine hK.out _ _ (fun h => by cases h) ?_; clear K hK HS0)
          (try simp only [Act.put, List.setIfInBounds_toArray, List.set_cons_zero, List.set_cons_succ])
          refine takeP 6 rfl (by kernel_rfl) (by kernel_rfl) (by kernel_rfl) (by kernel_rfl) (fun _ _ _ h => h) rfl (v := ?_) ?_ ?_
          rotate_left
          · intro w'; go_simp; (try with_reducible rfl)
          (try simp only [Act.put, List.setIfInBounds_toArray, List.set_cons_zero, List.set_cons_succ])
          refine takeP 7 rfl (by kernel_rfl) (by kernel_rfl) (by kernel_rfl) (by kernel_rfl) (fun _ _ _ h => h) rfl (v := ?_) ?_ ?_
          rotate_left
          · intro w'; go_simp; (try with_reducible rfl)
          (try simp only [Act.put, List.setIfInBounds_toArray, List.set_cons_zero, List.set_cons_succ])
          refine takeP 8 rfl (by kernel_rfl) (by kernel_rfl) (by kernel_rfl) (by kernel_rfl) (fun _ _ _ h => h) rfl (v := ?_) ?_ ?_
          rotate_left
          · intro w'; go_simp; (try with_reducible rfl)
          (try simp only [Act.put, List.setIfInBounds_toArray, List.set_cons_zero, List.set_cons_succ])
          refine stepL 10 rfl (by kernel_rfl) rfl (fun K hK => ?_)
          (refine oStore H _ _ rfl rfl rfl ⟨by rfl, HQL.out⟩ HQO.out ?_; clear H; intro w' H; (try dsimp only at H); refine hK.out _ _ (fun h => by cases h) ?_; clear K hK)
          (try simp only [Act.put, List.setIfInBounds_toArray, List.set_cons_zero, List.set_cons_succ])
          refine takeP 11 rfl (by kernel_rfl) (by kernel_rfl) (by kernel_rfl) (by kernel_rfl) (fun _ _ _ h => h) rfl (v := ?_) ?_ ?_
          rotate_left
          · intro w'; go_simp; (try with_reducible rfl)
          (try simp only [Act.put, List.setIfInBounds_toArray, List.set_cons_zero, List.set_cons_succ])
          refine doneL (by kernel_rfl) ?_
      case' ord4_1_tr_9 =>
        refine oAlloc H rfl ?_; clear H; intro b10 w10 hb H; first | (replace HS0 := below_two HS0 HS0.size hb; clear hb; refine hK.out _ _ (fun _ _ => HS0) ?_; clear K hK) | (refine hK.out _ _ (fun _ h => below_two h h.size hb) ?_; clear hb K hK)
        (try simp only [Act.put, List.setIfInBounds_toArray, List.set_cons_zero, List.set_cons_succ])
        refine stepL 2 rfl (by kernel_rfl) rfl (fun K hK => ?_)
        (go_simp; (with_reducible refine ((HBLK.out _)).mono ?_); rintro e w' ⟨rfl, hb⟩; replace H := H.step hb; first | (replace HS0 := below_two HS0 HS0.size hb; clear hb; refine hK.out _ _ (fun _ _ => HS0) ?_; clear K hK) | (refine hK.out _ _ (fun _ h => below_two h h.size hb) ?_; clear hb K hK))
        (try simp only [Act.put, List.setIfInBounds_toArray, List.set_cons_zero, List.set_cons_succ])
        refine stepL 5 rfl (by kernel_rfl) rfl (fun K hK => ?_)
        (go_simp; have q := HPUT.out (.slice A bn c) _ (H.subS (D := bankL bk bd bo bm vw ss t st u)) (fun w2 hc2 => HT.out _ (H.chgS (D := bankL bk bd bo bm vw ss t st u) hc2)) (fun w2 hc2 => HV.out _ (H.chgS (D := bankL bk bd bo bm vw ss t st u) hc2)); (with_reducible refine q.mono ?_); rintro e w' ⟨rfl, vw5, ss5, kk⟩; replace H := H.viaS kk; (try dsimp only at H); clear kk q; refine hK.out _ _ (fun h => by cases h) ?_; clear K hK HS0)
        (try simp only [Act.put, List.setIfInBounds_toArray, List.set_cons_zero, List.set_cons_succ])
        refine takeP 6 rfl (by kernel_rfl) (by kernel_rfl) (by kernel_rfl) (by kernel_rfl) (fun _ _ _ h => h) rfl (v := ?_) ?_ ?_
        rotate_left
        · intro w'; go_simp; (try with_reducible rfl)
        (try simp only [Act.put, List.setIfInBounds_toArray, List.set_cons_zero, List.set_cons_succ])
        refine takeP 7 rfl (by kernel_rfl) (by kernel_rfl) (by kernel_rfl) (by kernel_rfl) (fun _ _ _ h => h) rfl (v := ?_) ?_ ?_
        rotate_left
        · intro w'; go_simp; (try with_reducible rfl)
        (try simp only [Act.put, List.setIfInBounds_toArray, List.set_cons_zero, List.set_cons_succ])
        refine takeP 8 rfl (by kernel_rfl) (by kernel_rfl) (by kernel_rfl) (by kernel_rfl) (fun _ _ _ h => h) rfl (v := ?_) ?_ ?_
        rotate_left
        · intro w'; go_simp; (try with_reducible rfl)
        (try simp only [Act.put, List.setIfInBounds_toArray, List.set_cons_zero, List.set_cons_succ])
        refine stepL 10 rfl (by kernel_rfl) rfl (fun K hK => ?_)
        (refine oStore H _ _ rfl rfl rfl ⟨by rfl, HQL.out⟩ HQO.out ?_; clear H; intro w' H; (try dsimp only at H); refine hK.out _ _ (fun h => by cases h) ?_; clear K hK)
        (try simp only [Act.put, List.setIfInBounds_toArray, List.set_cons_zero, List.set_cons_succ])
        refine takeP 11 rfl (by kernel_rfl) (by kernel_rfl) (by kernel_rfl) (by kernel_rfl) (fun _ _ _ h => h) rfl (v := ?_) ?_ ?_
        rotate_left
        · intro w'; go_simp; (try with_reducible rfl)
        (try simp only [Act.put, List.setIfInBounds_toArray, List.set_cons_zero, List.set_cons_succ])
        refine doneL (by kernel_rfl) ?_
      all_goals
        clear HH
        go_wp2_with (first
          | ((with_reducible refine gDst 22 ?_); replace H : SH F w _ (.blk b9 56 TD.nil.cells :: .blk b8 56 TD.nil.cells :: .blk b7 33 p.cells :: .blk b6 54 X :: bankL bk bd bo bm vw ss t st u) := H; refine aLoad1 H _ rfl rfl HC0.out rfl ?_)
          | ((with_reducible refine gDst 34 ?_); refine aLoad H _ rfl rfl (part_all HQL.out) HQL.out rfl ?_)
          | ((with_reducible refine gDst 42 ?_); refine aLoad H _ rfl rfl (part_all HPL.out) HPL.out rfl ?_)
          | ((with_reducible refine gDst 55 ?_); refine aLoad H _ rfl rfl (part_all HPL.out) HPL.out rfl ?_)
          | ((with_reducible refine gDst 67 ?_); refine aLoad H _ rfl rfl (part_all HPL.out) HPL.out rfl ?_)
          | ((with_reducible refine gDst 93 ?_); refine aLoad1 H _ rfl rfl HC3.out rfl ?_)
          | ((with_reducible refine gDst 102 ?_); refine aLoad1 H _ rfl rfl HC3.out rfl ?_)
          | ((with_reducible refine gDst 95 ?_); refine aLoad1 H _ rfl rfl HC39.out rfl ?_)
          | ((with_reducible refine gDst 113 ?_); refine aLoad H _ rfl rfl (part_all (TD.len _)) (TD.len _) rfl ?_)
          | ((with_reducible refine gSto (.tmp 35) (.tmp 34) ?_); refine aLay H _ _ rfl rfl rfl ⟨by rw [TD.len]; decide, HQL.out⟩ HQO.out (TD.setP _ _) rfl ?_; clear H; intro w' H; (try dsimp only at H))
          | ((with_reducible refine gSto (.tmp 48) (.tmp 47) ?_); refine aCell H _ _ rfl rfl (rfl : _ = Value.string _) (by rfl) (by rfl) (by rw [TD.len]; decide) (TD.setB _ _) rfl ?_; clear H; intro w' H; (try dsimp only at H))
          | ((with_reducible refine gSto (.tmp 60) (.tmp 59) ?_); refine aLay H _ _ rfl rfl rfl ⟨by rw [TD.len]; decide, by rfl⟩ (by rfl) (TD.setG _ _ _) rfl ?_; clear H; intro w' H; (try dsimp only at H))
          | ((with_reducible refine gSto (.tmp 72) (.tmp 71) ?_); refine aCell H _ _ rfl rfl (rfl : _ = Value.int _ _) (by rfl) (by rfl) (by rw [TD.len]; decide) (TD.setN _ _) rfl ?_; clear H; intro w' H; (try dsimp only at H))
          | ((with_reducible refine gSto (.tmp 86) (.tmp 85) ?_); refine aCell H _ _ rfl rfl (rfl : _ = Value.int _ _) (by rfl) (by rfl) (by rw [TD.len]; decide) (TD.setN _ _) rfl ?_; clear H; intro w' H; (try dsimp only at H))
          | ((first | (with_reducible refine gSto (.tmp 37) (.tmp 36) ?_) | (with_reducible refine gSto (.tmp 50) (.tmp 49) ?_) | (with_reducible refine gSto (.tmp 62) (.tmp 61) ?_) | (with_reducible refine gSto (.tmp 74) (.tmp 73) ?_) | (with_reducible refine gSto (.tmp 88) (.tmp 87) ?_) | (with_reducible refine gSto (.tmp 97) (.tmp 96) ?_) | (with_reducible refine gSto (.tmp 112) (.tmp 111) ?_)); refine aCell H _ _ rfl rfl (rfl : _ = Value.int _ _) (by rfl) (by rfl) (by rw [TD.len]; decide) (TD.setE _ _) rfl ?_; clear H; intro w' H; (try dsimp only at H))
          | ((with_reducible refine gSto (.tmp 8) (.tmp 113) ?_); refine aStore H _ _ rfl rfl rfl ⟨TD.len _, TD.len _⟩ (TD.one _) rfl ?_; clear H; intro w' H; (try dsimp only at H))
          | ((with_reducible refine gDst 47 ?_); first | refine aStr H _ rfl rfl rfl ?_ | refine stepV (xStr _ rfl rfl (HOLD.rdOne (RR.nil _))) rfl ?_)
          | (go_at_call 18; refine (HRD.out _ (HOLD.suf (D := bankL bk bd bo bm vw ss t st u) H.hold)).mono ?_; first | (rintro e w' ⟨A9, c9, rfl, ho, hb⟩; replace H := H.pushRow hb ho; clear hb ho) | (rintro e w' ⟨rfl, hb⟩; replace H := H.step hb; clear hb))
          | (go_at_call 21; refine (HLK.out _ (HOLD.suf (D := bankL bk bd bo bm vw ss t st u) H.hold)).mono ?_; rintro e w' ⟨rfl, hb⟩; replace H := H.step hb; clear hb)
          | (go_at_call 22; refine (HHL.out _ (H.subS (D := bankL bk bd bo bm vw ss t st u))).mono ?_; rintro e w' ⟨rfl, vw5, ss5, kk⟩; replace H := H.viaS kk; (try dsimp only at H); clear kk)
          | (go_at_call 20; refine (HRT.out _ (H.subS (D := bankL bk bd bo bm vw ss t st u)) (fun w' hc => HV.out _ (H.chgS (D := bankL bk bd bo bm vw ss t st u) hc))).mono ?_; rintro e w' ⟨rfl, kk⟩; replace H := H.viaS kk; (try dsimp only at H); clear kk)
          | (go_at_call 45; refine (HFU.out _ (H.subS (D := bankL bk bd bo bm vw ss t st u))).mono ?_; rintro e w' ⟨rfl, kk⟩; replace H := H.viaS kk; (try dsimp only at H); clear kk)
          | (go_at_call 51; refine (HCR.out _ (H.subS (D := bankL bk bd bo bm vw ss t st u))).mono ?_; rintro e w' ⟨rfl, kk⟩; replace H := H.viaS kk; (try dsimp only at H); clear kk)
          | (go_at_call 19; refine (HFL.out _ (H.subS (D := bankL bk bd bo bm vw ss t st u))).mono ?_; rintro e w' ⟨rfl, vw5, ss5, kk⟩; replace H := H.viaS kk; (try dsimp only at H); clear kk)
          | ((with_reducible refine gDst 6 ?_); refine aBox H _ rfl rfl rfl ?_; clear H; intro b6 w6 H)
          | ((with_reducible refine gDst 7 ?_); refine aBox H _ rfl rfl rfl ?_; clear H; intro b7 w7 H)
          | ((with_reducible refine gDst 8 ?_); refine aAlloc H rfl rfl ?_; clear H; intro b8 w8 H)
          | ((with_reducible refine gDst 9 ?_); refine aAlloc H rfl rfl ?_; clear H; intro b9 w9 H)
          | ((with_reducible refine gDst 14 ?_); refine aAlloc H rfl rfl ?_; clear H; intro b14 w14 H)
          | ((with_reducible refine gLoad ?_); first | (refine aLoad1 H _ rfl rfl (by first | exact (rfl : _ = some (Value.int _ _)) | exact (rfl : _ = some (Value.slice _ _ _)) | exact (rfl : _ = some (Value.bool _)) | exact (rfl : _ = some (Value.string _)) | exact (rfl : _ = some (Value.pointer _)) | rfl | (simp [List.getElem?_append]; done)) rfl ?_) | (refine aLoadC _ rfl rfl (by assumption) rfl ?_) | (refine aLoad H _ rfl rfl (by first | exact part_all (by first | rfl | simp []) | (simp only [List.drop_succ_cons, List.drop_zero, List.take_succ_cons, List.take_zero]; rfl) | (simp [List.drop_append, List.take_append]; rfl)) (by first | rfl | simp []) rfl ?_))
          | ((with_reducible refine gBuild ?_); refine aZero rfl rfl ?_)
          | ((with_reducible refine gStore ?_); (first | (refine aCell H _ _ rfl rfl (by first | exact (rfl : _ = Value.int _ _) | exact (rfl : _ = Value.bool _) | exact (rfl : _ = Value.slice _ _ _) | exact (rfl : _ = Value.string _) | exact (rfl : _ = Value.pointer _) | exact (rfl : _ = Value.func _ _ _) | rfl) (by rfl) (by rfl) (by first | exact of_decide_eq_true rfl | (simp []; done) | (simp []; omega)) (by first | (simp only [List.set_cons_zero, List.set_cons_succ]; rfl) | (simp [List.set_append]; rfl)) rfl ?_) | (refine aStore H _ _ rfl rfl rfl (by (first | exact ⟨rfl, rfl⟩ | exact ⟨by decide, rfl⟩ | (simp []; done) | (constructor <;> simp [] <;> omega))) (by first | rfl | simp [List.all_append, one_all]) rfl ?_) | (refine aLay H _ _ rfl rfl rfl (by (first | exact ⟨rfl, rfl⟩ | exact ⟨by decide, rfl⟩ | (simp []; done) | (constructor <;> simp [] <;> omega))) (by first | rfl | simp [List.all_append, one_all]) (by simp only [lay, List.take_succ_cons, List.take_zero, List.drop_succ_cons, List.drop_zero, List.nil_append, List.cons_append, List.length_cons, List.length_nil, Nat.zero_add, Nat.reduceAdd]; rfl) rfl ?_)); clear H; intro w' H; try dsimp only at H)
          | ((with_reducible refine gConv ?_); first | (refine aStr H _ rfl rfl rfl ?_)))
        refine bodyPost_ret (res_cell rfl _ H.hold rfl (TD.len _)) rfl ?_
        exact ⟨rfl, vw5, ss5, H.tail.tail.tail.tail.tail⟩
    · have hB : blockR ⟨1, cp, wh, a, pp, b⟩ = wholeL b := if_neg h5
      rw [hB] at hsp
      have hC := hPUT (wholeL b)
      rw [hsp] at hC
      have HPUT := Lib.hid hC
      have HBLK := Lib.hid (fun W y => block_whole 1 cp wh a pp A c b h5 (by omega) W y)
      generalize (wholeL b).length = mb at *
      have HQL := Lib.hid P1.len
      have HQO := Lib.hid (List.all_eq_true.2 P1.one)
      clear hC hsp hB hRD HLK hHL hFX hPUT hRT HFU HCR HFL hk hF h5
      have HXL := Lib.hid (acC_len 1 cp wh a pp (.slice A b.length c))
      have HC0 := Lib.hid (show (acC 1 cp wh a pp (.slice A b.length c))[0]? = some (.int .i64 1) from rfl)
      have HC1 := Lib.hid (show (acC 1 cp wh a pp (.slice A b.length c))[1]? = some (.int .i64 cp) from rfl)
      have HC3 := Lib.hid (show (acC 1 cp wh a pp (.slice A b.length c))[3]? = some (.int .i64 a) from rfl)
      have HC39 := Lib.hid (acC_39 1 cp wh a pp (.slice A b.length c))
      generalize acC 1 cp wh a pp (.slice A b.length c) = X at *
      have HPL := Lib.hid p.len
      generalize hbn : b.length = bn at *
      clear hbn
      go_enter Tryd.func25, Tryd.ntmps25
      go_wp2_with (first
        | ((with_reducible refine gDst 22 ?_); replace H : SH F w _ (.blk b9 56 TD.nil.cells :: .blk b8 56 TD.nil.cells :: .blk b7 33 p.cells :: .blk b6 54 X :: bankL bk bd bo bm vw ss t st u) := H; refine aLoad1 H _ rfl rfl HC0.out rfl ?_)
        | ((with_reducible refine gDst 34 ?_); refine aLoad H _ rfl rfl (part_all HQL.out) HQL.out rfl ?_)
        | ((with_reducible refine gDst 42 ?_); refine aLoad H _ rfl rfl (part_all HPL.out) HPL.out rfl ?_)
        | ((with_reducible refine gDst 55 ?_); refine aLoad H _ rfl rfl (part_all HPL.out) HPL.out rfl ?_)
        | ((with_reducible refine gDst 67 ?_); refine aLoad H _ rfl rfl (part_all HPL.out) HPL.out rfl ?_)
        | ((with_reducible refine gDst 93 ?_); refine aLoad1 H _ rfl rfl HC3.out rfl ?_)
        | ((with_reducible refine gDst 102 ?_); refine aLoad1 H _ rfl rfl HC3.out rfl ?_)
        | ((with_reducible refine gDst 95 ?_); refine aLoad1 H _ rfl rfl HC39.out rfl ?_)
        | ((with_reducible refine gDst 113 ?_); refine aLoad H _ rfl rfl (part_all (TD.len _)) (TD.len _) rfl ?_)
        | ((with_reducible refine gSto (.tmp 35) (.tmp 34) ?_); refine aLay H _ _ rfl rfl rfl ⟨by rw [TD.len]; decide, HQL.out⟩ HQO.out (TD.setP _ _) rfl ?_; clear H; intro w' H; (try dsimp only at H))
        | ((with_reducible refine gSto (.tmp 48) (.tmp 47) ?_); refine aCell H _ _ rfl rfl (rfl : _ = Value.string _) (by rfl) (by rfl) (by rw [TD.len]; decide) (TD.setB _ _) rfl ?_; clear H; intro w' H; (try dsimp only at H))
        | ((with_reducible refine gSto (.tmp 60) (.tmp 59) ?_); refine aLay H _ _ rfl rfl rfl ⟨by rw [TD.len]; decide, by rfl⟩ (by rfl) (TD.setG _ _ _) rfl ?_; clear H; intro w' H; (try dsimp only at H))
        | ((with_reducible refine gSto (.tmp 72) (.tmp 71) ?_); refine aCell H _ _ rfl rfl (rfl : _ = Value.int _ _) (by rfl) (by rfl) (by rw [TD.len]; decide) (TD.setN _ _) rfl ?_; clear H; intro w' H; (try dsimp only at H))
        | ((with_reducible refine gSto (.tmp 86) (.tmp 85) ?_); refine aCell H _ _ rfl rfl (rfl : _ = Value.int _ _) (by rfl) (by rfl) (by rw [TD.len]; decide) (TD.setN _ _) rfl ?_; clear H; intro w' H; (try dsimp only at H))
        | ((first | (with_reducible refine gSto (.tmp 37) (.tmp 36) ?_) | (with_reducible refine gSto (.tmp 50) (.tmp 49) ?_) | (with_reducible refine gSto (.tmp 62) (.tmp 61) ?_) | (with_reducible refine gSto (.tmp 74) (.tmp 73) ?_) | (with_reducible refine gSto (.tmp 88) (.tmp 87) ?_) | (with_reducible refine gSto (.tmp 97) (.tmp 96) ?_) | (with_reducible refine gSto (.tmp 112) (.tmp 111) ?_)); refine aCell H _ _ rfl rfl (rfl : _ = Value.int _ _) (by rfl) (by rfl) (by rw [TD.len]; decide) (TD.setE _ _) rfl ?_; clear H; intro w' H; (try dsimp only at H))
        | ((with_reducible refine gSto (.tmp 8) (.tmp 113) ?_); refine aStore H _ _ rfl rfl rfl ⟨TD.len _, TD.len _⟩ (TD.one _) rfl ?_; clear H; intro w' H; (try dsimp only at H))
        | ((with_reducible refine gDst 47 ?_); first | refine aStr H _ rfl rfl rfl ?_ | refine stepV (xStr _ rfl rfl (HOLD.rdOne (RR.nil _))) rfl ?_)
        | (go_at_call 18; refine (HRD.out _ (HOLD.suf (D := bankL bk bd bo bm vw ss t st u) H.hold)).mono ?_; first | (rintro e w' ⟨A9, c9, rfl, ho, hb⟩; replace H := H.pushRow hb ho; clear hb ho) | (rintro e w' ⟨rfl, hb⟩; replace H := H.step hb; clear hb))
        | (go_at_call 21; refine (HLK.out _ (HOLD.suf (D := bankL bk bd bo bm vw ss t st u) H.hold)).mono ?_; rintro e w' ⟨rfl, hb⟩; replace H := H.step hb; clear hb)
        | (go_at_call 22; refine (HHL.out _ (H.subS (D := bankL bk bd bo bm vw ss t st u))).mono ?_; rintro e w' ⟨rfl, vw5, ss5, kk⟩; replace H := H.viaS kk; (try dsimp only at H); clear kk)
        | (go_at_call 20; refine (HRT.out _ (H.subS (D := bankL bk bd bo bm vw ss t st u)) (fun w' hc => HV.out _ (H.chgS (D := bankL bk bd bo bm vw ss t st u) hc))).mono ?_; rintro e w' ⟨rfl, kk⟩; replace H := H.viaS kk; (try dsimp only at H); clear kk)
        | (go_at_call 45; refine (HFU.out _ (H.subS (D := bankL bk bd bo bm vw ss t st u))).mono ?_; rintro e w' ⟨rfl, kk⟩; replace H := H.viaS kk; (try dsimp only at H); clear kk)
        | (go_at_call 51; refine (HCR.out _ (H.subS (D := bankL bk bd bo bm vw ss t st u))).mono ?_; rintro e w' ⟨rfl, kk⟩; replace H := H.viaS kk; (try dsimp only at H); clear kk)
        | (go_at_call 19; refine (HFL.out _ (H.subS (D := bankL bk bd bo bm vw ss t st u))).mono ?_; rintro e w' ⟨rfl, vw5, ss5, kk⟩; replace H := H.viaS kk; (try dsimp only at H); clear kk)
        | ((with_reducible refine gDst 6 ?_); refine aBox H _ rfl rfl rfl ?_; clear H; intro b6 w6 H)
        | ((with_reducible refine gDst 7 ?_); refine aBox H _ rfl rfl rfl ?_; clear H; intro b7 w7 H)
        | ((with_reducible refine gDst 8 ?_); refine aAlloc H rfl rfl ?_; clear H; intro b8 w8 H)
        | ((with_reducible refine gDst 9 ?_); refine aAlloc H rfl rfl ?_; clear H; intro b9 w9 H)
        | ((with_reducible refine gDst 14 ?_); refine aAlloc H rfl rfl ?_; clear H; intro b14 w14 H)
        | ((with_reducible refine gLoad ?_); first | (refine aLoad1 H _ rfl rfl (by first | exact (rfl : _ = some (Value.int _ _)) | exact (rfl : _ = some (Value.slice _ _ _)) | exact (rfl : _ = some (Value.bool _)) | exact (rfl : _ = some (Value.string _)) | exact (rfl : _ = some (Value.pointer _)) | rfl | (simp [List.getElem?_append]; done)) rfl ?_) | (refine aLoadC _ rfl rfl (by assumption) rfl ?_) | (refine aLoad H _ rfl rfl (by first | exact part_all (by first | rfl | simp []) | (simp only [List.drop_succ_cons, List.drop_zero, List.take_succ_cons, List.take_zero]; rfl) | (simp [List.drop_append, List.take_append]; rfl)) (by first | rfl | simp []) rfl ?_))
        | ((with_reducible refine gBuild ?_); refine aZero rfl rfl ?_)
        | ((with_reducible refine gStore ?_); (first | (refine aCell H _ _ rfl rfl (by first | exact (rfl : _ = Value.int _ _) | exact (rfl : _ = Value.bool _) | exact (rfl : _ = Value.slice _ _ _) | exact (rfl : _ = Value.string _) | exact (rfl : _ = Value.pointer _) | exact (rfl : _ = Value.func _ _ _) | rfl) (by rfl) (by rfl) (by first | exact of_decide_eq_true rfl | (simp []; done) | (simp []; omega)) (by first | (simp only [List.set_cons_zero, List.set_cons_succ]; rfl) | (simp [List.set_append]; rfl)) rfl ?_) | (refine aStore H _ _ rfl rfl rfl (by (first | exact ⟨rfl, rfl⟩ | exact ⟨by decide, rfl⟩ | (simp []; done) | (constructor <;> simp [] <;> omega))) (by first | rfl | simp [List.all_append, one_all]) rfl ?_) | (refine aLay H _ _ rfl rfl rfl (by (first | exact ⟨rfl, rfl⟩ | exact ⟨by decide, rfl⟩ | (simp []; done) | (constructor <;> simp [] <;> omega))) (by first | rfl | simp [List.all_append, one_all]) (by simp only [lay, List.take_succ_cons, List.take_zero, List.drop_succ_cons, List.drop_zero, List.nil_append, List.cons_append, List.length_cons, List.length_nil, Nat.zero_add, Nat.reduceAdd]; rfl) rfl ?_)); clear H; intro w' H; try dsimp only at H)
        | ((with_reducible refine gConv ?_); first | (refine aStr H _ rfl rfl rfl ?_)))
      refine startA (fun i => i == 5 || i == 10) (by kernel_rfl) (fun wS hS => ?_)
      replace H := H.drew
      rw [← hS] at H
      have HH := H.hold
      have HS0 : Below wS.heap.size wS wS := Below.refl _ _
      clear hS
      refine takeP 0 rfl (by kernel_rfl) (by kernel_rfl) (by kernel_rfl) (by kernel_rfl) (fun _ _ _ h => h) rfl (v := ?_) ?_ ?_
      rotate_left
      · intro w'; go_simp; (try with_reducible rfl)
      (try simp only [Act.put, List.setIfInBounds_toArray, List.set_cons_zero, List.set_cons_succ])
      refine takeL 1 HS0 rfl (by kernel_rfl) (by kernel_rfl) (by kernel_rfl) (by kernel_rfl) (by kernel_rfl) (fun _ _ _ h => h) rfl (v := ?_) ?_ ?_
      rotate_left
      · intro w' hw'; refine Eq.trans (xLoad (HH.below hw') _ rfl rfl (part_all HXL.out) HXL.out) ?_; with_reducible rfl
      (try simp only [Act.put, List.setIfInBounds_toArray, List.set_cons_zero, List.set_cons_succ])
      refine takeP 3 rfl (by kernel_rfl) (by kernel_rfl) (by kernel_rfl) (by kernel_rfl) (fun _ _ _ h => h) rfl (v := ?_) ?_ ?_
      rotate_left
      · intro w'; go_simp; (try with_reducible rfl)
      (try simp only [Act.put, List.setIfInBounds_toArray, List.set_cons_zero, List.set_cons_succ])
      refine takeL 4 HS0 rfl (by kernel_rfl) (by kernel_rfl) (by kernel_rfl) (by kernel_rfl) (by kernel_rfl) (fun _ _ _ h => h) rfl (v := ?_) ?_ ?_
      rotate_left
      · intro w' hw'; refine Eq.trans (xLoad1 (HH.below hw') _ rfl rfl HC1.out) ?_; with_reducible rfl
      (try simp only [Act.put, List.setIfInBounds_toArray, List.set_cons_zero, List.set_cons_succ])
      refine stepL2 2 9 rfl rfl (by kernel_rfl) rfl rfl (fun K hK => ?ord4_1_tw_2) (fun K hK => ?ord4_1_tw_9)
      case' ord4_1_tw_2 =>
        (go_simp; (with_reducible refine ((HBLK.out _ (HV.out _ H.chg))).mono ?_); rintro e w' ⟨A28, c28, rfl, ho, hb⟩; replace H := H.pushRow hb ho; clear ho; first | (replace HS0 := below_two HS0 HS0.size hb; clear hb; refine hK.out _ _ (fun _ _ => HS0) ?_; clear K hK) | (refine hK.out _ _ (fun _ h => below_two h h.size hb) ?_; clear hb K hK))
        (try simp only [Act.put, List.setIfInBounds_toArray, List.set_cons_zero, List.set_cons_succ])
        refine stepL2 5 9 rfl rfl (by kernel_rfl) rfl rfl (fun K hK => ?ord4_2_tw_5) (fun K hK => ?ord4_2_tw_9)
        case' ord4_2_tw_5 =>
          (go_simp; have q := HPUT.out (.slice A28 mb c28) _ (H.subS (D := bankL bk bd bo bm vw ss t st u)) (fun w2 hc2 => HT.out _ (H.chgS (D := bankL bk bd bo bm vw ss t st u) hc2)) (fun w2 hc2 => by first | exact OR.reads (H.keepHd (D := bankL bk bd bo bm vw ss t st u) hc2) | exact OR.reads ((H.perm (List.Perm.swap _ _ _)).keepHd (D := bankL bk bd bo bm vw ss t st u) hc2)); (with_reducible refine q.mono ?_); rintro e w' ⟨rfl, vw5, ss5, kk⟩; replace H := H.viaS kk; (try dsimp only at H); clear kk q; refine hK.out _ _ (fun h => by cases h) ?_; clear K hK HS0)
          (try simp only [Act.put, List.setIfInBounds_toArray, List.set_cons_zero, List.set_cons_succ])
          refine takeP 6 rfl (by kernel_rfl) (by kernel_rfl) (by kernel_rfl) (by kernel_rfl) (fun _ _ _ h => h) rfl (v := ?_) ?_ ?_
          rotate_left
          · intro w'; go_simp; (try with_reducible rfl)
          (try simp only [Act.put, List.setIfInBounds_toArray, List.set_cons_zero, List.set_cons_succ])
          refine takeP 7 rfl (by kernel_rfl) (by kernel_rfl) (by kernel_rfl) (by kernel_rfl) (fun _ _ _ h => h) rfl (v := ?_) ?_ ?_
          rotate_left
          · intro w'; go_simp; (try with_reducible rfl)
          (try simp only [Act.put, List.setIfInBounds_toArray, List.set_cons_zero, List.set_cons_succ])
          refine takeP 8 rfl (by kernel_rfl) (by kernel_rfl) (by kernel_rfl) (by kernel_rfl) (fun _ _ _ h => h) rfl (v := ?_) ?_ ?_
          rotate_left
          · intro w'; go_simp; (try with_reducible rfl)
          (try simp only [Act.put, List.setIfInBounds_toArray, List.set_cons_zero, List.set_cons_succ])
          refine stepL 9 rfl (by kernel_rfl) rfl (fun K hK => ?_)
          refine oAlloc H rfl ?_; clear H; intro b10 w10 hb H; first | (replace HS0 := below_two HS0 HS0.size hb; clear hb; refine hK.out _ _ (fun _ _ => HS0) ?_; clear K hK) | (refine hK.out _ _ (fun _ h => below_two h h.size hb) ?_; clear hb K hK)
          (try simp only [Act.put, List.setIfInBounds_toArray, List.set_cons_zero, List.set_cons_succ])
          refine stepL 10 rfl (by kernel_rfl) rfl (fun K hK => ?_)
          (refine oStore H _ _ rfl rfl rfl ⟨by rfl, HQL.out⟩ HQO.out ?_; clear H; intro w' H; (try dsimp only at H); refine hK.out _ _ (fun h => by cases h) ?_; clear K hK)
          (try simp only [Act.put, List.setIfInBounds_toArray, List.set_cons_zero, List.set_cons_succ])
          refine takeP 11 rfl (by kernel_rfl) (by kernel_rfl) (by kernel_rfl) (by kernel_rfl) (fun _ _ _ h => h) rfl (v := ?_) ?_ ?_
          rotate_left
          · intro w'; go_simp; (try with_reducible rfl)
          (try simp only [Act.put, List.setIfInBounds_toArray, List.set_cons_zero, List.set_cons_succ])
          refine doneL (by kernel_rfl) ?_
        case' ord4_2_tw_9 =>
          refine oAlloc H rfl ?_; clear H; intro b10 w10 hb H; first | (replace HS0 := below_two HS0 HS0.size hb; clear hb; refine hK.out _ _ (fun _ _ => HS0) ?_; clear K hK) | (refine hK.out _ _ (fun _ h => below_two h h.size hb) ?_; clear hb K hK)
          (try simp only [Act.put, List.setIfInBounds_toArray, List.set_cons_zero, List.set_cons_succ])
          refine stepL 5 rfl (by kernel_rfl) rfl (fun K hK => ?_)
          (go_simp; have q := HPUT.out (.slice A28 mb c28) _ (H.subS (D := bankL bk bd bo bm vw ss t st u)) (fun w2 hc2 => HT.out _ (H.chgS (D := bankL bk bd bo bm vw ss t st u) hc2)) (fun w2 hc2 => by first | exact OR.reads (H.keepHd (D := bankL bk bd bo bm vw ss t st u) hc2) | exact OR.reads ((H.perm (List.Perm.swap _ _ _)).keepHd (D := bankL bk bd bo bm vw ss t st u) hc2)); (with_reducible refine q.mono ?_); rintro e w' ⟨rfl, vw5, ss5, kk⟩; replace H := H.viaS kk; (try dsimp only at H); clear kk q; refine hK.out _ _ (fun h => by cases h) ?_; clear K hK HS0)
          (try simp only [Act.put, List.setIfInBounds_toArray, List.set_cons_zero, List.set_cons_succ])
          refine takeP 6 rfl (by kernel_rfl) (by kernel_rfl) (by kernel_rfl) (by kernel_rfl) (fun _ _ _ h => h) rfl (v := ?_) ?_ ?_
          rotate_left
          · intro w'; go_simp; (try with_reducible rfl)
          (try simp only [Act.put, List.setIfInBounds_toArray, List.set_cons_zero, List.set_cons_succ])
          refine takeP 7 rfl (by kernel_rfl) (by kernel_rfl) (by kernel_rfl) (by kernel_rfl) (fun _ _ _ h => h) rfl (v := ?_) ?_ ?_
          rotate_left
          · intro w'; go_simp; (try with_reducible rfl)
          (try simp only [Act.put, List.setIfInBounds_toArray, List.set_cons_zero, List.set_cons_succ])
          refine takeP 8 rfl (by kernel_rfl) (by kernel_rfl) (by kernel_rfl) (by kernel_rfl) (fun _ _ _ h => h) rfl (v := ?_) ?_ ?_
          rotate_left
          · intro w'; go_simp; (try with_reducible rfl)
          (try simp only [Act.put, List.setIfInBounds_toArray, List.set_cons_zero, List.set_cons_succ])
          refine stepL 10 rfl (by kernel_rfl) rfl (fun K hK => ?_)
          (refine oStore H _ _ rfl rfl rfl ⟨by rfl, HQL.out⟩ HQO.out ?_; clear H; intro w' H; (try dsimp only at H); refine hK.out _ _ (fun h => by cases h) ?_; clear K hK)
          (try simp only [Act.put, List.setIfInBounds_toArray, List.set_cons_zero, List.set_cons_succ])
          refine takeP 11 rfl (by kernel_rfl) (by kernel_rfl) (by kernel_rfl) (by kernel_rfl) (fun _ _ _ h => h) rfl (v := ?_) ?_ ?_
          rotate_left
          · intro w'; go_simp; (try with_reducible rfl)
          (try simp only [Act.put, List.setIfInBounds_toArray, List.set_cons_zero, List.set_cons_succ])
          refine doneL (by kernel_rfl) ?_
      case' ord4_1_tw_9 =>
        refine oAlloc H rfl ?_; clear H; intro b10 w10 hb H; first | (replace HS0 := below_two HS0 HS0.size hb; clear hb; refine hK.out _ _ (fun _ _ => HS0) ?_; clear K hK) | (refine hK.out _ _ (fun _ h => below_two h h.size hb) ?_; clear hb K hK)
        (try simp only [Act.put, List.setIfInBounds_toArray, List.set_cons_zero, List.set_cons_succ])
        refine stepL 2 rfl (by kernel_rfl) rfl (fun K hK => ?_)
        (go_simp; (with_reducible refine ((HBLK.out _ (HV.out _ H.chg))).mono ?_); rintro e w' ⟨A28, c28, rfl, ho, hb⟩; replace H := H.pushRow hb ho; clear ho; first | (replace HS0 := below_two HS0 HS0.size hb; clear hb; refine hK.out _ _ (fun _ _ => HS0) ?_; clear K hK) | (refine hK.out _ _ (fun _ h => below_two h h.size hb) ?_; clear hb K hK))
        (try simp only [Act.put, List.setIfInBounds_toArray, List.set_cons_zero, List.set_cons_succ])
        refine stepL 5 rfl (by kernel_rfl) rfl (fun K hK => ?_)
        (go_simp; have q := HPUT.out (.slice A28 mb c28) _ (H.subS (D := bankL bk bd bo bm vw ss t st u)) (fun w2 hc2 => HT.out _ (H.chgS (D := bankL bk bd bo bm vw ss t st u) hc2)) (fun w2 hc2 => by first | exact OR.reads (H.keepHd (D := bankL bk bd bo bm vw ss t st u) hc2) | exact OR.reads ((H.perm (List.Perm.swap _ _ _)).keepHd (D := bankL bk bd bo bm vw ss t st u) hc2)); (with_reducible refine q.mono ?_); rintro e w' ⟨rfl, vw5, ss5, kk⟩; replace H := H.viaS kk; (try dsimp only at H); clear kk q; refine hK.out _ _ (fun h => by cases h) ?_; clear K hK HS0)
        (try simp only [Act.put, List.setIfInBounds_toArray, List.set_cons_zero, List.set_cons_succ])
        refine takeP 6 rfl (by kernel_rfl) (by kernel_rfl) (by kernel_rfl) (by kernel_rfl) (fun _ _ _ h => h) rfl (v := ?_) ?_ ?_
        rotate_left
        · intro w'; go_simp; (try with_reducible rfl)
        (try simp only [Act.put, List.setIfInBounds_toArray, List.set_cons_zero, List.set_cons_succ])
        refine takeP 7 rfl (by kernel_rfl) (by kernel_rfl) (by kernel_rfl) (by kernel_rfl) (fun _ _ _ h => h) rfl (v := ?_) ?_ ?_
        rotate_left
        · intro w'; go_simp; (try with_reducible rfl)
        (try simp only [Act.put, List.setIfInBounds_toArray, List.set_cons_zero, List.set_cons_succ])
        refine takeP 8 rfl (by kernel_rfl) (by kernel_rfl) (by kernel_rfl) (by kernel_rfl) (fun _ _ _ h => h) rfl (v := ?_) ?_ ?_
        rotate_left
        · intro w'; go_simp; (try with_reducible rfl)
        (try simp only [Act.put, List.setIfInBounds_toArray, List.set_cons_zero, List.set_cons_succ])
        refine stepL 10 rfl (by kernel_rfl) rfl (fun K hK => ?_)
        (refine oStore H _ _ rfl rfl rfl ⟨by rfl, HQL.out⟩ HQO.out ?_; clear H; intro w' H; (try dsimp only at H); refine hK.out _ _ (fun h => by cases h) ?_; clear K hK)
        (try simp only [Act.put, List.setIfInBounds_toArray, List.set_cons_zero, List.set_cons_succ])
        refine takeP 11 rfl (by kernel_rfl) (by kernel_rfl) (by kernel_rfl) (by kernel_rfl) (fun _ _ _ h => h) rfl (v := ?_) ?_ ?_
        rotate_left
        · intro w'; go_simp; (try with_reducible rfl)
        (try simp only [Act.put, List.setIfInBounds_toArray, List.set_cons_zero, List.set_cons_succ])
        refine doneL (by kernel_rfl) ?_
      all_goals
        clear HH
        go_wp2_with (first
          | ((with_reducible refine gDst 22 ?_); replace H : SH F w _ (.blk b9 56 TD.nil.cells :: .blk b8 56 TD.nil.cells :: .blk b7 33 p.cells :: .blk b6 54 X :: bankL bk bd bo bm vw ss t st u) := H; refine aLoad1 H _ rfl rfl HC0.out rfl ?_)
          | ((with_reducible refine gDst 34 ?_); refine aLoad H _ rfl rfl (part_all HQL.out) HQL.out rfl ?_)
          | ((with_reducible refine gDst 42 ?_); refine aLoad H _ rfl rfl (part_all HPL.out) HPL.out rfl ?_)
          | ((with_reducible refine gDst 55 ?_); refine aLoad H _ rfl rfl (part_all HPL.out) HPL.out rfl ?_)
          | ((with_reducible refine gDst 67 ?_); refine aLoad H _ rfl rfl (part_all HPL.out) HPL.out rfl ?_)
          | ((with_reducible refine gDst 93 ?_); refine aLoad1 H _ rfl rfl HC3.out rfl ?_)
          | ((with_reducible refine gDst 102 ?_); refine aLoad1 H _ rfl rfl HC3.out rfl ?_)
          | ((with_reducible refine gDst 95 ?_); refine aLoad1 H _ rfl rfl HC39.out rfl ?_)
          | ((with_reducible refine gDst 113 ?_); refine aLoad H _ rfl rfl (part_all (TD.len _)) (TD.len _) rfl ?_)
          | ((with_reducible refine gSto (.tmp 35) (.tmp 34) ?_); refine aLay H _ _ rfl rfl rfl ⟨by rw [TD.len]; decide, HQL.out⟩ HQO.out (TD.setP _ _) rfl ?_; clear H; intro w' H; (try dsimp only at H))
          | ((with_reducible refine gSto (.tmp 48) (.tmp 47) ?_); refine aCell H _ _ rfl rfl (rfl : _ = Value.string _) (by rfl) (by rfl) (by rw [TD.len]; decide) (TD.setB _ _) rfl ?_; clear H; intro w' H; (try dsimp only at H))
          | ((with_reducible refine gSto (.tmp 60) (.tmp 59) ?_); refine aLay H _ _ rfl rfl rfl ⟨by rw [TD.len]; decide, by rfl⟩ (by rfl) (TD.setG _ _ _) rfl ?_; clear H; intro w' H; (try dsimp only at H))
          | ((with_reducible refine gSto (.tmp 72) (.tmp 71) ?_); refine aCell H _ _ rfl rfl (rfl : _ = Value.int _ _) (by rfl) (by rfl) (by rw [TD.len]; decide) (TD.setN _ _) rfl ?_; clear H; intro w' H; (try dsimp only at H))
          | ((with_reducible refine gSto (.tmp 86) (.tmp 85) ?_); refine aCell H _ _ rfl rfl (rfl : _ = Value.int _ _) (by rfl) (by rfl) (by rw [TD.len]; decide) (TD.setN _ _) rfl ?_; clear H; intro w' H; (try dsimp only at H))
          | ((first | (with_reducible refine gSto (.tmp 37) (.tmp 36) ?_) | (with_reducible refine gSto (.tmp 50) (.tmp 49) ?_) | (with_reducible refine gSto (.tmp 62) (.tmp 61) ?_) | (with_reducible refine gSto (.tmp 74) (.tmp 73) ?_) | (with_reducible refine gSto (.tmp 88) (.tmp 87) ?_) | (with_reducible refine gSto (.tmp 97) (.tmp 96) ?_) | (with_reducible refine gSto (.tmp 112) (.tmp 111) ?_)); refine aCell H _ _ rfl rfl (rfl : _ = Value.int _ _) (by rfl) (by rfl) (by rw [TD.len]; decide) (TD.setE _ _) rfl ?_; clear H; intro w' H; (try dsimp only at H))
          | ((with_reducible refine gSto (.tmp 8) (.tmp 113) ?_); refine aStore H _ _ rfl rfl rfl ⟨TD.len _, TD.len _⟩ (TD.one _) rfl ?_; clear H; intro w' H; (try dsimp only at H))
          | ((with_reducible refine gDst 47 ?_); first | refine aStr H _ rfl rfl rfl ?_ | refine stepV (xStr _ rfl rfl (HOLD.rdOne (RR.nil _))) rfl ?_)
          | (go_at_call 18; refine (HRD.out _ (HOLD.suf (D := bankL bk bd bo bm vw ss t st u) H.hold)).mono ?_; first | (rintro e w' ⟨A9, c9, rfl, ho, hb⟩; replace H := H.pushRow hb ho; clear hb ho) | (rintro e w' ⟨rfl, hb⟩; replace H := H.step hb; clear hb))
          | (go_at_call 21; refine (HLK.out _ (HOLD.suf (D := bankL bk bd bo bm vw ss t st u) H.hold)).mono ?_; rintro e w' ⟨rfl, hb⟩; replace H := H.step hb; clear hb)
          | (go_at_call 22; refine (HHL.out _ (H.subS (D := bankL bk bd bo bm vw ss t st u))).mono ?_; rintro e w' ⟨rfl, vw5, ss5, kk⟩; replace H := H.viaS kk; (try dsimp only at H); clear kk)
          | (go_at_call 20; refine (HRT.out _ (H.subS (D := bankL bk bd bo bm vw ss t st u)) (fun w' hc => HV.out _ (H.chgS (D := bankL bk bd bo bm vw ss t st u) hc))).mono ?_; rintro e w' ⟨rfl, kk⟩; replace H := H.viaS kk; (try dsimp only at H); clear kk)
          | (go_at_call 45; refine (HFU.out _ (H.subS (D := bankL bk bd bo bm vw ss t st u))).mono ?_; rintro e w' ⟨rfl, kk⟩; replace H := H.viaS kk; (try dsimp only at H); clear kk)
          | (go_at_call 51; refine (HCR.out _ (H.subS (D := bankL bk bd bo bm vw ss t st u))).mono ?_; rintro e w' ⟨rfl, kk⟩; replace H := H.viaS kk; (try dsimp only at H); clear kk)
          | (go_at_call 19; refine (HFL.out _ (H.subS (D := bankL bk bd bo bm vw ss t st u))).mono ?_; rintro e w' ⟨rfl, vw5, ss5, kk⟩; replace H := H.viaS kk; (try dsimp only at H); clear kk)
          | ((with_reducible refine gDst 6 ?_); refine aBox H _ rfl rfl rfl ?_; clear H; intro b6 w6 H)
          | ((with_reducible refine gDst 7 ?_); refine aBox H _ rfl rfl rfl ?_; clear H; intro b7 w7 H)
          | ((with_reducible refine gDst 8 ?_); refine aAlloc H rfl rfl ?_; clear H; intro b8 w8 H)
          | ((with_reducible refine gDst 9 ?_); refine aAlloc H rfl rfl ?_; clear H; intro b9 w9 H)
          | ((with_reducible refine gDst 14 ?_); refine aAlloc H rfl rfl ?_; clear H; intro b14 w14 H)
          | ((with_reducible refine gLoad ?_); first | (refine aLoad1 H _ rfl rfl (by first | exact (rfl : _ = some (Value.int _ _)) | exact (rfl : _ = some (Value.slice _ _ _)) | exact (rfl : _ = some (Value.bool _)) | exact (rfl : _ = some (Value.string _)) | exact (rfl : _ = some (Value.pointer _)) | rfl | (simp [List.getElem?_append]; done)) rfl ?_) | (refine aLoadC _ rfl rfl (by assumption) rfl ?_) | (refine aLoad H _ rfl rfl (by first | exact part_all (by first | rfl | simp []) | (simp only [List.drop_succ_cons, List.drop_zero, List.take_succ_cons, List.take_zero]; rfl) | (simp [List.drop_append, List.take_append]; rfl)) (by first | rfl | simp []) rfl ?_))
          | ((with_reducible refine gBuild ?_); refine aZero rfl rfl ?_)
          | ((with_reducible refine gStore ?_); (first | (refine aCell H _ _ rfl rfl (by first | exact (rfl : _ = Value.int _ _) | exact (rfl : _ = Value.bool _) | exact (rfl : _ = Value.slice _ _ _) | exact (rfl : _ = Value.string _) | exact (rfl : _ = Value.pointer _) | exact (rfl : _ = Value.func _ _ _) | rfl) (by rfl) (by rfl) (by first | exact of_decide_eq_true rfl | (simp []; done) | (simp []; omega)) (by first | (simp only [List.set_cons_zero, List.set_cons_succ]; rfl) | (simp [List.set_append]; rfl)) rfl ?_) | (refine aStore H _ _ rfl rfl rfl (by (first | exact ⟨rfl, rfl⟩ | exact ⟨by decide, rfl⟩ | (simp []; done) | (constructor <;> simp [] <;> omega))) (by first | rfl | simp [List.all_append, one_all]) rfl ?_) | (refine aLay H _ _ rfl rfl rfl (by (first | exact ⟨rfl, rfl⟩ | exact ⟨by decide, rfl⟩ | (simp []; done) | (constructor <;> simp [] <;> omega))) (by first | rfl | simp [List.all_append, one_all]) (by simp only [lay, List.take_succ_cons, List.take_zero, List.drop_succ_cons, List.drop_zero, List.nil_append, List.cons_append, List.length_cons, List.length_nil, Nat.zero_add, Nat.reduceAdd]; rfl) rfl ?_)); clear H; intro w' H; try dsimp only at H)
          | ((with_reducible refine gConv ?_); first | (refine aStr H _ rfl rfl rfl ?_)))
        refine bodyPost_ret (res_cell rfl _ H.hold rfl (TD.len _)) rfl ?_
        exact ⟨rfl, vw5, ss5, H.tail.tail.tail.tail.tail.tail⟩
  by_cases k2 : kd = 2
  · subst k2
    by_cases hE : brE st u.length p = 0
    · have e : doR t st u ⟨2, cp, wh, a, pp, b⟩ p = ({ TD.nil with b := brB st u.length p, e := 0 }, st, u) := by
        rw [doR, if_neg (show ¬ ((2 : Int) = 1) by decide), if_pos rfl, hE, if_pos rfl]
      rw [e]
      rw [hE] at hRD
      have HRD : Hid (∀ W, HOLD (bankL bk bd bo bm vw ss t st u) W → Calls Tryd.prog 18 #[.pointer (some ⟨bk, 0, none⟩), .agg p.cells.toArray] W fun e w' => ∃ A c, e = .returned (.tuple #[.slice A (brB st u.length p).length c, .int .i64 0]) ∧ OB w' W.heap.size (.slice A (brB st u.length p).length c) (brB st u.length p) ∧ Below W.heap.size W w') := Lib.hid fun W q => (hRD W q).mono fun e w' ⟨v, h1, h2, _, h3⟩ => by
        obtain ⟨A, c, rfl, -⟩ := (h2 rfl).reads.len
        exact ⟨A, c, h1, h2 rfl, h3⟩
      clear e hRD HLK hHL hFX hPUT hRT HFU HCR HFL hk hF hE
      generalize brB st u.length p = B at *
      generalize B.length = bl at *
      have HXL := Lib.hid (acC_len 2 cp wh a pp (.slice A b.length c))
      have HC0 := Lib.hid (show (acC 2 cp wh a pp (.slice A b.length c))[0]? = some (.int .i64 2) from rfl)
      have HC1 := Lib.hid (show (acC 2 cp wh a pp (.slice A b.length c))[1]? = some (.int .i64 cp) from rfl)
      have HC3 := Lib.hid (show (acC 2 cp wh a pp (.slice A b.length c))[3]? = some (.int .i64 a) from rfl)
      have HC39 := Lib.hid (acC_39 2 cp wh a pp (.slice A b.length c))
      generalize acC 2 cp wh a pp (.slice A b.length c) = X at *
      have HPL := Lib.hid p.len
      generalize hbn : b.length = bn at *
      clear hbn
      go_enter Tryd.func25, Tryd.ntmps25
      go_wp2_with (first
        | ((with_reducible refine gDst 22 ?_); replace H : SH F w _ (.blk b9 56 TD.nil.cells :: .blk b8 56 TD.nil.cells :: .blk b7 33 p.cells :: .blk b6 54 X :: bankL bk bd bo bm vw ss t st u) := H; refine aLoad1 H _ rfl rfl HC0.out rfl ?_)
        | ((with_reducible refine gDst 34 ?_); refine aLoad H _ rfl rfl (part_all HQL.out) HQL.out rfl ?_)
        | ((with_reducible refine gDst 42 ?_); refine aLoad H _ rfl rfl (part_all HPL.out) HPL.out rfl ?_)
        | ((with_reducible refine gDst 55 ?_); refine aLoad H _ rfl rfl (part_all HPL.out) HPL.out rfl ?_)
        | ((with_reducible refine gDst 67 ?_); refine aLoad H _ rfl rfl (part_all HPL.out) HPL.out rfl ?_)
        | ((with_reducible refine gDst 93 ?_); refine aLoad1 H _ rfl rfl HC3.out rfl ?_)
        | ((with_reducible refine gDst 102 ?_); refine aLoad1 H _ rfl rfl HC3.out rfl ?_)
        | ((with_reducible refine gDst 95 ?_); refine aLoad1 H _ rfl rfl HC39.out rfl ?_)
        | ((with_reducible refine gDst 113 ?_); refine aLoad H _ rfl rfl (part_all (TD.len _)) (TD.len _) rfl ?_)
        | ((with_reducible refine gSto (.tmp 35) (.tmp 34) ?_); refine aLay H _ _ rfl rfl rfl ⟨by rw [TD.len]; decide, HQL.out⟩ HQO.out (TD.setP _ _) rfl ?_; clear H; intro w' H; (try dsimp only at H))
        | ((with_reducible refine gSto (.tmp 48) (.tmp 47) ?_); refine aCell H _ _ rfl rfl (rfl : _ = Value.string _) (by rfl) (by rfl) (by rw [TD.len]; decide) (TD.setB _ _) rfl ?_; clear H; intro w' H; (try dsimp only at H))
        | ((with_reducible refine gSto (.tmp 60) (.tmp 59) ?_); refine aLay H _ _ rfl rfl rfl ⟨by rw [TD.len]; decide, by rfl⟩ (by rfl) (TD.setG _ _ _) rfl ?_; clear H; intro w' H; (try dsimp only at H))
        | ((with_reducible refine gSto (.tmp 72) (.tmp 71) ?_); refine aCell H _ _ rfl rfl (rfl : _ = Value.int _ _) (by rfl) (by rfl) (by rw [TD.len]; decide) (TD.setN _ _) rfl ?_; clear H; intro w' H; (try dsimp only at H))
        | ((with_reducible refine gSto (.tmp 86) (.tmp 85) ?_); refine aCell H _ _ rfl rfl (rfl : _ = Value.int _ _) (by rfl) (by rfl) (by rw [TD.len]; decide) (TD.setN _ _) rfl ?_; clear H; intro w' H; (try dsimp only at H))
        | ((first | (with_reducible refine gSto (.tmp 37) (.tmp 36) ?_) | (with_reducible refine gSto (.tmp 50) (.tmp 49) ?_) | (with_reducible refine gSto (.tmp 62) (.tmp 61) ?_) | (with_reducible refine gSto (.tmp 74) (.tmp 73) ?_) | (with_reducible refine gSto (.tmp 88) (.tmp 87) ?_) | (with_reducible refine gSto (.tmp 97) (.tmp 96) ?_) | (with_reducible refine gSto (.tmp 112) (.tmp 111) ?_)); refine aCell H _ _ rfl rfl (rfl : _ = Value.int _ _) (by rfl) (by rfl) (by rw [TD.len]; decide) (TD.setE _ _) rfl ?_; clear H; intro w' H; (try dsimp only at H))
        | ((with_reducible refine gSto (.tmp 8) (.tmp 113) ?_); refine aStore H _ _ rfl rfl rfl ⟨TD.len _, TD.len _⟩ (TD.one _) rfl ?_; clear H; intro w' H; (try dsimp only at H))
        | ((with_reducible refine gDst 47 ?_); first | refine aStr H _ rfl rfl rfl ?_ | refine stepV (xStr _ rfl rfl (HOLD.rdOne (RR.nil _))) rfl ?_)
        | (go_at_call 18; refine (HRD.out _ (HOLD.suf (D := bankL bk bd bo bm vw ss t st u) H.hold)).mono ?_; first | (rintro e w' ⟨A9, c9, rfl, ho, hb⟩; replace H := H.pushRow hb ho; clear hb ho) | (rintro e w' ⟨rfl, hb⟩; replace H := H.step hb; clear hb))
        | (go_at_call 21; refine (HLK.out _ (HOLD.suf (D := bankL bk bd bo bm vw ss t st u) H.hold)).mono ?_; rintro e w' ⟨rfl, hb⟩; replace H := H.step hb; clear hb)
        | (go_at_call 22; refine (HHL.out _ (H.subS (D := bankL bk bd bo bm vw ss t st u))).mono ?_; rintro e w' ⟨rfl, vw5, ss5, kk⟩; replace H := H.viaS kk; (try dsimp only at H); clear kk)
        | (go_at_call 20; refine (HRT.out _ (H.subS (D := bankL bk bd bo bm vw ss t st u)) (fun w' hc => HV.out _ (H.chgS (D := bankL bk bd bo bm vw ss t st u) hc))).mono ?_; rintro e w' ⟨rfl, kk⟩; replace H := H.viaS kk; (try dsimp only at H); clear kk)
        | (go_at_call 45; refine (HFU.out _ (H.subS (D := bankL bk bd bo bm vw ss t st u))).mono ?_; rintro e w' ⟨rfl, kk⟩; replace H := H.viaS kk; (try dsimp only at H); clear kk)
        | (go_at_call 51; refine (HCR.out _ (H.subS (D := bankL bk bd bo bm vw ss t st u))).mono ?_; rintro e w' ⟨rfl, kk⟩; replace H := H.viaS kk; (try dsimp only at H); clear kk)
        | (go_at_call 19; refine (HFL.out _ (H.subS (D := bankL bk bd bo bm vw ss t st u))).mono ?_; rintro e w' ⟨rfl, vw5, ss5, kk⟩; replace H := H.viaS kk; (try dsimp only at H); clear kk)
        | ((with_reducible refine gDst 6 ?_); refine aBox H _ rfl rfl rfl ?_; clear H; intro b6 w6 H)
        | ((with_reducible refine gDst 7 ?_); refine aBox H _ rfl rfl rfl ?_; clear H; intro b7 w7 H)
        | ((with_reducible refine gDst 8 ?_); refine aAlloc H rfl rfl ?_; clear H; intro b8 w8 H)
        | ((with_reducible refine gDst 9 ?_); refine aAlloc H rfl rfl ?_; clear H; intro b9 w9 H)
        | ((with_reducible refine gDst 14 ?_); refine aAlloc H rfl rfl ?_; clear H; intro b14 w14 H)
        | ((with_reducible refine gLoad ?_); first | (refine aLoad1 H _ rfl rfl (by first | exact (rfl : _ = some (Value.int _ _)) | exact (rfl : _ = some (Value.slice _ _ _)) | exact (rfl : _ = some (Value.bool _)) | exact (rfl : _ = some (Value.string _)) | exact (rfl : _ = some (Value.pointer _)) | rfl | (simp [List.getElem?_append]; done)) rfl ?_) | (refine aLoadC _ rfl rfl (by assumption) rfl ?_) | (refine aLoad H _ rfl rfl (by first | exact part_all (by first | rfl | simp []) | (simp only [List.drop_succ_cons, List.drop_zero, List.take_succ_cons, List.take_zero]; rfl) | (simp [List.drop_append, List.take_append]; rfl)) (by first | rfl | simp []) rfl ?_))
        | ((with_reducible refine gBuild ?_); refine aZero rfl rfl ?_)
        | ((with_reducible refine gStore ?_); (first | (refine aCell H _ _ rfl rfl (by first | exact (rfl : _ = Value.int _ _) | exact (rfl : _ = Value.bool _) | exact (rfl : _ = Value.slice _ _ _) | exact (rfl : _ = Value.string _) | exact (rfl : _ = Value.pointer _) | exact (rfl : _ = Value.func _ _ _) | rfl) (by rfl) (by rfl) (by first | exact of_decide_eq_true rfl | (simp []; done) | (simp []; omega)) (by first | (simp only [List.set_cons_zero, List.set_cons_succ]; rfl) | (simp [List.set_append]; rfl)) rfl ?_) | (refine aStore H _ _ rfl rfl rfl (by (first | exact ⟨rfl, rfl⟩ | exact ⟨by decide, rfl⟩ | (simp []; done) | (constructor <;> simp [] <;> omega))) (by first | rfl | simp [List.all_append, one_all]) rfl ?_) | (refine aLay H _ _ rfl rfl rfl (by (first | exact ⟨rfl, rfl⟩ | exact ⟨by decide, rfl⟩ | (simp []; done) | (constructor <;> simp [] <;> omega))) (by first | rfl | simp [List.all_append, one_all]) (by simp only [lay, List.take_succ_cons, List.take_zero, List.drop_succ_cons, List.drop_zero, List.nil_append, List.cons_append, List.length_cons, List.length_nil, Nat.zero_add, Nat.reduceAdd]; rfl) rfl ?_)); clear H; intro w' H; try dsimp only at H)
        | ((with_reducible refine gConv ?_); first | (refine aStr H _ rfl rfl rfl ?_)))
      refine bodyPost_ret (res_cell rfl _ H.hold rfl (TD.len _)) rfl ?_
      exact ⟨rfl, vw, ss, H.tail.tail.tail.tail.tail⟩
    · have e : doR t st u ⟨2, cp, wh, a, pp, b⟩ p = ({ TD.nil with b := [], e := brE st u.length p }, st, u) := by
        rw [doR, if_neg (show ¬ ((2 : Int) = 1) by decide), if_pos rfl, if_neg hE]
      rw [e]
      have HRD : Hid (∀ W, HOLD (bankL bk bd bo bm vw ss t st u) W → Calls Tryd.prog 18 #[.pointer (some ⟨bk, 0, none⟩), .agg p.cells.toArray] W fun e w' => e = .returned (.tuple #[.slice none 0 0, .int .i64 (brE st u.length p)]) ∧ Below W.heap.size W w') := Lib.hid fun W q => (hRD W q).mono fun e w' ⟨v, h1, _, h2, h3⟩ => by
        rw [h2 hE] at h1
        exact ⟨h1, h3⟩
      clear e hRD HLK hHL hFX hPUT hRT HFU HCR HFL hk hF hE
      generalize brE st u.length p = E at *
      have HXL := Lib.hid (acC_len 2 cp wh a pp (.slice A b.length c))
      have HC0 := Lib.hid (show (acC 2 cp wh a pp (.slice A b.length c))[0]? = some (.int .i64 2) from rfl)
      have HC1 := Lib.hid (show (acC 2 cp wh a pp (.slice A b.length c))[1]? = some (.int .i64 cp) from rfl)
      have HC3 := Lib.hid (show (acC 2 cp wh a pp (.slice A b.length c))[3]? = some (.int .i64 a) from rfl)
      have HC39 := Lib.hid (acC_39 2 cp wh a pp (.slice A b.length c))
      generalize acC 2 cp wh a pp (.slice A b.length c) = X at *
      have HPL := Lib.hid p.len
      generalize hbn : b.length = bn at *
      clear hbn
      go_enter Tryd.func25, Tryd.ntmps25
      go_wp2_with (first
        | ((with_reducible refine gDst 22 ?_); replace H : SH F w _ (.blk b9 56 TD.nil.cells :: .blk b8 56 TD.nil.cells :: .blk b7 33 p.cells :: .blk b6 54 X :: bankL bk bd bo bm vw ss t st u) := H; refine aLoad1 H _ rfl rfl HC0.out rfl ?_)
        | ((with_reducible refine gDst 34 ?_); refine aLoad H _ rfl rfl (part_all HQL.out) HQL.out rfl ?_)
        | ((with_reducible refine gDst 42 ?_); refine aLoad H _ rfl rfl (part_all HPL.out) HPL.out rfl ?_)
        | ((with_reducible refine gDst 55 ?_); refine aLoad H _ rfl rfl (part_all HPL.out) HPL.out rfl ?_)
        | ((with_reducible refine gDst 67 ?_); refine aLoad H _ rfl rfl (part_all HPL.out) HPL.out rfl ?_)
        | ((with_reducible refine gDst 93 ?_); refine aLoad1 H _ rfl rfl HC3.out rfl ?_)
        | ((with_reducible refine gDst 102 ?_); refine aLoad1 H _ rfl rfl HC3.out rfl ?_)
        | ((with_reducible refine gDst 95 ?_); refine aLoad1 H _ rfl rfl HC39.out rfl ?_)
        | ((with_reducible refine gDst 113 ?_); refine aLoad H _ rfl rfl (part_all (TD.len _)) (TD.len _) rfl ?_)
        | ((with_reducible refine gSto (.tmp 35) (.tmp 34) ?_); refine aLay H _ _ rfl rfl rfl ⟨by rw [TD.len]; decide, HQL.out⟩ HQO.out (TD.setP _ _) rfl ?_; clear H; intro w' H; (try dsimp only at H))
        | ((with_reducible refine gSto (.tmp 48) (.tmp 47) ?_); refine aCell H _ _ rfl rfl (rfl : _ = Value.string _) (by rfl) (by rfl) (by rw [TD.len]; decide) (TD.setB _ _) rfl ?_; clear H; intro w' H; (try dsimp only at H))
        | ((with_reducible refine gSto (.tmp 60) (.tmp 59) ?_); refine aLay H _ _ rfl rfl rfl ⟨by rw [TD.len]; decide, by rfl⟩ (by rfl) (TD.setG _ _ _) rfl ?_; clear H; intro w' H; (try dsimp only at H))
        | ((with_reducible refine gSto (.tmp 72) (.tmp 71) ?_); refine aCell H _ _ rfl rfl (rfl : _ = Value.int _ _) (by rfl) (by rfl) (by rw [TD.len]; decide) (TD.setN _ _) rfl ?_; clear H; intro w' H; (try dsimp only at H))
        | ((with_reducible refine gSto (.tmp 86) (.tmp 85) ?_); refine aCell H _ _ rfl rfl (rfl : _ = Value.int _ _) (by rfl) (by rfl) (by rw [TD.len]; decide) (TD.setN _ _) rfl ?_; clear H; intro w' H; (try dsimp only at H))
        | ((first | (with_reducible refine gSto (.tmp 37) (.tmp 36) ?_) | (with_reducible refine gSto (.tmp 50) (.tmp 49) ?_) | (with_reducible refine gSto (.tmp 62) (.tmp 61) ?_) | (with_reducible refine gSto (.tmp 74) (.tmp 73) ?_) | (with_reducible refine gSto (.tmp 88) (.tmp 87) ?_) | (with_reducible refine gSto (.tmp 97) (.tmp 96) ?_) | (with_reducible refine gSto (.tmp 112) (.tmp 111) ?_)); refine aCell H _ _ rfl rfl (rfl : _ = Value.int _ _) (by rfl) (by rfl) (by rw [TD.len]; decide) (TD.setE _ _) rfl ?_; clear H; intro w' H; (try dsimp only at H))
        | ((with_reducible refine gSto (.tmp 8) (.tmp 113) ?_); refine aStore H _ _ rfl rfl rfl ⟨TD.len _, TD.len _⟩ (TD.one _) rfl ?_; clear H; intro w' H; (try dsimp only at H))
        | ((with_reducible refine gDst 47 ?_); first | refine aStr H _ rfl rfl rfl ?_ | refine stepV (xStr _ rfl rfl (HOLD.rdOne (RR.nil _))) rfl ?_)
        | (go_at_call 18; refine (HRD.out _ (HOLD.suf (D := bankL bk bd bo bm vw ss t st u) H.hold)).mono ?_; first | (rintro e w' ⟨A9, c9, rfl, ho, hb⟩; replace H := H.pushRow hb ho; clear hb ho) | (rintro e w' ⟨rfl, hb⟩; replace H := H.step hb; clear hb))
        | (go_at_call 21; refine (HLK.out _ (HOLD.suf (D := bankL bk bd bo bm vw ss t st u) H.hold)).mono ?_; rintro e w' ⟨rfl, hb⟩; replace H := H.step hb; clear hb)
        | (go_at_call 22; refine (HHL.out _ (H.subS (D := bankL bk bd bo bm vw ss t st u))).mono ?_; rintro e w' ⟨rfl, vw5, ss5, kk⟩; replace H := H.viaS kk; (try dsimp only at H); clear kk)
        | (go_at_call 20; refine (HRT.out _ (H.subS (D := bankL bk bd bo bm vw ss t st u)) (fun w' hc => HV.out _ (H.chgS (D := bankL bk bd bo bm vw ss t st u) hc))).mono ?_; rintro e w' ⟨rfl, kk⟩; replace H := H.viaS kk; (try dsimp only at H); clear kk)
        | (go_at_call 45; refine (HFU.out _ (H.subS (D := bankL bk bd bo bm vw ss t st u))).mono ?_; rintro e w' ⟨rfl, kk⟩; replace H := H.viaS kk; (try dsimp only at H); clear kk)
        | (go_at_call 51; refine (HCR.out _ (H.subS (D := bankL bk bd bo bm vw ss t st u))).mono ?_; rintro e w' ⟨rfl, kk⟩; replace H := H.viaS kk; (try dsimp only at H); clear kk)
        | (go_at_call 19; refine (HFL.out _ (H.subS (D := bankL bk bd bo bm vw ss t st u))).mono ?_; rintro e w' ⟨rfl, vw5, ss5, kk⟩; replace H := H.viaS kk; (try dsimp only at H); clear kk)
        | ((with_reducible refine gDst 6 ?_); refine aBox H _ rfl rfl rfl ?_; clear H; intro b6 w6 H)
        | ((with_reducible refine gDst 7 ?_); refine aBox H _ rfl rfl rfl ?_; clear H; intro b7 w7 H)
        | ((with_reducible refine gDst 8 ?_); refine aAlloc H rfl rfl ?_; clear H; intro b8 w8 H)
        | ((with_reducible refine gDst 9 ?_); refine aAlloc H rfl rfl ?_; clear H; intro b9 w9 H)
        | ((with_reducible refine gDst 14 ?_); refine aAlloc H rfl rfl ?_; clear H; intro b14 w14 H)
        | ((with_reducible refine gLoad ?_); first | (refine aLoad1 H _ rfl rfl (by first | exact (rfl : _ = some (Value.int _ _)) | exact (rfl : _ = some (Value.slice _ _ _)) | exact (rfl : _ = some (Value.bool _)) | exact (rfl : _ = some (Value.string _)) | exact (rfl : _ = some (Value.pointer _)) | rfl | (simp [List.getElem?_append]; done)) rfl ?_) | (refine aLoadC _ rfl rfl (by assumption) rfl ?_) | (refine aLoad H _ rfl rfl (by first | exact part_all (by first | rfl | simp []) | (simp only [List.drop_succ_cons, List.drop_zero, List.take_succ_cons, List.take_zero]; rfl) | (simp [List.drop_append, List.take_append]; rfl)) (by first | rfl | simp []) rfl ?_))
        | ((with_reducible refine gBuild ?_); refine aZero rfl rfl ?_)
        | ((with_reducible refine gStore ?_); (first | (refine aCell H _ _ rfl rfl (by first | exact (rfl : _ = Value.int _ _) | exact (rfl : _ = Value.bool _) | exact (rfl : _ = Value.slice _ _ _) | exact (rfl : _ = Value.string _) | exact (rfl : _ = Value.pointer _) | exact (rfl : _ = Value.func _ _ _) | rfl) (by rfl) (by rfl) (by first | exact of_decide_eq_true rfl | (simp []; done) | (simp []; omega)) (by first | (simp only [List.set_cons_zero, List.set_cons_succ]; rfl) | (simp [List.set_append]; rfl)) rfl ?_) | (refine aStore H _ _ rfl rfl rfl (by (first | exact ⟨rfl, rfl⟩ | exact ⟨by decide, rfl⟩ | (simp []; done) | (constructor <;> simp [] <;> omega))) (by first | rfl | simp [List.all_append, one_all]) rfl ?_) | (refine aLay H _ _ rfl rfl rfl (by (first | exact ⟨rfl, rfl⟩ | exact ⟨by decide, rfl⟩ | (simp []; done) | (constructor <;> simp [] <;> omega))) (by first | rfl | simp [List.all_append, one_all]) (by simp only [lay, List.take_succ_cons, List.take_zero, List.drop_succ_cons, List.drop_zero, List.nil_append, List.cons_append, List.length_cons, List.length_nil, Nat.zero_add, Nat.reduceAdd]; rfl) rfl ?_)); clear H; intro w' H; try dsimp only at H)
        | ((with_reducible refine gConv ?_); first | (refine aStr H _ rfl rfl rfl ?_)))
      refine bodyPost_ret (res_cell rfl _ H.hold rfl (TD.len _)) rfl ?_
      exact ⟨rfl, vw, ss, H.tail.tail.tail.tail⟩
  by_cases k3 : kd = 3
  · subst k3
    generalize hE : ckE st p = E at *
    generalize hg0 : lkG st u.length p 0 = g0 at *
    generalize hg1 : lkG st u.length p 1 = g1 at *
    have e : doR t st u ⟨3, cp, wh, a, pp, b⟩ p = ({ TD.nil with g0 := g0, g1 := g1, e := E }, st, u) := by
      rw [doR, if_neg (show ¬ ((3 : Int) = 1) by decide), if_neg (show ¬ ((3 : Int) = 2) by decide), if_pos rfl, hE, hg0, hg1]
    rw [e]
    clear e hk hF
    clear hRD hHL hFX hPUT hRT HFU HCR HFL
    have HXL := Lib.hid (acC_len 3 cp wh a pp (.slice A b.length c))
    have HC0 := Lib.hid (show (acC 3 cp wh a pp (.slice A b.length c))[0]? = some (.int .i64 3) from rfl)
    have HC1 := Lib.hid (show (acC 3 cp wh a pp (.slice A b.length c))[1]? = some (.int .i64 cp) from rfl)
    have HC3 := Lib.hid (show (acC 3 cp wh a pp (.slice A b.length c))[3]? = some (.int .i64 a) from rfl)
    have HC39 := Lib.hid (acC_39 3 cp wh a pp (.slice A b.length c))
    generalize acC 3 cp wh a pp (.slice A b.length c) = X at *
    have HPL := Lib.hid p.len
    generalize hbn : b.length = bn at *
    clear hbn
    go_enter Tryd.func25, Tryd.ntmps25
    go_wp2_with (first
      | ((with_reducible refine gDst 22 ?_); replace H : SH F w _ (.blk b9 56 TD.nil.cells :: .blk b8 56 TD.nil.cells :: .blk b7 33 p.cells :: .blk b6 54 X :: bankL bk bd bo bm vw ss t st u) := H; refine aLoad1 H _ rfl rfl HC0.out rfl ?_)
      | ((with_reducible refine gDst 34 ?_); refine aLoad H _ rfl rfl (part_all HQL.out) HQL.out rfl ?_)
      | ((with_reducible refine gDst 42 ?_); refine aLoad H _ rfl rfl (part_all HPL.out) HPL.out rfl ?_)
      | ((with_reducible refine gDst 55 ?_); refine aLoad H _ rfl rfl (part_all HPL.out) HPL.out rfl ?_)
      | ((with_reducible refine gDst 67 ?_); refine aLoad H _ rfl rfl (part_all HPL.out) HPL.out rfl ?_)
      | ((with_reducible refine gDst 93 ?_); refine aLoad1 H _ rfl rfl HC3.out rfl ?_)
      | ((with_reducible refine gDst 102 ?_); refine aLoad1 H _ rfl rfl HC3.out rfl ?_)
      | ((with_reducible refine gDst 95 ?_); refine aLoad1 H _ rfl rfl HC39.out rfl ?_)
      | ((with_reducible refine gDst 113 ?_); refine aLoad H _ rfl rfl (part_all (TD.len _)) (TD.len _) rfl ?_)
      | ((with_reducible refine gSto (.tmp 35) (.tmp 34) ?_); refine aLay H _ _ rfl rfl rfl ⟨by rw [TD.len]; decide, HQL.out⟩ HQO.out (TD.setP _ _) rfl ?_; clear H; intro w' H; (try dsimp only at H))
      | ((with_reducible refine gSto (.tmp 48) (.tmp 47) ?_); refine aCell H _ _ rfl rfl (rfl : _ = Value.string _) (by rfl) (by rfl) (by rw [TD.len]; decide) (TD.setB _ _) rfl ?_; clear H; intro w' H; (try dsimp only at H))
      | ((with_reducible refine gSto (.tmp 60) (.tmp 59) ?_); refine aLay H _ _ rfl rfl rfl ⟨by rw [TD.len]; decide, by rfl⟩ (by rfl) (TD.setG _ _ _) rfl ?_; clear H; intro w' H; (try dsimp only at H))
      | ((with_reducible refine gSto (.tmp 72) (.tmp 71) ?_); refine aCell H _ _ rfl rfl (rfl : _ = Value.int _ _) (by rfl) (by rfl) (by rw [TD.len]; decide) (TD.setN _ _) rfl ?_; clear H; intro w' H; (try dsimp only at H))
      | ((with_reducible refine gSto (.tmp 86) (.tmp 85) ?_); refine aCell H _ _ rfl rfl (rfl : _ = Value.int _ _) (by rfl) (by rfl) (by rw [TD.len]; decide) (TD.setN _ _) rfl ?_; clear H; intro w' H; (try dsimp only at H))
      | ((first | (with_reducible refine gSto (.tmp 37) (.tmp 36) ?_) | (with_reducible refine gSto (.tmp 50) (.tmp 49) ?_) | (with_reducible refine gSto (.tmp 62) (.tmp 61) ?_) | (with_reducible refine gSto (.tmp 74) (.tmp 73) ?_) | (with_reducible refine gSto (.tmp 88) (.tmp 87) ?_) | (with_reducible refine gSto (.tmp 97) (.tmp 96) ?_) | (with_reducible refine gSto (.tmp 112) (.tmp 111) ?_)); refine aCell H _ _ rfl rfl (rfl : _ = Value.int _ _) (by rfl) (by rfl) (by rw [TD.len]; decide) (TD.setE _ _) rfl ?_; clear H; intro w' H; (try dsimp only at H))
      | ((with_reducible refine gSto (.tmp 8) (.tmp 113) ?_); refine aStore H _ _ rfl rfl rfl ⟨TD.len _, TD.len _⟩ (TD.one _) rfl ?_; clear H; intro w' H; (try dsimp only at H))
      | ((with_reducible refine gDst 47 ?_); first | refine aStr H _ rfl rfl rfl ?_ | refine stepV (xStr _ rfl rfl (HOLD.rdOne (RR.nil _))) rfl ?_)
      | (go_at_call 18; refine (HRD.out _ (HOLD.suf (D := bankL bk bd bo bm vw ss t st u) H.hold)).mono ?_; first | (rintro e w' ⟨A9, c9, rfl, ho, hb⟩; replace H := H.pushRow hb ho; clear hb ho) | (rintro e w' ⟨rfl, hb⟩; replace H := H.step hb; clear hb))
      | (go_at_call 21; refine (HLK.out _ (HOLD.suf (D := bankL bk bd bo bm vw ss t st u) H.hold)).mono ?_; rintro e w' ⟨rfl, hb⟩; replace H := H.step hb; clear hb)
      | (go_at_call 22; refine (HHL.out _ (H.subS (D := bankL bk bd bo bm vw ss t st u))).mono ?_; rintro e w' ⟨rfl, vw5, ss5, kk⟩; replace H := H.viaS kk; (try dsimp only at H); clear kk)
      | (go_at_call 20; refine (HRT.out _ (H.subS (D := bankL bk bd bo bm vw ss t st u)) (fun w' hc => HV.out _ (H.chgS (D := bankL bk bd bo bm vw ss t st u) hc))).mono ?_; rintro e w' ⟨rfl, kk⟩; replace H := H.viaS kk; (try dsimp only at H); clear kk)
      | (go_at_call 45; refine (HFU.out _ (H.subS (D := bankL bk bd bo bm vw ss t st u))).mono ?_; rintro e w' ⟨rfl, kk⟩; replace H := H.viaS kk; (try dsimp only at H); clear kk)
      | (go_at_call 51; refine (HCR.out _ (H.subS (D := bankL bk bd bo bm vw ss t st u))).mono ?_; rintro e w' ⟨rfl, kk⟩; replace H := H.viaS kk; (try dsimp only at H); clear kk)
      | (go_at_call 19; refine (HFL.out _ (H.subS (D := bankL bk bd bo bm vw ss t st u))).mono ?_; rintro e w' ⟨rfl, vw5, ss5, kk⟩; replace H := H.viaS kk; (try dsimp only at H); clear kk)
      | ((with_reducible refine gDst 6 ?_); refine aBox H _ rfl rfl rfl ?_; clear H; intro b6 w6 H)
      | ((with_reducible refine gDst 7 ?_); refine aBox H _ rfl rfl rfl ?_; clear H; intro b7 w7 H)
      | ((with_reducible refine gDst 8 ?_); refine aAlloc H rfl rfl ?_; clear H; intro b8 w8 H)
      | ((with_reducible refine gDst 9 ?_); refine aAlloc H rfl rfl ?_; clear H; intro b9 w9 H)
      | ((with_reducible refine gDst 14 ?_); refine aAlloc H rfl rfl ?_; clear H; intro b14 w14 H)
      | ((with_reducible refine gLoad ?_); first | (refine aLoad1 H _ rfl rfl (by first | exact (rfl : _ = some (Value.int _ _)) | exact (rfl : _ = some (Value.slice _ _ _)) | exact (rfl : _ = some (Value.bool _)) | exact (rfl : _ = some (Value.string _)) | exact (rfl : _ = some (Value.pointer _)) | rfl | (simp [List.getElem?_append]; done)) rfl ?_) | (refine aLoadC _ rfl rfl (by assumption) rfl ?_) | (refine aLoad H _ rfl rfl (by first | exact part_all (by first | rfl | simp []) | (simp only [List.drop_succ_cons, List.drop_zero, List.take_succ_cons, List.take_zero]; rfl) | (simp [List.drop_append, List.take_append]; rfl)) (by first | rfl | simp []) rfl ?_))
      | ((with_reducible refine gBuild ?_); refine aZero rfl rfl ?_)
      | ((with_reducible refine gStore ?_); (first | (refine aCell H _ _ rfl rfl (by first | exact (rfl : _ = Value.int _ _) | exact (rfl : _ = Value.bool _) | exact (rfl : _ = Value.slice _ _ _) | exact (rfl : _ = Value.string _) | exact (rfl : _ = Value.pointer _) | exact (rfl : _ = Value.func _ _ _) | rfl) (by rfl) (by rfl) (by first | exact of_decide_eq_true rfl | (simp []; done) | (simp []; omega)) (by first | (simp only [List.set_cons_zero, List.set_cons_succ]; rfl) | (simp [List.set_append]; rfl)) rfl ?_) | (refine aStore H _ _ rfl rfl rfl (by (first | exact ⟨rfl, rfl⟩ | exact ⟨by decide, rfl⟩ | (simp []; done) | (constructor <;> simp [] <;> omega))) (by first | rfl | simp [List.all_append, one_all]) rfl ?_) | (refine aLay H _ _ rfl rfl rfl (by (first | exact ⟨rfl, rfl⟩ | exact ⟨by decide, rfl⟩ | (simp []; done) | (constructor <;> simp [] <;> omega))) (by first | rfl | simp [List.all_append, one_all]) (by simp only [lay, List.take_succ_cons, List.take_zero, List.drop_succ_cons, List.drop_zero, List.nil_append, List.cons_append, List.length_cons, List.length_nil, Nat.zero_add, Nat.reduceAdd]; rfl) rfl ?_)); clear H; intro w' H; try dsimp only at H)
      | ((with_reducible refine gConv ?_); first | (refine aStr H _ rfl rfl rfl ?_)))
    refine bodyPost_ret (res_cell rfl _ H.hold rfl (TD.len _)) rfl ?_
    exact ⟨rfl, vw, ss, H.tail.tail.tail.tail.tail⟩
  by_cases k4 : kd = 4
  · subst k4
    obtain ⟨N4, E4, s4, hsp⟩ : ∃ N4 E4 s4, healR u.length st p = (N4, E4, s4) := ⟨_, _, _, rfl⟩
    rw [hsp] at hHL
    have HHL := Lib.hid hHL
    have e : doR t st u ⟨4, cp, wh, a, pp, b⟩ p = ({ TD.nil with n := (N4 : Int), e := E4 }, s4, u) := by
      rw [doR, if_neg (show ¬ ((4 : Int) = 1) by decide), if_neg (show ¬ ((4 : Int) = 2) by decide), if_neg (show ¬ ((4 : Int) = 3) by decide), if_pos rfl, hsp]
    rw [e]
    clear e hk hF
    clear hRD HLK hHL hFX hPUT hRT HFU HCR HFL
    have HXL := Lib.hid (acC_len 4 cp wh a pp (.slice A b.length c))
    have HC0 := Lib.hid (show (acC 4 cp wh a pp (.slice A b.length c))[0]? = some (.int .i64 4) from rfl)
    have HC1 := Lib.hid (show (acC 4 cp wh a pp (.slice A b.length c))[1]? = some (.int .i64 cp) from rfl)
    have HC3 := Lib.hid (show (acC 4 cp wh a pp (.slice A b.length c))[3]? = some (.int .i64 a) from rfl)
    have HC39 := Lib.hid (acC_39 4 cp wh a pp (.slice A b.length c))
    generalize acC 4 cp wh a pp (.slice A b.length c) = X at *
    have HPL := Lib.hid p.len
    generalize hbn : b.length = bn at *
    clear hbn
    go_enter Tryd.func25, Tryd.ntmps25
    go_wp2_with (first
      | ((with_reducible refine gDst 22 ?_); replace H : SH F w _ (.blk b9 56 TD.nil.cells :: .blk b8 56 TD.nil.cells :: .blk b7 33 p.cells :: .blk b6 54 X :: bankL bk bd bo bm vw ss t st u) := H; refine aLoad1 H _ rfl rfl HC0.out rfl ?_)
      | ((with_reducible refine gDst 34 ?_); refine aLoad H _ rfl rfl (part_all HQL.out) HQL.out rfl ?_)
      | ((with_reducible refine gDst 42 ?_); refine aLoad H _ rfl rfl (part_all HPL.out) HPL.out rfl ?_)
      | ((with_reducible refine gDst 55 ?_); refine aLoad H _ rfl rfl (part_all HPL.out) HPL.out rfl ?_)
      | ((with_reducible refine gDst 67 ?_); refine aLoad H _ rfl rfl (part_all HPL.out) HPL.out rfl ?_)
      | ((with_reducible refine gDst 93 ?_); refine aLoad1 H _ rfl rfl HC3.out rfl ?_)
      | ((with_reducible refine gDst 102 ?_); refine aLoad1 H _ rfl rfl HC3.out rfl ?_)
      | ((with_reducible refine gDst 95 ?_); refine aLoad1 H _ rfl rfl HC39.out rfl ?_)
      | ((with_reducible refine gDst 113 ?_); refine aLoad H _ rfl rfl (part_all (TD.len _)) (TD.len _) rfl ?_)
      | ((with_reducible refine gSto (.tmp 35) (.tmp 34) ?_); refine aLay H _ _ rfl rfl rfl ⟨by rw [TD.len]; decide, HQL.out⟩ HQO.out (TD.setP _ _) rfl ?_; clear H; intro w' H; (try dsimp only at H))
      | ((with_reducible refine gSto (.tmp 48) (.tmp 47) ?_); refine aCell H _ _ rfl rfl (rfl : _ = Value.string _) (by rfl) (by rfl) (by rw [TD.len]; decide) (TD.setB _ _) rfl ?_; clear H; intro w' H; (try dsimp only at H))
      | ((with_reducible refine gSto (.tmp 60) (.tmp 59) ?_); refine aLay H _ _ rfl rfl rfl ⟨by rw [TD.len]; decide, by rfl⟩ (by rfl) (TD.setG _ _ _) rfl ?_; clear H; intro w' H; (try dsimp only at H))
      | ((with_reducible refine gSto (.tmp 72) (.tmp 71) ?_); refine aCell H _ _ rfl rfl (rfl : _ = Value.int _ _) (by rfl) (by rfl) (by rw [TD.len]; decide) (TD.setN _ _) rfl ?_; clear H; intro w' H; (try dsimp only at H))
      | ((with_reducible refine gSto (.tmp 86) (.tmp 85) ?_); refine aCell H _ _ rfl rfl (rfl : _ = Value.int _ _) (by rfl) (by rfl) (by rw [TD.len]; decide) (TD.setN _ _) rfl ?_; clear H; intro w' H; (try dsimp only at H))
      | ((first | (with_reducible refine gSto (.tmp 37) (.tmp 36) ?_) | (with_reducible refine gSto (.tmp 50) (.tmp 49) ?_) | (with_reducible refine gSto (.tmp 62) (.tmp 61) ?_) | (with_reducible refine gSto (.tmp 74) (.tmp 73) ?_) | (with_reducible refine gSto (.tmp 88) (.tmp 87) ?_) | (with_reducible refine gSto (.tmp 97) (.tmp 96) ?_) | (with_reducible refine gSto (.tmp 112) (.tmp 111) ?_)); refine aCell H _ _ rfl rfl (rfl : _ = Value.int _ _) (by rfl) (by rfl) (by rw [TD.len]; decide) (TD.setE _ _) rfl ?_; clear H; intro w' H; (try dsimp only at H))
      | ((with_reducible refine gSto (.tmp 8) (.tmp 113) ?_); refine aStore H _ _ rfl rfl rfl ⟨TD.len _, TD.len _⟩ (TD.one _) rfl ?_; clear H; intro w' H; (try dsimp only at H))
      | ((with_reducible refine gDst 47 ?_); first | refine aStr H _ rfl rfl rfl ?_ | refine stepV (xStr _ rfl rfl (HOLD.rdOne (RR.nil _))) rfl ?_)
      | (go_at_call 18; refine (HRD.out _ (HOLD.suf (D := bankL bk bd bo bm vw ss t st u) H.hold)).mono ?_; first | (rintro e w' ⟨A9, c9, rfl, ho, hb⟩; replace H := H.pushRow hb ho; clear hb ho) | (rintro e w' ⟨rfl, hb⟩; replace H := H.step hb; clear hb))
      | (go_at_call 21; refine (HLK.out _ (HOLD.suf (D := bankL bk bd bo bm vw ss t st u) H.hold)).mono ?_; rintro e w' ⟨rfl, hb⟩; replace H := H.step hb; clear hb)
      | (go_at_call 22; refine (HHL.out _ (H.subS (D := bankL bk bd bo bm vw ss t st u))).mono ?_; rintro e w' ⟨rfl, vw5, ss5, kk⟩; replace H := H.viaS kk; (try dsimp only at H); clear kk)
      | (go_at_call 20; refine (HRT.out _ (H.subS (D := bankL bk bd bo bm vw ss t st u)) (fun w' hc => HV.out _ (H.chgS (D := bankL bk bd bo bm vw ss t st u) hc))).mono ?_; rintro e w' ⟨rfl, kk⟩; replace H := H.viaS kk; (try dsimp only at H); clear kk)
      | (go_at_call 45; refine (HFU.out _ (H.subS (D := bankL bk bd bo bm vw ss t st u))).mono ?_; rintro e w' ⟨rfl, kk⟩; replace H := H.viaS kk; (try dsimp only at H); clear kk)
      | (go_at_call 51; refine (HCR.out _ (H.subS (D := bankL bk bd bo bm vw ss t st u))).mono ?_; rintro e w' ⟨rfl, kk⟩; replace H := H.viaS kk; (try dsimp only at H); clear kk)
      | (go_at_call 19; refine (HFL.out _ (H.subS (D := bankL bk bd bo bm vw ss t st u))).mono ?_; rintro e w' ⟨rfl, vw5, ss5, kk⟩; replace H := H.viaS kk; (try dsimp only at H); clear kk)
      | ((with_reducible refine gDst 6 ?_); refine aBox H _ rfl rfl rfl ?_; clear H; intro b6 w6 H)
      | ((with_reducible refine gDst 7 ?_); refine aBox H _ rfl rfl rfl ?_; clear H; intro b7 w7 H)
      | ((with_reducible refine gDst 8 ?_); refine aAlloc H rfl rfl ?_; clear H; intro b8 w8 H)
      | ((with_reducible refine gDst 9 ?_); refine aAlloc H rfl rfl ?_; clear H; intro b9 w9 H)
      | ((with_reducible refine gDst 14 ?_); refine aAlloc H rfl rfl ?_; clear H; intro b14 w14 H)
      | ((with_reducible refine gLoad ?_); first | (refine aLoad1 H _ rfl rfl (by first | exact (rfl : _ = some (Value.int _ _)) | exact (rfl : _ = some (Value.slice _ _ _)) | exact (rfl : _ = some (Value.bool _)) | exact (rfl : _ = some (Value.string _)) | exact (rfl : _ = some (Value.pointer _)) | rfl | (simp [List.getElem?_append]; done)) rfl ?_) | (refine aLoadC _ rfl rfl (by assumption) rfl ?_) | (refine aLoad H _ rfl rfl (by first | exact part_all (by first | rfl | simp []) | (simp only [List.drop_succ_cons, List.drop_zero, List.take_succ_cons, List.take_zero]; rfl) | (simp [List.drop_append, List.take_append]; rfl)) (by first | rfl | simp []) rfl ?_))
      | ((with_reducible refine gBuild ?_); refine aZero rfl rfl ?_)
      | ((with_reducible refine gStore ?_); (first | (refine aCell H _ _ rfl rfl (by first | exact (rfl : _ = Value.int _ _) | exact (rfl : _ = Value.bool _) | exact (rfl : _ = Value.slice _ _ _) | exact (rfl : _ = Value.string _) | exact (rfl : _ = Value.pointer _) | exact (rfl : _ = Value.func _ _ _) | rfl) (by rfl) (by rfl) (by first | exact of_decide_eq_true rfl | (simp []; done) | (simp []; omega)) (by first | (simp only [List.set_cons_zero, List.set_cons_succ]; rfl) | (simp [List.set_append]; rfl)) rfl ?_) | (refine aStore H _ _ rfl rfl rfl (by (first | exact ⟨rfl, rfl⟩ | exact ⟨by decide, rfl⟩ | (simp []; done) | (constructor <;> simp [] <;> omega))) (by first | rfl | simp [List.all_append, one_all]) rfl ?_) | (refine aLay H _ _ rfl rfl rfl (by (first | exact ⟨rfl, rfl⟩ | exact ⟨by decide, rfl⟩ | (simp []; done) | (constructor <;> simp [] <;> omega))) (by first | rfl | simp [List.all_append, one_all]) (by simp only [lay, List.take_succ_cons, List.take_zero, List.drop_succ_cons, List.drop_zero, List.nil_append, List.cons_append, List.length_cons, List.length_nil, Nat.zero_add, Nat.reduceAdd]; rfl) rfl ?_)); clear H; intro w' H; try dsimp only at H)
      | ((with_reducible refine gConv ?_); first | (refine aStr H _ rfl rfl rfl ?_)))
    refine bodyPost_ret (res_cell rfl _ H.hold rfl (TD.len _)) rfl ?_
    exact ⟨rfl, vw5, ss5, H.tail.tail.tail.tail⟩
  by_cases k5 : kd = 5
  · subst k5
    obtain ⟨N1, E1, s1, hsp⟩ : ∃ N1 E1 s1, fixR u.length st p (blockR ⟨5, cp, wh, a, pp, b⟩) = (N1, E1, s1) := ⟨_, _, _, rfl⟩
    have e : doR t st u ⟨5, cp, wh, a, pp, b⟩ p = ({ TD.nil with n := (N1 : Int), e := E1 }, s1, u) := by
      rw [doR, if_neg (show ¬ ((5 : Int) = 1) by decide), if_neg (show ¬ ((5 : Int) = 2) by decide), if_neg (show ¬ ((5 : Int) = 3) by decide), if_neg (show ¬ ((5 : Int) = 4) by decide), if_pos rfl, hsp]
    rw [e]
    clear e
    by_cases h5 : 5 < cp
    · have hB : blockR ⟨5, cp, wh, a, pp, b⟩ = b := if_pos h5
      rw [hB] at hsp
      have hC := hFX b
      rw [hsp] at hC
      have HFX := Lib.hid hC
      have HBLK := Lib.hid (fun W => block_raw 5 cp wh a pp A b.length c h5 W)
      clear hC hsp hB hRD HLK hHL hFX hPUT hRT HFU HCR HFL hk hF h5
      have HXL := Lib.hid (acC_len 5 cp wh a pp (.slice A b.length c))
      have HC0 := Lib.hid (show (acC 5 cp wh a pp (.slice A b.length c))[0]? = some (.int .i64 5) from rfl)
      have HC1 := Lib.hid (show (acC 5 cp wh a pp (.slice A b.length c))[1]? = some (.int .i64 cp) from rfl)
      have HC3 := Lib.hid (show (acC 5 cp wh a pp (.slice A b.length c))[3]? = some (.int .i64 a) from rfl)
      have HC39 := Lib.hid (acC_39 5 cp wh a pp (.slice A b.length c))
      generalize acC 5 cp wh a pp (.slice A b.length c) = X at *
      have HPL := Lib.hid p.len
      generalize hbn : b.length = bn at *
      clear hbn
      go_enter Tryd.func25, Tryd.ntmps25
      go_wp2_with (first
        | ((with_reducible refine gDst 22 ?_); replace H : SH F w _ (.blk b9 56 TD.nil.cells :: .blk b8 56 TD.nil.cells :: .blk b7 33 p.cells :: .blk b6 54 X :: bankL bk bd bo bm vw ss t st u) := H; refine aLoad1 H _ rfl rfl HC0.out rfl ?_)
        | ((with_reducible refine gDst 34 ?_); refine aLoad H _ rfl rfl (part_all HQL.out) HQL.out rfl ?_)
        | ((with_reducible refine gDst 42 ?_); refine aLoad H _ rfl rfl (part_all HPL.out) HPL.out rfl ?_)
        | ((with_reducible refine gDst 55 ?_); refine aLoad H _ rfl rfl (part_all HPL.out) HPL.out rfl ?_)
        | ((with_reducible refine gDst 67 ?_); refine aLoad H _ rfl rfl (part_all HPL.out) HPL.out rfl ?_)
        | ((with_reducible refine gDst 93 ?_); refine aLoad1 H _ rfl rfl HC3.out rfl ?_)
        | ((with_reducible refine gDst 102 ?_); refine aLoad1 H _ rfl rfl HC3.out rfl ?_)
        | ((with_reducible refine gDst 95 ?_); refine aLoad1 H _ rfl rfl HC39.out rfl ?_)
        | ((with_reducible refine gDst 113 ?_); refine aLoad H _ rfl rfl (part_all (TD.len _)) (TD.len _) rfl ?_)
        | ((with_reducible refine gSto (.tmp 35) (.tmp 34) ?_); refine aLay H _ _ rfl rfl rfl ⟨by rw [TD.len]; decide, HQL.out⟩ HQO.out (TD.setP _ _) rfl ?_; clear H; intro w' H; (try dsimp only at H))
        | ((with_reducible refine gSto (.tmp 48) (.tmp 47) ?_); refine aCell H _ _ rfl rfl (rfl : _ = Value.string _) (by rfl) (by rfl) (by rw [TD.len]; decide) (TD.setB _ _) rfl ?_; clear H; intro w' H; (try dsimp only at H))
        | ((with_reducible refine gSto (.tmp 60) (.tmp 59) ?_); refine aLay H _ _ rfl rfl rfl ⟨by rw [TD.len]; decide, by rfl⟩ (by rfl) (TD.setG _ _ _) rfl ?_; clear H; intro w' H; (try dsimp only at H))
        | ((with_reducible refine gSto (.tmp 72) (.tmp 71) ?_); refine aCell H _ _ rfl rfl (rfl : _ = Value.int _ _) (by rfl) (by rfl) (by rw [TD.len]; decide) (TD.setN _ _) rfl ?_; clear H; intro w' H; (try dsimp only at H))
        | ((with_reducible refine gSto (.tmp 86) (.tmp 85) ?_); refine aCell H _ _ rfl rfl (rfl : _ = Value.int _ _) (by rfl) (by rfl) (by rw [TD.len]; decide) (TD.setN _ _) rfl ?_; clear H; intro w' H; (try dsimp only at H))
        | ((first | (with_reducible refine gSto (.tmp 37) (.tmp 36) ?_) | (with_reducible refine gSto (.tmp 50) (.tmp 49) ?_) | (with_reducible refine gSto (.tmp 62) (.tmp 61) ?_) | (with_reducible refine gSto (.tmp 74) (.tmp 73) ?_) | (with_reducible refine gSto (.tmp 88) (.tmp 87) ?_) | (with_reducible refine gSto (.tmp 97) (.tmp 96) ?_) | (with_reducible refine gSto (.tmp 112) (.tmp 111) ?_)); refine aCell H _ _ rfl rfl (rfl : _ = Value.int _ _) (by rfl) (by rfl) (by rw [TD.len]; decide) (TD.setE _ _) rfl ?_; clear H; intro w' H; (try dsimp only at H))
        | ((with_reducible refine gSto (.tmp 8) (.tmp 113) ?_); refine aStore H _ _ rfl rfl rfl ⟨TD.len _, TD.len _⟩ (TD.one _) rfl ?_; clear H; intro w' H; (try dsimp only at H))
        | ((with_reducible refine gDst 47 ?_); first | refine aStr H _ rfl rfl rfl ?_ | refine stepV (xStr _ rfl rfl (HOLD.rdOne (RR.nil _))) rfl ?_)
        | (go_at_call 18; refine (HRD.out _ (HOLD.suf (D := bankL bk bd bo bm vw ss t st u) H.hold)).mono ?_; first | (rintro e w' ⟨A9, c9, rfl, ho, hb⟩; replace H := H.pushRow hb ho; clear hb ho) | (rintro e w' ⟨rfl, hb⟩; replace H := H.step hb; clear hb))
        | (go_at_call 21; refine (HLK.out _ (HOLD.suf (D := bankL bk bd bo bm vw ss t st u) H.hold)).mono ?_; rintro e w' ⟨rfl, hb⟩; replace H := H.step hb; clear hb)
        | (go_at_call 22; refine (HHL.out _ (H.subS (D := bankL bk bd bo bm vw ss t st u))).mono ?_; rintro e w' ⟨rfl, vw5, ss5, kk⟩; replace H := H.viaS kk; (try dsimp only at H); clear kk)
        | (go_at_call 20; refine (HRT.out _ (H.subS (D := bankL bk bd bo bm vw ss t st u)) (fun w' hc => HV.out _ (H.chgS (D := bankL bk bd bo bm vw ss t st u) hc))).mono ?_; rintro e w' ⟨rfl, kk⟩; replace H := H.viaS kk; (try dsimp only at H); clear kk)
        | (go_at_call 45; refine (HFU.out _ (H.subS (D := bankL bk bd bo bm vw ss t st u))).mono ?_; rintro e w' ⟨rfl, kk⟩; replace H := H.viaS kk; (try dsimp only at H); clear kk)
        | (go_at_call 51; refine (HCR.out _ (H.subS (D := bankL bk bd bo bm vw ss t st u))).mono ?_; rintro e w' ⟨rfl, kk⟩; replace H := H.viaS kk; (try dsimp only at H); clear kk)
        | (go_at_call 19; refine (HFL.out _ (H.subS (D := bankL bk bd bo bm vw ss t st u))).mono ?_; rintro e w' ⟨rfl, vw5, ss5, kk⟩; replace H := H.viaS kk; (try dsimp only at H); clear kk)
        | ((with_reducible refine gDst 6 ?_); refine aBox H _ rfl rfl rfl ?_; clear H; intro b6 w6 H)
        | ((with_reducible refine gDst 7 ?_); refine aBox H _ rfl rfl rfl ?_; clear H; intro b7 w7 H)
        | ((with_reducible refine gDst 8 ?_); refine aAlloc H rfl rfl ?_; clear H; intro b8 w8 H)
        | ((with_reducible refine gDst 9 ?_); refine aAlloc H rfl rfl ?_; clear H; intro b9 w9 H)
        | ((with_reducible refine gDst 14 ?_); refine aAlloc H rfl rfl ?_; clear H; intro b14 w14 H)
        | ((with_reducible refine gLoad ?_); first | (refine aLoad1 H _ rfl rfl (by first | exact (rfl : _ = some (Value.int _ _)) | exact (rfl : _ = some (Value.slice _ _ _)) | exact (rfl : _ = some (Value.bool _)) | exact (rfl : _ = some (Value.string _)) | exact (rfl : _ = some (Value.pointer _)) | rfl | (simp [List.getElem?_append]; done)) rfl ?_) | (refine aLoadC _ rfl rfl (by assumption) rfl ?_) | (refine aLoad H _ rfl rfl (by first | exact part_all (by first | rfl | simp []) | (simp only [List.drop_succ_cons, List.drop_zero, List.take_succ_cons, List.take_zero]; rfl) | (simp [List.drop_append, List.take_append]; rfl)) (by first | rfl | simp []) rfl ?_))
        | ((with_reducible refine gBuild ?_); refine aZero rfl rfl ?_)
        | ((with_reducible refine gStore ?_); (first | (refine aCell H _ _ rfl rfl (by first | exact (rfl : _ = Value.int _ _) | exact (rfl : _ = Value.bool _) | exact (rfl : _ = Value.slice _ _ _) | exact (rfl : _ = Value.string _) | exact (rfl : _ = Value.pointer _) | exact (rfl : _ = Value.func _ _ _) | rfl) (by rfl) (by rfl) (by first | exact of_decide_eq_true rfl | (simp []; done) | (simp []; omega)) (by first | (simp only [List.set_cons_zero, List.set_cons_succ]; rfl) | (simp [List.set_append]; rfl)) rfl ?_) | (refine aStore H _ _ rfl rfl rfl (by (first | exact ⟨rfl, rfl⟩ | exact ⟨by decide, rfl⟩ | (simp []; done) | (constructor <;> simp [] <;> omega))) (by first | rfl | simp [List.all_append, one_all]) rfl ?_) | (refine aLay H _ _ rfl rfl rfl (by (first | exact ⟨rfl, rfl⟩ | exact ⟨by decide, rfl⟩ | (simp []; done) | (constructor <;> simp [] <;> omega))) (by first | rfl | simp [List.all_append, one_all]) (by simp only [lay, List.take_succ_cons, List.take_zero, List.drop_succ_cons, List.drop_zero, List.nil_append, List.cons_append, List.length_cons, List.length_nil, Nat.zero_add, Nat.reduceAdd]; rfl) rfl ?_)); clear H; intro w' H; try dsimp only at H)
        | ((with_reducible refine gConv ?_); first | (refine aStr H _ rfl rfl rfl ?_)))
      refine startA (fun i => i == 4) (by kernel_rfl) (fun wS hS => ?_)
      replace H := H.drew
      rw [← hS] at H
      have HH := H.hold
      have HS0 : Below wS.heap.size wS wS := Below.refl _ _
      clear hS
      refine takeP 0 rfl (by kernel_rfl) (by kernel_rfl) (by kernel_rfl) (by kernel_rfl) (fun _ _ _ h => h) rfl (v := ?_) ?_ ?_
      rotate_left
      · intro w'; go_simp; (try with_reducible rfl)
      (try simp only [Act.put, List.setIfInBounds_toArray, List.set_cons_zero, List.set_cons_succ])
      refine takeL 1 HS0 rfl (by kernel_rfl) (by kernel_rfl) (by kernel_rfl) (by kernel_rfl) (by kernel_rfl) (fun _ _ _ h => h) rfl (v := ?_) ?_ ?_
      rotate_left
      · intro w' hw'; refine Eq.trans (xLoad (HH.below hw') _ rfl rfl (part_all HPL.out) HPL.out) ?_; with_reducible rfl
      (try simp only [Act.put, List.setIfInBounds_toArray, List.set_cons_zero, List.set_cons_succ])
      refine takeL 2 HS0 rfl (by kernel_rfl) (by kernel_rfl) (by kernel_rfl) (by kernel_rfl) (by kernel_rfl) (fun _ _ _ h => h) rfl (v := ?_) ?_ ?_
      rotate_left
      · intro w' hw'; refine Eq.trans (xLoad (HH.below hw') _ rfl rfl (part_all HXL.out) HXL.out) ?_; with_reducible rfl
      (try simp only [Act.put, List.setIfInBounds_toArray, List.set_cons_zero, List.set_cons_succ])
      refine stepL 3 rfl (by kernel_rfl) rfl (fun K hK => ?_)
      (go_simp; (with_reducible refine ((HBLK.out _)).mono ?_); rintro e w' ⟨rfl, hb⟩; replace H := H.step hb; first | (replace HS0 := below_two HS0 HS0.size hb; clear hb; refine hK.out _ _ (fun _ _ => HS0) ?_; clear K hK) | (refine hK.out _ _ (fun _ h => below_two h h.size hb) ?_; clear hb K hK))
      (try simp only [Act.put, List.setIfInBounds_toArray, List.set_cons_zero, List.set_cons_succ])
      refine stepL 4 rfl (by kernel_rfl) rfl (fun K hK => ?_)
      (go_simp; have q := HFX.out (.slice A bn c) _ (H.subS (D := bankL bk bd bo bm vw ss t st u)) (fun w2 hc2 => HV.out _ (H.chgS (D := bankL bk bd bo bm vw ss t st u) hc2)); (with_reducible refine q.mono ?_); rintro e w' ⟨rfl, vw5, ss5, kk⟩; replace H := H.viaS kk; (try dsimp only at H); clear kk q; refine hK.out _ _ (fun h => by cases h) ?_; clear K hK HS0)
      (try simp only [Act.put, List.setIfInBounds_toArray, List.set_cons_zero, List.set_cons_succ])
      refine takeP 5 rfl (by kernel_rfl) (by kernel_rfl) (by kernel_rfl) (by kernel_rfl) (fun _ _ _ h => h) rfl (v := ?_) ?_ ?_
      rotate_left
      · intro w'; go_simp; (try with_reducible rfl)
      (try simp only [Act.put, List.setIfInBounds_toArray, List.set_cons_zero, List.set_cons_succ])
      refine takeP 6 rfl (by kernel_rfl) (by kernel_rfl) (by kernel_rfl) (by kernel_rfl) (fun _ _ _ h => h) rfl (v := ?_) ?_ ?_
      rotate_left
      · intro w'; go_simp; (try with_reducible rfl)
      (try simp only [Act.put, List.setIfInBounds_toArray, List.set_cons_zero, List.set_cons_succ])
      refine takeP 7 rfl (by kernel_rfl) (by kernel_rfl) (by kernel_rfl) (by kernel_rfl) (fun _ _ _ h => h) rfl (v := ?_) ?_ ?_
      rotate_left
      · intro w'; go_simp; (try with_reducible rfl)
      (try simp only [Act.put, List.setIfInBounds_toArray, List.set_cons_zero, List.set_cons_succ])
      refine takeP 8 rfl (by kernel_rfl) (by kernel_rfl) (by kernel_rfl) (by kernel_rfl) (fun _ _ _ h => h) rfl (v := ?_) ?_ ?_
      rotate_left
      · intro w'; go_simp; (try with_reducible rfl)
      (try simp only [Act.put, List.setIfInBounds_toArray, List.set_cons_zero, List.set_cons_succ])
      refine takeP 9 rfl (by kernel_rfl) (by kernel_rfl) (by kernel_rfl) (by kernel_rfl) (fun _ _ _ h => h) rfl (v := ?_) ?_ ?_
      rotate_left
      · intro w'; go_simp; (try with_reducible rfl)
      (try simp only [Act.put, List.setIfInBounds_toArray, List.set_cons_zero, List.set_cons_succ])
      refine doneL (by kernel_rfl) ?_
      clear HH
      go_wp2_with (first
        | ((with_reducible refine gDst 22 ?_); replace H : SH F w _ (.blk b9 56 TD.nil.cells :: .blk b8 56 TD.nil.cells :: .blk b7 33 p.cells :: .blk b6 54 X :: bankL bk bd bo bm vw ss t st u) := H; refine aLoad1 H _ rfl rfl HC0.out rfl ?_)
        | ((with_reducible refine gDst 34 ?_); refine aLoad H _ rfl rfl (part_all HQL.out) HQL.out rfl ?_)
        | ((with_reducible refine gDst 42 ?_); refine aLoad H _ rfl rfl (part_all HPL.out) HPL.out rfl ?_)
        | ((with_reducible refine gDst 55 ?_); refine aLoad H _ rfl rfl (part_all HPL.out) HPL.out rfl ?_)
        | ((with_reducible refine gDst 67 ?_); refine aLoad H _ rfl rfl (part_all HPL.out) HPL.out rfl ?_)
        | ((with_reducible refine gDst 93 ?_); refine aLoad1 H _ rfl rfl HC3.out rfl ?_)
        | ((with_reducible refine gDst 102 ?_); refine aLoad1 H _ rfl rfl HC3.out rfl ?_)
        | ((with_reducible refine gDst 95 ?_); refine aLoad1 H _ rfl rfl HC39.out rfl ?_)
        | ((with_reducible refine gDst 113 ?_); refine aLoad H _ rfl rfl (part_all (TD.len _)) (TD.len _) rfl ?_)
        | ((with_reducible refine gSto (.tmp 35) (.tmp 34) ?_); refine aLay H _ _ rfl rfl rfl ⟨by rw [TD.len]; decide, HQL.out⟩ HQO.out (TD.setP _ _) rfl ?_; clear H; intro w' H; (try dsimp only at H))
        | ((with_reducible refine gSto (.tmp 48) (.tmp 47) ?_); refine aCell H _ _ rfl rfl (rfl : _ = Value.string _) (by rfl) (by rfl) (by rw [TD.len]; decide) (TD.setB _ _) rfl ?_; clear H; intro w' H; (try dsimp only at H))
        | ((with_reducible refine gSto (.tmp 60) (.tmp 59) ?_); refine aLay H _ _ rfl rfl rfl ⟨by rw [TD.len]; decide, by rfl⟩ (by rfl) (TD.setG _ _ _) rfl ?_; clear H; intro w' H; (try dsimp only at H))
        | ((with_reducible refine gSto (.tmp 72) (.tmp 71) ?_); refine aCell H _ _ rfl rfl (rfl : _ = Value.int _ _) (by rfl) (by rfl) (by rw [TD.len]; decide) (TD.setN _ _) rfl ?_; clear H; intro w' H; (try dsimp only at H))
        | ((with_reducible refine gSto (.tmp 86) (.tmp 85) ?_); refine aCell H _ _ rfl rfl (rfl : _ = Value.int _ _) (by rfl) (by rfl) (by rw [TD.len]; decide) (TD.setN _ _) rfl ?_; clear H; intro w' H; (try dsimp only at H))
        | ((first | (with_reducible refine gSto (.tmp 37) (.tmp 36) ?_) | (with_reducible refine gSto (.tmp 50) (.tmp 49) ?_) | (with_reducible refine gSto (.tmp 62) (.tmp 61) ?_) | (with_reducible refine gSto (.tmp 74) (.tmp 73) ?_) | (with_reducible refine gSto (.tmp 88) (.tmp 87) ?_) | (with_reducible refine gSto (.tmp 97) (.tmp 96) ?_) | (with_reducible refine gSto (.tmp 112) (.tmp 111) ?_)); refine aCell H _ _ rfl rfl (rfl : _ = Value.int _ _) (by rfl) (by rfl) (by rw [TD.len]; decide) (TD.setE _ _) rfl ?_; clear H; intro w' H; (try dsimp only at H))
        | ((with_reducible refine gSto (.tmp 8) (.tmp 113) ?_); refine aStore H _ _ rfl rfl rfl ⟨TD.len _, TD.len _⟩ (TD.one _) rfl ?_; clear H; intro w' H; (try dsimp only at H))
        | ((with_reducible refine gDst 47 ?_); first | refine aStr H _ rfl rfl rfl ?_ | refine stepV (xStr _ rfl rfl (HOLD.rdOne (RR.nil _))) rfl ?_)
        | (go_at_call 18; refine (HRD.out _ (HOLD.suf (D := bankL bk bd bo bm vw ss t st u) H.hold)).mono ?_; first | (rintro e w' ⟨A9, c9, rfl, ho, hb⟩; replace H := H.pushRow hb ho; clear hb ho) | (rintro e w' ⟨rfl, hb⟩; replace H := H.step hb; clear hb))
        | (go_at_call 21; refine (HLK.out _ (HOLD.suf (D := bankL bk bd bo bm vw ss t st u) H.hold)).mono ?_; rintro e w' ⟨rfl, hb⟩; replace H := H.step hb; clear hb)
        | (go_at_call 22; refine (HHL.out _ (H.subS (D := bankL bk bd bo bm vw ss t st u))).mono ?_; rintro e w' ⟨rfl, vw5, ss5, kk⟩; replace H := H.viaS kk; (try dsimp only at H); clear kk)
        | (go_at_call 20; refine (HRT.out _ (H.subS (D := bankL bk bd bo bm vw ss t st u)) (fun w' hc => HV.out _ (H.chgS (D := bankL bk bd bo bm vw ss t st u) hc))).mono ?_; rintro e w' ⟨rfl, kk⟩; replace H := H.viaS kk; (try dsimp only at H); clear kk)
        | (go_at_call 45; refine (HFU.out _ (H.subS (D := bankL bk bd bo bm vw ss t st u))).mono ?_; rintro e w' ⟨rfl, kk⟩; replace H := H.viaS kk; (try dsimp only at H); clear kk)
        | (go_at_call 51; refine (HCR.out _ (H.subS (D := bankL bk bd bo bm vw ss t st u))).mono ?_; rintro e w' ⟨rfl, kk⟩; replace H := H.viaS kk; (try dsimp only at H); clear kk)
        | (go_at_call 19; refine (HFL.out _ (H.subS (D := bankL bk bd bo bm vw ss t st u))).mono ?_; rintro e w' ⟨rfl, vw5, ss5, kk⟩; replace H := H.viaS kk; (try dsimp only at H); clear kk)
        | ((with_reducible refine gDst 6 ?_); refine aBox H _ rfl rfl rfl ?_; clear H; intro b6 w6 H)
        | ((with_reducible refine gDst 7 ?_); refine aBox H _ rfl rfl rfl ?_; clear H; intro b7 w7 H)
        | ((with_reducible refine gDst 8 ?_); refine aAlloc H rfl rfl ?_; clear H; intro b8 w8 H)
        | ((with_reducible refine gDst 9 ?_); refine aAlloc H rfl rfl ?_; clear H; intro b9 w9 H)
        | ((with_reducible refine gDst 14 ?_); refine aAlloc H rfl rfl ?_; clear H; intro b14 w14 H)
        | ((with_reducible refine gLoad ?_); first | (refine aLoad1 H _ rfl rfl (by first | exact (rfl : _ = some (Value.int _ _)) | exact (rfl : _ = some (Value.slice _ _ _)) | exact (rfl : _ = some (Value.bool _)) | exact (rfl : _ = some (Value.string _)) | exact (rfl : _ = some (Value.pointer _)) | rfl | (simp [List.getElem?_append]; done)) rfl ?_) | (refine aLoadC _ rfl rfl (by assumption) rfl ?_) | (refine aLoad H _ rfl rfl (by first | exact part_all (by first | rfl | simp []) | (simp only [List.drop_succ_cons, List.drop_zero, List.take_succ_cons, List.take_zero]; rfl) | (simp [List.drop_append, List.take_append]; rfl)) (by first | rfl | simp []) rfl ?_))
        | ((with_reducible refine gBuild ?_); refine aZero rfl rfl ?_)
        | ((with_reducible refine gStore ?_); (first | (refine aCell H _ _ rfl rfl (by first | exact (rfl : _ = Value.int _ _) | exact (rfl : _ = Value.bool _) | exact (rfl : _ = Value.slice _ _ _) | exact (rfl : _ = Value.string _) | exact (rfl : _ = Value.pointer _) | exact (rfl : _ = Value.func _ _ _) | rfl) (by rfl) (by rfl) (by first | exact of_decide_eq_true rfl | (simp []; done) | (simp []; omega)) (by first | (simp only [List.set_cons_zero, List.set_cons_succ]; rfl) | (simp [List.set_append]; rfl)) rfl ?_) | (refine aStore H _ _ rfl rfl rfl (by (first | exact ⟨rfl, rfl⟩ | exact ⟨by decide, rfl⟩ | (simp []; done) | (constructor <;> simp [] <;> omega))) (by first | rfl | simp [List.all_append, one_all]) rfl ?_) | (refine aLay H _ _ rfl rfl rfl (by (first | exact ⟨rfl, rfl⟩ | exact ⟨by decide, rfl⟩ | (simp []; done) | (constructor <;> simp [] <;> omega))) (by first | rfl | simp [List.all_append, one_all]) (by simp only [lay, List.take_succ_cons, List.take_zero, List.drop_succ_cons, List.drop_zero, List.nil_append, List.cons_append, List.length_cons, List.length_nil, Nat.zero_add, Nat.reduceAdd]; rfl) rfl ?_)); clear H; intro w' H; try dsimp only at H)
        | ((with_reducible refine gConv ?_); first | (refine aStr H _ rfl rfl rfl ?_)))
      refine bodyPost_ret (res_cell rfl _ H.hold rfl (TD.len _)) rfl ?_
      exact ⟨rfl, vw5, ss5, H.tail.tail.tail.tail⟩
    · have hB : blockR ⟨5, cp, wh, a, pp, b⟩ = wholeL b := if_neg h5
      rw [hB] at hsp
      have hC := hFX (wholeL b)
      rw [hsp] at hC
      have HFX := Lib.hid hC
      have HBLK := Lib.hid (fun W y => block_whole 5 cp wh a pp A c b h5 (by omega) W y)
      generalize (wholeL b).length = mb at *
      clear hC hsp hB hRD HLK hHL hFX hPUT hRT HFU HCR HFL hk hF h5
      have HXL := Lib.hid (acC_len 5 cp wh a pp (.slice A b.length c))
      have HC0 := Lib.hid (show (acC 5 cp wh a pp (.slice A b.length c))[0]? = some (.int .i64 5) from rfl)
      have HC1 := Lib.hid (show (acC 5 cp wh a pp (.slice A b.length c))[1]? = some (.int .i64 cp) from rfl)
      have HC3 := Lib.hid (show (acC 5 cp wh a pp (.slice A b.length c))[3]? = some (.int .i64 a) from rfl)
      have HC39 := Lib.hid (acC_39 5 cp wh a pp (.slice A b.length c))
      generalize acC 5 cp wh a pp (.slice A b.length c) = X at *
      have HPL := Lib.hid p.len
      generalize hbn : b.length = bn at *
      clear hbn
      go_enter Tryd.func25, Tryd.ntmps25
      go_wp2_with (first
        | ((with_reducible refine gDst 22 ?_); replace H : SH F w _ (.blk b9 56 TD.nil.cells :: .blk b8 56 TD.nil.cells :: .blk b7 33 p.cells :: .blk b6 54 X :: bankL bk bd bo bm vw ss t st u) := H; refine aLoad1 H _ rfl rfl HC0.out rfl ?_)
        | ((with_reducible refine gDst 34 ?_); refine aLoad H _ rfl rfl (part_all HQL.out) HQL.out rfl ?_)
        | ((with_reducible refine gDst 42 ?_); refine aLoad H _ rfl rfl (part_all HPL.out) HPL.out rfl ?_)
        | ((with_reducible refine gDst 55 ?_); refine aLoad H _ rfl rfl (part_all HPL.out) HPL.out rfl ?_)
        | ((with_reducible refine gDst 67 ?_); refine aLoad H _ rfl rfl (part_all HPL.out) HPL.out rfl ?_)
        | ((with_reducible refine gDst 93 ?_); refine aLoad1 H _ rfl rfl HC3.out rfl ?_)
        | ((with_reducible refine gDst 102 ?_); refine aLoad1 H _ rfl rfl HC3.out rfl ?_)
        | ((with_reducible refine gDst 95 ?_); refine aLoad1 H _ rfl rfl HC39.out rfl ?_)
        | ((with_reducible refine gDst 113 ?_); refine aLoad H _ rfl rfl (part_all (TD.len _)) (TD.len _) rfl ?_)
        | ((with_reducible refine gSto (.tmp 35) (.tmp 34) ?_); refine aLay H _ _ rfl rfl rfl ⟨by rw [TD.len]; decide, HQL.out⟩ HQO.out (TD.setP _ _) rfl ?_; clear H; intro w' H; (try dsimp only at H))
        | ((with_reducible refine gSto (.tmp 48) (.tmp 47) ?_); refine aCell H _ _ rfl rfl (rfl : _ = Value.string _) (by rfl) (by rfl) (by rw [TD.len]; decide) (TD.setB _ _) rfl ?_; clear H; intro w' H; (try dsimp only at H))
        | ((with_reducible refine gSto (.tmp 60) (.tmp 59) ?_); refine aLay H _ _ rfl rfl rfl ⟨by rw [TD.len]; decide, by rfl⟩ (by rfl) (TD.setG _ _ _) rfl ?_; clear H; intro w' H; (try dsimp only at H))
        | ((with_reducible refine gSto (.tmp 72) (.tmp 71) ?_); refine aCell H _ _ rfl rfl (rfl : _ = Value.int _ _) (by rfl) (by rfl) (by rw [TD.len]; decide) (TD.setN _ _) rfl ?_; clear H; intro w' H; (try dsimp only at H))
        | ((with_reducible refine gSto (.tmp 86) (.tmp 85) ?_); refine aCell H _ _ rfl rfl (rfl : _ = Value.int _ _) (by rfl) (by rfl) (by rw [TD.len]; decide) (TD.setN _ _) rfl ?_; clear H; intro w' H; (try dsimp only at H))
        | ((first | (with_reducible refine gSto (.tmp 37) (.tmp 36) ?_) | (with_reducible refine gSto (.tmp 50) (.tmp 49) ?_) | (with_reducible refine gSto (.tmp 62) (.tmp 61) ?_) | (with_reducible refine gSto (.tmp 74) (.tmp 73) ?_) | (with_reducible refine gSto (.tmp 88) (.tmp 87) ?_) | (with_reducible refine gSto (.tmp 97) (.tmp 96) ?_) | (with_reducible refine gSto (.tmp 112) (.tmp 111) ?_)); refine aCell H _ _ rfl rfl (rfl : _ = Value.int _ _) (by rfl) (by rfl) (by rw [TD.len]; decide) (TD.setE _ _) rfl ?_; clear H; intro w' H; (try dsimp only at H))
        | ((with_reducible refine gSto (.tmp 8) (.tmp 113) ?_); refine aStore H _ _ rfl rfl rfl ⟨TD.len _, TD.len _⟩ (TD.one _) rfl ?_; clear H; intro w' H; (try dsimp only at H))
        | ((with_reducible refine gDst 47 ?_); first | refine aStr H _ rfl rfl rfl ?_ | refine stepV (xStr _ rfl rfl (HOLD.rdOne (RR.nil _))) rfl ?_)
        | (go_at_call 18; refine (HRD.out _ (HOLD.suf (D := bankL bk bd bo bm vw ss t st u) H.hold)).mono ?_; first | (rintro e w' ⟨A9, c9, rfl, ho, hb⟩; replace H := H.pushRow hb ho; clear hb ho) | (rintro e w' ⟨rfl, hb⟩; replace H := H.step hb; clear hb))
        | (go_at_call 21; refine (HLK.out _ (HOLD.suf (D := bankL bk bd bo bm vw ss t st u) H.hold)).mono ?_; rintro e w' ⟨rfl, hb⟩; replace H := H.step hb; clear hb)
        | (go_at_call 22; refine (HHL.out _ (H.subS (D := bankL bk bd bo bm vw ss t st u))).mono ?_; rintro e w' ⟨rfl, vw5, ss5, kk⟩; replace H := H.viaS kk; (try dsimp only at H); clear kk)
        | (go_at_call 20; refine (HRT.out _ (H.subS (D := bankL bk bd bo bm vw ss t st u)) (fun w' hc => HV.out _ (H.chgS (D := bankL bk bd bo bm vw ss t st u) hc))).mono ?_; rintro e w' ⟨rfl, kk⟩; replace H := H.viaS kk; (try dsimp only at H); clear kk)
        | (go_at_call 45; refine (HFU.out _ (H.subS (D := bankL bk bd bo bm vw ss t st u))).mono ?_; rintro e w' ⟨rfl, kk⟩; replace H := H.viaS kk; (try dsimp only at H); clear kk)
        | (go_at_call 51; refine (HCR.out _ (H.subS (D := bankL bk bd bo bm vw ss t st u))).mono ?_; rintro e w' ⟨rfl, kk⟩; replace H := H.viaS kk; (try dsimp only at H); clear kk)
        | (go_at_call 19; refine (HFL.out _ (H.subS (D := bankL bk bd bo bm vw ss t st u))).mono ?_; rintro e w' ⟨rfl, vw5, ss5, kk⟩; replace H := H.viaS kk; (try dsimp only at H); clear kk)
        | ((with_reducible refine gDst 6 ?_); refine aBox H _ rfl rfl rfl ?_; clear H; intro b6 w6 H)
        | ((with_reducible refine gDst 7 ?_); refine aBox H _ rfl rfl rfl ?_; clear H; intro b7 w7 H)
        | ((with_reducible refine gDst 8 ?_); refine aAlloc H rfl rfl ?_; clear H; intro b8 w8 H)
        | ((with_reducible refine gDst 9 ?_); refine aAlloc H rfl rfl ?_; clear H; intro b9 w9 H)
        | ((with_reducible refine gDst 14 ?_); refine aAlloc H rfl rfl ?_; clear H; intro b14 w14 H)
        | ((with_reducible refine gLoad ?_); first | (refine aLoad1 H _ rfl rfl (by first | exact (rfl : _ = some (Value.int _ _)) | exact (rfl : _ = some (Value.slice _ _ _)) | exact (rfl : _ = some (Value.bool _)) | exact (rfl : _ = some (Value.string _)) | exact (rfl : _ = some (Value.pointer _)) | rfl | (simp [List.getElem?_append]; done)) rfl ?_) | (refine aLoadC _ rfl rfl (by assumption) rfl ?_) | (refine aLoad H _ rfl rfl (by first | exact part_all (by first | rfl | simp []) | (simp only [List.drop_succ_cons, List.drop_zero, List.take_succ_cons, List.take_zero]; rfl) | (simp [List.drop_append, List.take_append]; rfl)) (by first | rfl | simp []) rfl ?_))
        | ((with_reducible refine gBuild ?_); refine aZero rfl rfl ?_)
        | ((with_reducible refine gStore ?_); (first | (refine aCell H _ _ rfl rfl (by first | exact (rfl : _ = Value.int _ _) | exact (rfl : _ = Value.bool _) | exact (rfl : _ = Value.slice _ _ _) | exact (rfl : _ = Value.string _) | exact (rfl : _ = Value.pointer _) | exact (rfl : _ = Value.func _ _ _) | rfl) (by rfl) (by rfl) (by first | exact of_decide_eq_true rfl | (simp []; done) | (simp []; omega)) (by first | (simp only [List.set_cons_zero, List.set_cons_succ]; rfl) | (simp [List.set_append]; rfl)) rfl ?_) | (refine aStore H _ _ rfl rfl rfl (by (first | exact ⟨rfl, rfl⟩ | exact ⟨by decide, rfl⟩ | (simp []; done) | (constructor <;> simp [] <;> omega))) (by first | rfl | simp [List.all_append, one_all]) rfl ?_) | (refine aLay H _ _ rfl rfl rfl (by (first | exact ⟨rfl, rfl⟩ | exact ⟨by decide, rfl⟩ | (simp []; done) | (constructor <;> simp [] <;> omega))) (by first | rfl | simp [List.all_append, one_all]) (by simp only [lay, List.take_succ_cons, List.take_zero, List.drop_succ_cons, List.drop_zero, List.nil_append, List.cons_append, List.length_cons, List.length_nil, Nat.zero_add, Nat.reduceAdd]; rfl) rfl ?_)); clear H; intro w' H; try dsimp only at H)
        | ((with_reducible refine gConv ?_); first | (refine aStr H _ rfl rfl rfl ?_)))
      refine startA (fun i => i == 4) (by kernel_rfl) (fun wS hS => ?_)
      replace H := H.drew
      rw [← hS] at H
      have HH := H.hold
      have HS0 : Below wS.heap.size wS wS := Below.refl _ _
      clear hS
      refine takeP 0 rfl (by kernel_rfl) (by kernel_rfl) (by kernel_rfl) (by kernel_rfl) (fun _ _ _ h => h) rfl (v := ?_) ?_ ?_
      rotate_left
      · intro w'; go_simp; (try with_reducible rfl)
      (try simp only [Act.put, List.setIfInBounds_toArray, List.set_cons_zero, List.set_cons_succ])
      refine takeL 1 HS0 rfl (by kernel_rfl) (by kernel_rfl) (by kernel_rfl) (by kernel_rfl) (by kernel_rfl) (fun _ _ _ h => h) rfl (v := ?_) ?_ ?_
      rotate_left
      · intro w' hw'; refine Eq.trans (xLoad (HH.below hw') _ rfl rfl (part_all HPL.out) HPL.out) ?_; with_reducible rfl
      (try simp only [Act.put, List.setIfInBounds_toArray, List.set_cons_zero, List.set_cons_succ])
      refine takeL 2 HS0 rfl (by kernel_rfl) (by kernel_rfl) (by kernel_rfl) (by kernel_rfl) (by kernel_rfl) (fun _ _ _ h => h) rfl (v := ?_) ?_ ?_
      rotate_left
      · intro w' hw'; refine Eq.trans (xLoad (HH.below hw') _ rfl rfl (part_all HXL.out) HXL.out) ?_; with_reducible rfl
      (try simp only [Act.put, List.setIfInBounds_toArray, List.set_cons_zero, List.set_cons_succ])
      refine stepL 3 rfl (by kernel_rfl) rfl (fun K hK => ?_)
      (go_simp; (with_reducible refine ((HBLK.out _ (HV.out _ H.chg))).mono ?_); rintro e w' ⟨A28, c28, rfl, ho, hb⟩; replace H := H.pushRow hb ho; clear ho; first | (replace HS0 := below_two HS0 HS0.size hb; clear hb; refine hK.out _ _ (fun _ _ => HS0) ?_; clear K hK) | (refine hK.out _ _ (fun _ h => below_two h h.size hb) ?_; clear hb K hK))
      (try simp only [Act.put, List.setIfInBounds_toArray, List.set_cons_zero, List.set_cons_succ])
      refine stepL 4 rfl (by kernel_rfl) rfl (fun K hK => ?_)
      (go_simp; have q := HFX.out (.slice A28 mb c28) _ (H.subS (D := bankL bk bd bo bm vw ss t st u)) (fun w2 hc2 => OR.reads (H.keepHd (D := bankL bk bd bo bm vw ss t st u) hc2)); (with_reducible refine q.mono ?_); rintro e w' ⟨rfl, vw5, ss5, kk⟩; replace H := H.viaS kk; (try dsimp only at H); clear kk q; refine hK.out _ _ (fun h => by cases h) ?_; clear K hK HS0)
      (try simp only [Act.put, List.setIfInBounds_toArray, List.set_cons_zero, List.set_cons_succ])
      refine takeP 5 rfl (by kernel_rfl) (by kernel_rfl) (by kernel_rfl) (by kernel_rfl) (fun _ _ _ h => h) rfl (v := ?_) ?_ ?_
      rotate_left
      · intro w'; go_simp; (try with_reducible rfl)
      (try simp only [Act.put, List.setIfInBounds_toArray, List.set_cons_zero, List.set_cons_succ])
      refine takeP 6 rfl (by kernel_rfl) (by kernel_rfl) (by kernel_rfl) (by kernel_rfl) (fun _ _ _ h => h) rfl (v := ?_) ?_ ?_
      rotate_left
      · intro w'; go_simp; (try with_reducible rfl)
      (try simp only [Act.put, List.setIfInBounds_toArray, List.set_cons_zero, List.set_cons_succ])
      refine takeP 7 rfl (by kernel_rfl) (by kernel_rfl) (by kernel_rfl) (by kernel_rfl) (fun _ _ _ h => h) rfl (v := ?_) ?_ ?_
      rotate_left
      · intro w'; go_simp; (try with_reducible rfl)
      (try simp only [Act.put, List.setIfInBounds_toArray, List.set_cons_zero, List.set_cons_succ])
      refine takeP 8 rfl (by kernel_rfl) (by kernel_rfl) (by kernel_rfl) (by kernel_rfl) (fun _ _ _ h => h) rfl (v := ?_) ?_ ?_
      rotate_left
      · intro w'; go_simp; (try with_reducible rfl)
      (try simp only [Act.put, List.setIfInBounds_toArray, List.set_cons_zero, List.set_cons_succ])
      refine takeP 9 rfl (by kernel_rfl) (by kernel_rfl) (by kernel_rfl) (by kernel_rfl) (fun _ _ _ h => h) rfl (v := ?_) ?_ ?_
      rotate_left
      · intro w'; go_simp; (try with_reducible rfl)
      (try simp only [Act.put, List.setIfInBounds_toArray, List.set_cons_zero, List.set_cons_succ])
      refine doneL (by kernel_rfl) ?_
      clear HH
      go_wp2_with (first
        | ((with_reducible refine gDst 22 ?_); replace H : SH F w _ (.blk b9 56 TD.nil.cells :: .blk b8 56 TD.nil.cells :: .blk b7 33 p.cells :: .blk b6 54 X :: bankL bk bd bo bm vw ss t st u) := H; refine aLoad1 H _ rfl rfl HC0.out rfl ?_)
        | ((with_reducible refine gDst 34 ?_); refine aLoad H _ rfl rfl (part_all HQL.out) HQL.out rfl ?_)
        | ((with_reducible refine gDst 42 ?_); refine aLoad H _ rfl rfl (part_all HPL.out) HPL.out rfl ?_)
        | ((with_reducible refine gDst 55 ?_); refine aLoad H _ rfl rfl (part_all HPL.out) HPL.out rfl ?_)
        | ((with_reducible refine gDst 67 ?_); refine aLoad H _ rfl rfl (part_all HPL.out) HPL.out rfl ?_)
        | ((with_reducible refine gDst 93 ?_); refine aLoad1 H _ rfl rfl HC3.out rfl ?_)
        | ((with_reducible refine gDst 102 ?_); refine aLoad1 H _ rfl rfl HC3.out rfl ?_)
        | ((with_reducible refine gDst 95 ?_); refine aLoad1 H _ rfl rfl HC39.out rfl ?_)
        | ((with_reducible refine gDst 113 ?_); refine aLoad H _ rfl rfl (part_all (TD.len _)) (TD.len _) rfl ?_)
        | ((with_reducible refine gSto (.tmp 35) (.tmp 34) ?_); refine aLay H _ _ rfl rfl rfl ⟨by rw [TD.len]; decide, HQL.out⟩ HQO.out (TD.setP _ _) rfl ?_; clear H; intro w' H; (try dsimp only at H))
        | ((with_reducible refine gSto (.tmp 48) (.tmp 47) ?_); refine aCell H _ _ rfl rfl (rfl : _ = Value.string _) (by rfl) (by rfl) (by rw [TD.len]; decide) (TD.setB _ _) rfl ?_; clear H; intro w' H; (try dsimp only at H))
        | ((with_reducible refine gSto (.tmp 60) (.tmp 59) ?_); refine aLay H _ _ rfl rfl rfl ⟨by rw [TD.len]; decide, by rfl⟩ (by rfl) (TD.setG _ _ _) rfl ?_; clear H; intro w' H; (try dsimp only at H))
        | ((with_reducible refine gSto (.tmp 72) (.tmp 71) ?_); refine aCell H _ _ rfl rfl (rfl : _ = Value.int _ _) (by rfl) (by rfl) (by rw [TD.len]; decide) (TD.setN _ _) rfl ?_; clear H; intro w' H; (try dsimp only at H))
        | ((with_reducible refine gSto (.tmp 86) (.tmp 85) ?_); refine aCell H _ _ rfl rfl (rfl : _ = Value.int _ _) (by rfl) (by rfl) (by rw [TD.len]; decide) (TD.setN _ _) rfl ?_; clear H; intro w' H; (try dsimp only at H))
        | ((first | (with_reducible refine gSto (.tmp 37) (.tmp 36) ?_) | (with_reducible refine gSto (.tmp 50) (.tmp 49) ?_) | (with_reducible refine gSto (.tmp 62) (.tmp 61) ?_) | (with_reducible refine gSto (.tmp 74) (.tmp 73) ?_) | (with_reducible refine gSto (.tmp 88) (.tmp 87) ?_) | (with_reducible refine gSto (.tmp 97) (.tmp 96) ?_) | (with_reducible refine gSto (.tmp 112) (.tmp 111) ?_)); refine aCell H _ _ rfl rfl (rfl : _ = Value.int _ _) (by rfl) (by rfl) (by rw [TD.len]; decide) (TD.setE _ _) rfl ?_; clear H; intro w' H; (try dsimp only at H))
        | ((with_reducible refine gSto (.tmp 8) (.tmp 113) ?_); refine aStore H _ _ rfl rfl rfl ⟨TD.len _, TD.len _⟩ (TD.one _) rfl ?_; clear H; intro w' H; (try dsimp only at H))
        | ((with_reducible refine gDst 47 ?_); first | refine aStr H _ rfl rfl rfl ?_ | refine stepV (xStr _ rfl rfl (HOLD.rdOne (RR.nil _))) rfl ?_)
        | (go_at_call 18; refine (HRD.out _ (HOLD.suf (D := bankL bk bd bo bm vw ss t st u) H.hold)).mono ?_; first | (rintro e w' ⟨A9, c9, rfl, ho, hb⟩; replace H := H.pushRow hb ho; clear hb ho) | (rintro e w' ⟨rfl, hb⟩; replace H := H.step hb; clear hb))
        | (go_at_call 21; refine (HLK.out _ (HOLD.suf (D := bankL bk bd bo bm vw ss t st u) H.hold)).mono ?_; rintro e w' ⟨rfl, hb⟩; replace H := H.step hb; clear hb)
        | (go_at_call 22; refine (HHL.out _ (H.subS (D := bankL bk bd bo bm vw ss t st u))).mono ?_; rintro e w' ⟨rfl, vw5, ss5, kk⟩; replace H := H.viaS kk; (try dsimp only at H); clear kk)
        | (go_at_call 20; refine (HRT.out _ (H.subS (D := bankL bk bd bo bm vw ss t st u)) (fun w' hc => HV.out _ (H.chgS (D := bankL bk bd bo bm vw ss t st u) hc))).mono ?_; rintro e w' ⟨rfl, kk⟩; replace H := H.viaS kk; (try dsimp only at H); clear kk)
        | (go_at_call 45; refine (HFU.out _ (H.subS (D := bankL bk bd bo bm vw ss t st u))).mono ?_; rintro e w' ⟨rfl, kk⟩; replace H := H.viaS kk; (try dsimp only at H); clear kk)
        | (go_at_call 51; refine (HCR.out _ (H.subS (D := bankL bk bd bo bm vw ss t st u))).mono ?_; rintro e w' ⟨rfl, kk⟩; replace H := H.viaS kk; (try dsimp only at H); clear kk)
        | (go_at_call 19; refine (HFL.out _ (H.subS (D := bankL bk bd bo bm vw ss t st u))).mono ?_; rintro e w' ⟨rfl, vw5, ss5, kk⟩; replace H := H.viaS kk; (try dsimp only at H); clear kk)
        | ((with_reducible refine gDst 6 ?_); refine aBox H _ rfl rfl rfl ?_; clear H; intro b6 w6 H)
        | ((with_reducible refine gDst 7 ?_); refine aBox H _ rfl rfl rfl ?_; clear H; intro b7 w7 H)
        | ((with_reducible refine gDst 8 ?_); refine aAlloc H rfl rfl ?_; clear H; intro b8 w8 H)
        | ((with_reducible refine gDst 9 ?_); refine aAlloc H rfl rfl ?_; clear H; intro b9 w9 H)
        | ((with_reducible refine gDst 14 ?_); refine aAlloc H rfl rfl ?_; clear H; intro b14 w14 H)
        | ((with_reducible refine gLoad ?_); first | (refine aLoad1 H _ rfl rfl (by first | exact (rfl : _ = some (Value.int _ _)) | exact (rfl : _ = some (Value.slice _ _ _)) | exact (rfl : _ = some (Value.bool _)) | exact (rfl : _ = some (Value.string _)) | exact (rfl : _ = some (Value.pointer _)) | rfl | (simp [List.getElem?_append]; done)) rfl ?_) | (refine aLoadC _ rfl rfl (by assumption) rfl ?_) | (refine aLoad H _ rfl rfl (by first | exact part_all (by first | rfl | simp []) | (simp only [List.drop_succ_cons, List.drop_zero, List.take_succ_cons, List.take_zero]; rfl) | (simp [List.drop_append, List.take_append]; rfl)) (by first | rfl | simp []) rfl ?_))
        | ((with_reducible refine gBuild ?_); refine aZero rfl rfl ?_)
        | ((with_reducible refine gStore ?_); (first | (refine aCell H _ _ rfl rfl (by first | exact (rfl : _ = Value.int _ _) | exact (rfl : _ = Value.bool _) | exact (rfl : _ = Value.slice _ _ _) | exact (rfl : _ = Value.string _) | exact (rfl : _ = Value.pointer _) | exact (rfl : _ = Value.func _ _ _) | rfl) (by rfl) (by rfl) (by first | exact of_decide_eq_true rfl | (simp []; done) | (simp []; omega)) (by first | (simp only [List.set_cons_zero, List.set_cons_succ]; rfl) | (simp [List.set_append]; rfl)) rfl ?_) | (refine aStore H _ _ rfl rfl rfl (by (first | exact ⟨rfl, rfl⟩ | exact ⟨by decide, rfl⟩ | (simp []; done) | (constructor <;> simp [] <;> omega))) (by first | rfl | simp [List.all_append, one_all]) rfl ?_) | (refine aLay H _ _ rfl rfl rfl (by (first | exact ⟨rfl, rfl⟩ | exact ⟨by decide, rfl⟩ | (simp []; done) | (constructor <;> simp [] <;> omega))) (by first | rfl | simp [List.all_append, one_all]) (by simp only [lay, List.take_succ_cons, List.take_zero, List.drop_succ_cons, List.drop_zero, List.nil_append, List.cons_append, List.length_cons, List.length_nil, Nat.zero_add, Nat.reduceAdd]; rfl) rfl ?_)); clear H; intro w' H; try dsimp only at H)
        | ((with_reducible refine gConv ?_); first | (refine aStr H _ rfl rfl rfl ?_)))
      refine bodyPost_ret (res_cell rfl _ H.hold rfl (TD.len _)) rfl ?_
      exact ⟨rfl, vw5, ss5, H.tail.tail.tail.tail.tail⟩
  by_cases k6 : kd = 6
  · subst k6
    obtain ⟨E6, s6, hsp⟩ : ∃ E6 s6, st.rotE u.length a b = (E6, s6) := ⟨_, _, rfl⟩
    rw [hsp] at hRT
    have HRT := Lib.hid hRT
    have e : doR t st u ⟨6, cp, wh, a, pp, b⟩ p = ({ TD.nil with e := E6 }, s6, u) := by
      rw [doR, if_neg (show ¬ ((6 : Int) = 1) by decide), if_neg (show ¬ ((6 : Int) = 2) by decide), if_neg (show ¬ ((6 : Int) = 3) by decide), if_neg (show ¬ ((6 : Int) = 4) by decide), if_neg (show ¬ ((6 : Int) = 5) by decide), if_pos rfl, hsp]
    rw [e]
    clear e hk hF
    clear hRD HLK hHL hFX hPUT hRT HFU HCR HFL
    have HXL := Lib.hid (acC_len 6 cp wh a pp (.slice A b.length c))
    have HC0 := Lib.hid (show (acC 6 cp wh a pp (.slice A b.length c))[0]? = some (.int .i64 6) from rfl)
    have HC1 := Lib.hid (show (acC 6 cp wh a pp (.slice A b.length c))[1]? = some (.int .i64 cp) from rfl)
    have HC3 := Lib.hid (show (acC 6 cp wh a pp (.slice A b.length c))[3]? = some (.int .i64 a) from rfl)
    have HC39 := Lib.hid (acC_39 6 cp wh a pp (.slice A b.length c))
    generalize acC 6 cp wh a pp (.slice A b.length c) = X at *
    have HPL := Lib.hid p.len
    generalize hbn : b.length = bn at *
    clear hbn
    go_enter Tryd.func25, Tryd.ntmps25
    go_wp2_with (first
      | ((with_reducible refine gDst 22 ?_); replace H : SH F w _ (.blk b9 56 TD.nil.cells :: .blk b8 56 TD.nil.cells :: .blk b7 33 p.cells :: .blk b6 54 X :: bankL bk bd bo bm vw ss t st u) := H; refine aLoad1 H _ rfl rfl HC0.out rfl ?_)
      | ((with_reducible refine gDst 34 ?_); refine aLoad H _ rfl rfl (part_all HQL.out) HQL.out rfl ?_)
      | ((with_reducible refine gDst 42 ?_); refine aLoad H _ rfl rfl (part_all HPL.out) HPL.out rfl ?_)
      | ((with_reducible refine gDst 55 ?_); refine aLoad H _ rfl rfl (part_all HPL.out) HPL.out rfl ?_)
      | ((with_reducible refine gDst 67 ?_); refine aLoad H _ rfl rfl (part_all HPL.out) HPL.out rfl ?_)
      | ((with_reducible refine gDst 93 ?_); refine aLoad1 H _ rfl rfl HC3.out rfl ?_)
      | ((with_reducible refine gDst 102 ?_); refine aLoad1 H _ rfl rfl HC3.out rfl ?_)
      | ((with_reducible refine gDst 95 ?_); refine aLoad1 H _ rfl rfl HC39.out rfl ?_)
      | ((with_reducible refine gDst 113 ?_); refine aLoad H _ rfl rfl (part_all (TD.len _)) (TD.len _) rfl ?_)
      | ((with_reducible refine gSto (.tmp 35) (.tmp 34) ?_); refine aLay H _ _ rfl rfl rfl ⟨by rw [TD.len]; decide, HQL.out⟩ HQO.out (TD.setP _ _) rfl ?_; clear H; intro w' H; (try dsimp only at H))
      | ((with_reducible refine gSto (.tmp 48) (.tmp 47) ?_); refine aCell H _ _ rfl rfl (rfl : _ = Value.string _) (by rfl) (by rfl) (by rw [TD.len]; decide) (TD.setB _ _) rfl ?_; clear H; intro w' H; (try dsimp only at H))
      | ((with_reducible refine gSto (.tmp 60) (.tmp 59) ?_); refine aLay H _ _ rfl rfl rfl ⟨by rw [TD.len]; decide, by rfl⟩ (by rfl) (TD.setG _ _ _) rfl ?_; clear H; intro w' H; (try dsimp only at H))
      | ((with_reducible refine gSto (.tmp 72) (.tmp 71) ?_); refine aCell H _ _ rfl rfl (rfl : _ = Value.int _ _) (by rfl) (by rfl) (by rw [TD.len]; decide) (TD.setN _ _) rfl ?_; clear H; intro w' H; (try dsimp only at H))
      | ((with_reducible refine gSto (.tmp 86) (.tmp 85) ?_); refine aCell H _ _ rfl rfl (rfl : _ = Value.int _ _) (by rfl) (by rfl) (by rw [TD.len]; decide) (TD.setN _ _) rfl ?_; clear H; intro w' H; (try dsimp only at H))
      | ((first | (with_reducible refine gSto (.tmp 37) (.tmp 36) ?_) | (with_reducible refine gSto (.tmp 50) (.tmp 49) ?_) | (with_reducible refine gSto (.tmp 62) (.tmp 61) ?_) | (with_reducible refine gSto (.tmp 74) (.tmp 73) ?_) | (with_reducible refine gSto (.tmp 88) (.tmp 87) ?_) | (with_reducible refine gSto (.tmp 97) (.tmp 96) ?_) | (with_reducible refine gSto (.tmp 112) (.tmp 111) ?_)); refine aCell H _ _ rfl rfl (rfl : _ = Value.int _ _) (by rfl) (by rfl) (by rw [TD.len]; decide) (TD.setE _ _) rfl ?_; clear H; intro w' H; (try dsimp only at H))
      | ((with_reducible refine gSto (.tmp 8) (.tmp 113) ?_); refine aStore H _ _ rfl rfl rfl ⟨TD.len _, TD.len _⟩ (TD.one _) rfl ?_; clear H; intro w' H; (try dsimp only at H))
      | ((with_reducible refine gDst 47 ?_); first | refine aStr H _ rfl rfl rfl ?_ | refine stepV (xStr _ rfl rfl (HOLD.rdOne (RR.nil _))) rfl ?_)
      | (go_at_call 18; refine (HRD.out _ (HOLD.suf (D := bankL bk bd bo bm vw ss t st u) H.hold)).mono ?_; first | (rintro e w' ⟨A9, c9, rfl, ho, hb⟩; replace H := H.pushRow hb ho; clear hb ho) | (rintro e w' ⟨rfl, hb⟩; replace H := H.step hb; clear hb))
      | (go_at_call 21; refine (HLK.out _ (HOLD.suf (D := bankL bk bd bo bm vw ss t st u) H.hold)).mono ?_; rintro e w' ⟨rfl, hb⟩; replace H := H.step hb; clear hb)
      | (go_at_call 22; refine (HHL.out _ (H.subS (D := bankL bk bd bo bm vw ss t st u))).mono ?_; rintro e w' ⟨rfl, vw5, ss5, kk⟩; replace H := H.viaS kk; (try dsimp only at H); clear kk)
      | (go_at_call 20; refine (HRT.out _ (H.subS (D := bankL bk bd bo bm vw ss t st u)) (fun w' hc => HV.out _ (H.chgS (D := bankL bk bd bo bm vw ss t st u) hc))).mono ?_; rintro e w' ⟨rfl, kk⟩; replace H := H.viaS kk; (try dsimp only at H); clear kk)
      | (go_at_call 45; refine (HFU.out _ (H.subS (D := bankL bk bd bo bm vw ss t st u))).mono ?_; rintro e w' ⟨rfl, kk⟩; replace H := H.viaS kk; (try dsimp only at H); clear kk)
      | (go_at_call 51; refine (HCR.out _ (H.subS (D := bankL bk bd bo bm vw ss t st u))).mono ?_; rintro e w' ⟨rfl, kk⟩; replace H := H.viaS kk; (try dsimp only at H); clear kk)
      | (go_at_call 19; refine (HFL.out _ (H.subS (D := bankL bk bd bo bm vw ss t st u))).mono ?_; rintro e w' ⟨rfl, vw5, ss5, kk⟩; replace H := H.viaS kk; (try dsimp only at H); clear kk)
      | ((with_reducible refine gDst 6 ?_); refine aBox H _ rfl rfl rfl ?_; clear H; intro b6 w6 H)
      | ((with_reducible refine gDst 7 ?_); refine aBox H _ rfl rfl rfl ?_; clear H; intro b7 w7 H)
      | ((with_reducible refine gDst 8 ?_); refine aAlloc H rfl rfl ?_; clear H; intro b8 w8 H)
      | ((with_reducible refine gDst 9 ?_); refine aAlloc H rfl rfl ?_; clear H; intro b9 w9 H)
      | ((with_reducible refine gDst 14 ?_); refine aAlloc H rfl rfl ?_; clear H; intro b14 w14 H)
      | ((with_reducible refine gLoad ?_); first | (refine aLoad1 H _ rfl rfl (by first | exact (rfl : _ = some (Value.int _ _)) | exact (rfl : _ = some (Value.slice _ _ _)) | exact (rfl : _ = some (Value.bool _)) | exact (rfl : _ = some (Value.string _)) | exact (rfl : _ = some (Value.pointer _)) | rfl | (simp [List.getElem?_append]; done)) rfl ?_) | (refine aLoadC _ rfl rfl (by assumption) rfl ?_) | (refine aLoad H _ rfl rfl (by first | exact part_all (by first | rfl | simp []) | (simp only [List.drop_succ_cons, List.drop_zero, List.take_succ_cons, List.take_zero]; rfl) | (simp [List.drop_append, List.take_append]; rfl)) (by first | rfl | simp []) rfl ?_))
      | ((with_reducible refine gBuild ?_); refine aZero rfl rfl ?_)
      | ((with_reducible refine gStore ?_); (first | (refine aCell H _ _ rfl rfl (by first | exact (rfl : _ = Value.int _ _) | exact (rfl : _ = Value.bool _) | exact (rfl : _ = Value.slice _ _ _) | exact (rfl : _ = Value.string _) | exact (rfl : _ = Value.pointer _) | exact (rfl : _ = Value.func _ _ _) | rfl) (by rfl) (by rfl) (by first | exact of_decide_eq_true rfl | (simp []; done) | (simp []; omega)) (by first | (simp only [List.set_cons_zero, List.set_cons_succ]; rfl) | (simp [List.set_append]; rfl)) rfl ?_) | (refine aStore H _ _ rfl rfl rfl (by (first | exact ⟨rfl, rfl⟩ | exact ⟨by decide, rfl⟩ | (simp []; done) | (constructor <;> simp [] <;> omega))) (by first | rfl | simp [List.all_append, one_all]) rfl ?_) | (refine aLay H _ _ rfl rfl rfl (by (first | exact ⟨rfl, rfl⟩ | exact ⟨by decide, rfl⟩ | (simp []; done) | (constructor <;> simp [] <;> omega))) (by first | rfl | simp [List.all_append, one_all]) (by simp only [lay, List.take_succ_cons, List.take_zero, List.drop_succ_cons, List.drop_zero, List.nil_append, List.cons_append, List.length_cons, List.length_nil, Nat.zero_add, Nat.reduceAdd]; rfl) rfl ?_)); clear H; intro w' H; try dsimp only at H)
      | ((with_reducible refine gConv ?_); first | (refine aStr H _ rfl rfl rfl ?_)))
    refine bodyPost_ret (res_cell rfl _ H.hold rfl (TD.len _)) rfl ?_
    exact ⟨rfl, vw, ss, H.tail.tail.tail.tail⟩
  by_cases k7 : kd = 7
  · subst k7
    have e : doR t st u ⟨7, cp, wh, a, pp, b⟩ p = (TD.nil, st.fuse a, u) := by
      rw [doR, if_neg (show ¬ ((7 : Int) = 1) by decide), if_neg (show ¬ ((7 : Int) = 2) by decide), if_neg (show ¬ ((7 : Int) = 3) by decide), if_neg (show ¬ ((7 : Int) = 4) by decide), if_neg (show ¬ ((7 : Int) = 5) by decide), if_neg (show ¬ ((7 : Int) = 6) by decide), if_pos rfl]
    rw [e]
    clear e hk hF
    clear hRD HLK hHL hFX hPUT hRT HCR HFL
    have HXL := Lib.hid (acC_len 7 cp wh a pp (.slice A b.length c))
    have HC0 := Lib.hid (show (acC 7 cp wh a pp (.slice A b.length c))[0]? = some (.int .i64 7) from rfl)
    have HC1 := Lib.hid (show (acC 7 cp wh a pp (.slice A b.length c))[1]? = some (.int .i64 cp) from rfl)
    have HC3 := Lib.hid (show (acC 7 cp wh a pp (.slice A b.length c))[3]? = some (.int .i64 a) from rfl)
    have HC39 := Lib.hid (acC_39 7 cp wh a pp (.slice A b.length c))
    generalize acC 7 cp wh a pp (.slice A b.length c) = X at *
    have HPL := Lib.hid p.len
    generalize hbn : b.length = bn at *
    clear hbn
    go_enter Tryd.func25, Tryd.ntmps25
    go_wp2_with (first
      | ((with_reducible refine gDst 22 ?_); replace H : SH F w _ (.blk b9 56 TD.nil.cells :: .blk b8 56 TD.nil.cells :: .blk b7 33 p.cells :: .blk b6 54 X :: bankL bk bd bo bm vw ss t st u) := H; refine aLoad1 H _ rfl rfl HC0.out rfl ?_)
      | ((with_reducible refine gDst 34 ?_); refine aLoad H _ rfl rfl (part_all HQL.out) HQL.out rfl ?_)
      | ((with_reducible refine gDst 42 ?_); refine aLoad H _ rfl rfl (part_all HPL.out) HPL.out rfl ?_)
      | ((with_reducible refine gDst 55 ?_); refine aLoad H _ rfl rfl (part_all HPL.out) HPL.out rfl ?_)
      | ((with_reducible refine gDst 67 ?_); refine aLoad H _ rfl rfl (part_all HPL.out) HPL.out rfl ?_)
      | ((with_reducible refine gDst 93 ?_); refine aLoad1 H _ rfl rfl HC3.out rfl ?_)
      | ((with_reducible refine gDst 102 ?_); refine aLoad1 H _ rfl rfl HC3.out rfl ?_)
      | ((with_reducible refine gDst 95 ?_); refine aLoad1 H _ rfl rfl HC39.out rfl ?_)
      | ((with_reducible refine gDst 113 ?_); refine aLoad H _ rfl rfl (part_all (TD.len _)) (TD.len _) rfl ?_)
      | ((with_reducible refine gSto (.tmp 35) (.tmp 34) ?_); refine aLay H _ _ rfl rfl rfl ⟨by rw [TD.len]; decide, HQL.out⟩ HQO.out (TD.setP _ _) rfl ?_; clear H; intro w' H; (try dsimp only at H))
      | ((with_reducible refine gSto (.tmp 48) (.tmp 47) ?_); refine aCell H _ _ rfl rfl (rfl : _ = Value.string _) (by rfl) (by rfl) (by rw [TD.len]; decide) (TD.setB _ _) rfl ?_; clear H; intro w' H; (try dsimp only at H))
      | ((with_reducible refine gSto (.tmp 60) (.tmp 59) ?_); refine aLay H _ _ rfl rfl rfl ⟨by rw [TD.len]; decide, by rfl⟩ (by rfl) (TD.setG _ _ _) rfl ?_; clear H; intro w' H; (try dsimp only at H))
      | ((with_reducible refine gSto (.tmp 72) (.tmp 71) ?_); refine aCell H _ _ rfl rfl (rfl : _ = Value.int _ _) (by rfl) (by rfl) (by rw [TD.len]; decide) (TD.setN _ _) rfl ?_; clear H; intro w' H; (try dsimp only at H))
      | ((with_reducible refine gSto (.tmp 86) (.tmp 85) ?_); refine aCell H _ _ rfl rfl (rfl : _ = Value.int _ _) (by rfl) (by rfl) (by rw [TD.len]; decide) (TD.setN _ _) rfl ?_; clear H; intro w' H; (try dsimp only at H))
      | ((first | (with_reducible refine gSto (.tmp 37) (.tmp 36) ?_) | (with_reducible refine gSto (.tmp 50) (.tmp 49) ?_) | (with_reducible refine gSto (.tmp 62) (.tmp 61) ?_) | (with_reducible refine gSto (.tmp 74) (.tmp 73) ?_) | (with_reducible refine gSto (.tmp 88) (.tmp 87) ?_) | (with_reducible refine gSto (.tmp 97) (.tmp 96) ?_) | (with_reducible refine gSto (.tmp 112) (.tmp 111) ?_)); refine aCell H _ _ rfl rfl (rfl : _ = Value.int _ _) (by rfl) (by rfl) (by rw [TD.len]; decide) (TD.setE _ _) rfl ?_; clear H; intro w' H; (try dsimp only at H))
      | ((with_reducible refine gSto (.tmp 8) (.tmp 113) ?_); refine aStore H _ _ rfl rfl rfl ⟨TD.len _, TD.len _⟩ (TD.one _) rfl ?_; clear H; intro w' H; (try dsimp only at H))
      | ((with_reducible refine gDst 47 ?_); first | refine aStr H _ rfl rfl rfl ?_ | refine stepV (xStr _ rfl rfl (HOLD.rdOne (RR.nil _))) rfl ?_)
      | (go_at_call 18; refine (HRD.out _ (HOLD.suf (D := bankL bk bd bo bm vw ss t st u) H.hold)).mono ?_; first | (rintro e w' ⟨A9, c9, rfl, ho, hb⟩; replace H := H.pushRow hb ho; clear hb ho) | (rintro e w' ⟨rfl, hb⟩; replace H := H.step hb; clear hb))
      | (go_at_call 21; refine (HLK.out _ (HOLD.suf (D := bankL bk bd bo bm vw ss t st u) H.hold)).mono ?_; rintro e w' ⟨rfl, hb⟩; replace H := H.step hb; clear hb)
      | (go_at_call 22; refine (HHL.out _ (H.subS (D := bankL bk bd bo bm vw ss t st u))).mono ?_; rintro e w' ⟨rfl, vw5, ss5, kk⟩; replace H := H.viaS kk; (try dsimp only at H); clear kk)
      | (go_at_call 20; refine (HRT.out _ (H.subS (D := bankL bk bd bo bm vw ss t st u)) (fun w' hc => HV.out _ (H.chgS (D := bankL bk bd bo bm vw ss t st u) hc))).mono ?_; rintro e w' ⟨rfl, kk⟩; replace H := H.viaS kk; (try dsimp only at H); clear kk)
      | (go_at_call 45; refine (HFU.out _ (H.subS (D := bankL bk bd bo bm vw ss t st u))).mono ?_; rintro e w' ⟨rfl, kk⟩; replace H := H.viaS kk; (try dsimp only at H); clear kk)
      | (go_at_call 51; refine (HCR.out _ (H.subS (D := bankL bk bd bo bm vw ss t st u))).mono ?_; rintro e w' ⟨rfl, kk⟩; replace H := H.viaS kk; (try dsimp only at H); clear kk)
      | (go_at_call 19; refine (HFL.out _ (H.subS (D := bankL bk bd bo bm vw ss t st u))).mono ?_; rintro e w' ⟨rfl, vw5, ss5, kk⟩; replace H := H.viaS kk; (try dsimp only at H); clear kk)
      | ((with_reducible refine gDst 6 ?_); refine aBox H _ rfl rfl rfl ?_; clear H; intro b6 w6 H)
      | ((with_reducible refine gDst 7 ?_); refine aBox H _ rfl rfl rfl ?_; clear H; intro b7 w7 H)
      | ((with_reducible refine gDst 8 ?_); refine aAlloc H rfl rfl ?_; clear H; intro b8 w8 H)
      | ((with_reducible refine gDst 9 ?_); refine aAlloc H rfl rfl ?_; clear H; intro b9 w9 H)
      | ((with_reducible refine gDst 14 ?_); refine aAlloc H rfl rfl ?_; clear H; intro b14 w14 H)
      | ((with_reducible refine gLoad ?_); first | (refine aLoad1 H _ rfl rfl (by first | exact (rfl : _ = some (Value.int _ _)) | exact (rfl : _ = some (Value.slice _ _ _)) | exact (rfl : _ = some (Value.bool _)) | exact (rfl : _ = some (Value.string _)) | exact (rfl : _ = some (Value.pointer _)) | rfl | (simp [List.getElem?_append]; done)) rfl ?_) | (refine aLoadC _ rfl rfl (by assumption) rfl ?_) | (refine aLoad H _ rfl rfl (by first | exact part_all (by first | rfl | simp []) | (simp only [List.drop_succ_cons, List.drop_zero, List.take_succ_cons, List.take_zero]; rfl) | (simp [List.drop_append, List.take_append]; rfl)) (by first | rfl | simp []) rfl ?_))
      | ((with_reducible refine gBuild ?_); refine aZero rfl rfl ?_)
      | ((with_reducible refine gStore ?_); (first | (refine aCell H _ _ rfl rfl (by first | exact (rfl : _ = Value.int _ _) | exact (rfl : _ = Value.bool _) | exact (rfl : _ = Value.slice _ _ _) | exact (rfl : _ = Value.string _) | exact (rfl : _ = Value.pointer _) | exact (rfl : _ = Value.func _ _ _) | rfl) (by rfl) (by rfl) (by first | exact of_decide_eq_true rfl | (simp []; done) | (simp []; omega)) (by first | (simp only [List.set_cons_zero, List.set_cons_succ]; rfl) | (simp [List.set_append]; rfl)) rfl ?_) | (refine aStore H _ _ rfl rfl rfl (by (first | exact ⟨rfl, rfl⟩ | exact ⟨by decide, rfl⟩ | (simp []; done) | (constructor <;> simp [] <;> omega))) (by first | rfl | simp [List.all_append, one_all]) rfl ?_) | (refine aLay H _ _ rfl rfl rfl (by (first | exact ⟨rfl, rfl⟩ | exact ⟨by decide, rfl⟩ | (simp []; done) | (constructor <;> simp [] <;> omega))) (by first | rfl | simp [List.all_append, one_all]) (by simp only [lay, List.take_succ_cons, List.take_zero, List.drop_succ_cons, List.drop_zero, List.nil_append, List.cons_append, List.length_cons, List.length_nil, Nat.zero_add, Nat.reduceAdd]; rfl) rfl ?_)); clear H; intro w' H; try dsimp only at H)
      | ((with_reducible refine gConv ?_); first | (refine aStr H _ rfl rfl rfl ?_)))
    refine bodyPost_ret (res_cell rfl _ H.hold rfl (TD.len _)) rfl ?_
    exact ⟨rfl, vw, ss, H.tail.tail.tail.tail⟩
  by_cases k8 : kd = 8
  · subst k8
    have e : doR t st u ⟨8, cp, wh, a, pp, b⟩ p = (TD.nil, st.crash0, u) := by
      rw [doR, if_neg (show ¬ ((8 : Int) = 1) by decide), if_neg (show ¬ ((8 : Int) = 2) by decide), if_neg (show ¬ ((8 : Int) = 3) by decide), if_neg (show ¬ ((8 : Int) = 4) by decide), if_neg (show ¬ ((8 : Int) = 5) by decide), if_neg (show ¬ ((8 : Int) = 6) by decide), if_neg (show ¬ ((8 : Int) = 7) by decide), if_pos rfl]
    rw [e]
    clear e hk hF
    clear hRD HLK hHL hFX hPUT hRT HFU HFL
    have HXL := Lib.hid (acC_len 8 cp wh a pp (.slice A b.length c))
    have HC0 := Lib.hid (show (acC 8 cp wh a pp (.slice A b.length c))[0]? = some (.int .i64 8) from rfl)
    have HC1 := Lib.hid (show (acC 8 cp wh a pp (.slice A b.length c))[1]? = some (.int .i64 cp) from rfl)
    have HC3 := Lib.hid (show (acC 8 cp wh a pp (.slice A b.length c))[3]? = some (.int .i64 a) from rfl)
    have HC39 := Lib.hid (acC_39 8 cp wh a pp (.slice A b.length c))
    generalize acC 8 cp wh a pp (.slice A b.length c) = X at *
    have HPL := Lib.hid p.len
    generalize hbn : b.length = bn at *
    clear hbn
    go_enter Tryd.func25, Tryd.ntmps25
    go_wp2_with (first
      | ((with_reducible refine gDst 22 ?_); replace H : SH F w _ (.blk b9 56 TD.nil.cells :: .blk b8 56 TD.nil.cells :: .blk b7 33 p.cells :: .blk b6 54 X :: bankL bk bd bo bm vw ss t st u) := H; refine aLoad1 H _ rfl rfl HC0.out rfl ?_)
      | ((with_reducible refine gDst 34 ?_); refine aLoad H _ rfl rfl (part_all HQL.out) HQL.out rfl ?_)
      | ((with_reducible refine gDst 42 ?_); refine aLoad H _ rfl rfl (part_all HPL.out) HPL.out rfl ?_)
      | ((with_reducible refine gDst 55 ?_); refine aLoad H _ rfl rfl (part_all HPL.out) HPL.out rfl ?_)
      | ((with_reducible refine gDst 67 ?_); refine aLoad H _ rfl rfl (part_all HPL.out) HPL.out rfl ?_)
      | ((with_reducible refine gDst 93 ?_); refine aLoad1 H _ rfl rfl HC3.out rfl ?_)
      | ((with_reducible refine gDst 102 ?_); refine aLoad1 H _ rfl rfl HC3.out rfl ?_)
      | ((with_reducible refine gDst 95 ?_); refine aLoad1 H _ rfl rfl HC39.out rfl ?_)
      | ((with_reducible refine gDst 113 ?_); refine aLoad H _ rfl rfl (part_all (TD.len _)) (TD.len _) rfl ?_)
      | ((with_reducible refine gSto (.tmp 35) (.tmp 34) ?_); refine aLay H _ _ rfl rfl rfl ⟨by rw [TD.len]; decide, HQL.out⟩ HQO.out (TD.setP _ _) rfl ?_; clear H; intro w' H; (try dsimp only at H))
      | ((with_reducible refine gSto (.tmp 48) (.tmp 47) ?_); refine aCell H _ _ rfl rfl (rfl : _ = Value.string _) (by rfl) (by rfl) (by rw [TD.len]; decide) (TD.setB _ _) rfl ?_; clear H; intro w' H; (try dsimp only at H))
      | ((with_reducible refine gSto (.tmp 60) (.tmp 59) ?_); refine aLay H _ _ rfl rfl rfl ⟨by rw [TD.len]; decide, by rfl⟩ (by rfl) (TD.setG _ _ _) rfl ?_; clear H; intro w' H; (try dsimp only at H))
      | ((with_reducible refine gSto (.tmp 72) (.tmp 71) ?_); refine aCell H _ _ rfl rfl (rfl : _ = Value.int _ _) (by rfl) (by rfl) (by rw [TD.len]; decide) (TD.setN _ _) rfl ?_; clear H; intro w' H; (try dsimp only at H))
      | ((with_reducible refine gSto (.tmp 86) (.tmp 85) ?_); refine aCell H _ _ rfl rfl (rfl : _ = Value.int _ _) (by rfl) (by rfl) (by rw [TD.len]; decide) (TD.setN _ _) rfl ?_; clear H; intro w' H; (try dsimp only at H))
      | ((first | (with_reducible refine gSto (.tmp 37) (.tmp 36) ?_) | (with_reducible refine gSto (.tmp 50) (.tmp 49) ?_) | (with_reducible refine gSto (.tmp 62) (.tmp 61) ?_) | (with_reducible refine gSto (.tmp 74) (.tmp 73) ?_) | (with_reducible refine gSto (.tmp 88) (.tmp 87) ?_) | (with_reducible refine gSto (.tmp 97) (.tmp 96) ?_) | (with_reducible refine gSto (.tmp 112) (.tmp 111) ?_)); refine aCell H _ _ rfl rfl (rfl : _ = Value.int _ _) (by rfl) (by rfl) (by rw [TD.len]; decide) (TD.setE _ _) rfl ?_; clear H; intro w' H; (try dsimp only at H))
      | ((with_reducible refine gSto (.tmp 8) (.tmp 113) ?_); refine aStore H _ _ rfl rfl rfl ⟨TD.len _, TD.len _⟩ (TD.one _) rfl ?_; clear H; intro w' H; (try dsimp only at H))
      | ((with_reducible refine gDst 47 ?_); first | refine aStr H _ rfl rfl rfl ?_ | refine stepV (xStr _ rfl rfl (HOLD.rdOne (RR.nil _))) rfl ?_)
      | (go_at_call 18; refine (HRD.out _ (HOLD.suf (D := bankL bk bd bo bm vw ss t st u) H.hold)).mono ?_; first | (rintro e w' ⟨A9, c9, rfl, ho, hb⟩; replace H := H.pushRow hb ho; clear hb ho) | (rintro e w' ⟨rfl, hb⟩; replace H := H.step hb; clear hb))
      | (go_at_call 21; refine (HLK.out _ (HOLD.suf (D := bankL bk bd bo bm vw ss t st u) H.hold)).mono ?_; rintro e w' ⟨rfl, hb⟩; replace H := H.step hb; clear hb)
      | (go_at_call 22; refine (HHL.out _ (H.subS (D := bankL bk bd bo bm vw ss t st u))).mono ?_; rintro e w' ⟨rfl, vw5, ss5, kk⟩; replace H := H.viaS kk; (try dsimp only at H); clear kk)
      | (go_at_call 20; refine (HRT.out _ (H.subS (D := bankL bk bd bo bm vw ss t st u)) (fun w' hc => HV.out _ (H.chgS (D := bankL bk bd bo bm vw ss t st u) hc))).mono ?_; rintro e w' ⟨rfl, kk⟩; replace H := H.viaS kk; (try dsimp only at H); clear kk)
      | (go_at_call 45; refine (HFU.out _ (H.subS (D := bankL bk bd bo bm vw ss t st u))).mono ?_; rintro e w' ⟨rfl, kk⟩; replace H := H.viaS kk; (try dsimp only at H); clear kk)
      | (go_at_call 51; refine (HCR.out _ (H.subS (D := bankL bk bd bo bm vw ss t st u))).mono ?_; rintro e w' ⟨rfl, kk⟩; replace H := H.viaS kk; (try dsimp only at H); clear kk)
      | (go_at_call 19; refine (HFL.out _ (H.subS (D := bankL bk bd bo bm vw ss t st u))).mono ?_; rintro e w' ⟨rfl, vw5, ss5, kk⟩; replace H := H.viaS kk; (try dsimp only at H); clear kk)
      | ((with_reducible refine gDst 6 ?_); refine aBox H _ rfl rfl rfl ?_; clear H; intro b6 w6 H)
      | ((with_reducible refine gDst 7 ?_); refine aBox H _ rfl rfl rfl ?_; clear H; intro b7 w7 H)
      | ((with_reducible refine gDst 8 ?_); refine aAlloc H rfl rfl ?_; clear H; intro b8 w8 H)
      | ((with_reducible refine gDst 9 ?_); refine aAlloc H rfl rfl ?_; clear H; intro b9 w9 H)
      | ((with_reducible refine gDst 14 ?_); refine aAlloc H rfl rfl ?_; clear H; intro b14 w14 H)
      | ((with_reducible refine gLoad ?_); first | (refine aLoad1 H _ rfl rfl (by first | exact (rfl : _ = some (Value.int _ _)) | exact (rfl : _ = some (Value.slice _ _ _)) | exact (rfl : _ = some (Value.bool _)) | exact (rfl : _ = some (Value.string _)) | exact (rfl : _ = some (Value.pointer _)) | rfl | (simp [List.getElem?_append]; done)) rfl ?_) | (refine aLoadC _ rfl rfl (by assumption) rfl ?_) | (refine aLoad H _ rfl rfl (by first | exact part_all (by first | rfl | simp []) | (simp only [List.drop_succ_cons, List.drop_zero, List.take_succ_cons, List.take_zero]; rfl) | (simp [List.drop_append, List.take_append]; rfl)) (by first | rfl | simp []) rfl ?_))
      | ((with_reducible refine gBuild ?_); refine aZero rfl rfl ?_)
      | ((with_reducible refine gStore ?_); (first | (refine aCell H _ _ rfl rfl (by first | exact (rfl : _ = Value.int _ _) | exact (rfl : _ = Value.bool _) | exact (rfl : _ = Value.slice _ _ _) | exact (rfl : _ = Value.string _) | exact (rfl : _ = Value.pointer _) | exact (rfl : _ = Value.func _ _ _) | rfl) (by rfl) (by rfl) (by first | exact of_decide_eq_true rfl | (simp []; done) | (simp []; omega)) (by first | (simp only [List.set_cons_zero, List.set_cons_succ]; rfl) | (simp [List.set_append]; rfl)) rfl ?_) | (refine aStore H _ _ rfl rfl rfl (by (first | exact ⟨rfl, rfl⟩ | exact ⟨by decide, rfl⟩ | (simp []; done) | (constructor <;> simp [] <;> omega))) (by first | rfl | simp [List.all_append, one_all]) rfl ?_) | (refine aLay H _ _ rfl rfl rfl (by (first | exact ⟨rfl, rfl⟩ | exact ⟨by decide, rfl⟩ | (simp []; done) | (constructor <;> simp [] <;> omega))) (by first | rfl | simp [List.all_append, one_all]) (by simp only [lay, List.take_succ_cons, List.take_zero, List.drop_succ_cons, List.drop_zero, List.nil_append, List.cons_append, List.length_cons, List.length_nil, Nat.zero_add, Nat.reduceAdd]; rfl) rfl ?_)); clear H; intro w' H; try dsimp only at H)
      | ((with_reducible refine gConv ?_); first | (refine aStr H _ rfl rfl rfl ?_)))
    refine bodyPost_ret (res_cell rfl _ H.hold rfl (TD.len _)) rfl ?_
    exact ⟨rfl, (.slice none 0 0), [], H.tail.tail.tail.tail⟩
  by_cases k9 : kd = 9
  · subst k9
    obtain ⟨E6, s6, hsp⟩ : ∃ E6 s6, st.flushE = (E6, s6) := ⟨_, _, rfl⟩
    rw [hsp] at HFL
    have e : doR t st u ⟨9, cp, wh, a, pp, b⟩ p = ({ TD.nil with e := E6 }, s6, u) := by
      rw [doR, if_neg (show ¬ ((9 : Int) = 1) by decide), if_neg (show ¬ ((9 : Int) = 2) by decide), if_neg (show ¬ ((9 : Int) = 3) by decide), if_neg (show ¬ ((9 : Int) = 4) by decide), if_neg (show ¬ ((9 : Int) = 5) by decide), if_neg (show ¬ ((9 : Int) = 6) by decide), if_neg (show ¬ ((9 : Int) = 7) by decide), if_neg (show ¬ ((9 : Int) = 8) by decide), if_pos rfl, hsp]
    rw [e]
    clear e hk hF
    clear hRD HLK hHL hFX hPUT hRT HFU HCR
    have HXL := Lib.hid (acC_len 9 cp wh a pp (.slice A b.length c))
    have HC0 := Lib.hid (show (acC 9 cp wh a pp (.slice A b.length c))[0]? = some (.int .i64 9) from rfl)
    have HC1 := Lib.hid (show (acC 9 cp wh a pp (.slice A b.length c))[1]? = some (.int .i64 cp) from rfl)
    have HC3 := Lib.hid (show (acC 9 cp wh a pp (.slice A b.length c))[3]? = some (.int .i64 a) from rfl)
    have HC39 := Lib.hid (acC_39 9 cp wh a pp (.slice A b.length c))
    generalize acC 9 cp wh a pp (.slice A b.length c) = X at *
    have HPL := Lib.hid p.len
    generalize hbn : b.length = bn at *
    clear hbn
    go_enter Tryd.func25, Tryd.ntmps25
    go_wp2_with (first
      | ((with_reducible refine gDst 22 ?_); replace H : SH F w _ (.blk b9 56 TD.nil.cells :: .blk b8 56 TD.nil.cells :: .blk b7 33 p.cells :: .blk b6 54 X :: bankL bk bd bo bm vw ss t st u) := H; refine aLoad1 H _ rfl rfl HC0.out rfl ?_)
      | ((with_reducible refine gDst 34 ?_); refine aLoad H _ rfl rfl (part_all HQL.out) HQL.out rfl ?_)
      | ((with_reducible refine gDst 42 ?_); refine aLoad H _ rfl rfl (part_all HPL.out) HPL.out rfl ?_)
      | ((with_reducible refine gDst 55 ?_); refine aLoad H _ rfl rfl (part_all HPL.out) HPL.out rfl ?_)
      | ((with_reducible refine gDst 67 ?_); refine aLoad H _ rfl rfl (part_all HPL.out) HPL.out rfl ?_)
      | ((with_reducible refine gDst 93 ?_); refine aLoad1 H _ rfl rfl HC3.out rfl ?_)
      | ((with_reducible refine gDst 102 ?_); refine aLoad1 H _ rfl rfl HC3.out rfl ?_)
      | ((with_reducible refine gDst 95 ?_); refine aLoad1 H _ rfl rfl HC39.out rfl ?_)
      | ((with_reducible refine gDst 113 ?_); refine aLoad H _ rfl rfl (part_all (TD.len _)) (TD.len _) rfl ?_)
      | ((with_reducible refine gSto (.tmp 35) (.tmp 34) ?_); refine aLay H _ _ rfl rfl rfl ⟨by rw [TD.len]; decide, HQL.out⟩ HQO.out (TD.setP _ _) rfl ?_; clear H; intro w' H; (try dsimp only at H))
      | ((with_reducible refine gSto (.tmp 48) (.tmp 47) ?_); refine aCell H _ _ rfl rfl (rfl : _ = Value.string _) (by rfl) (by rfl) (by rw [TD.len]; decide) (TD.setB _ _) rfl ?_; clear H; intro w' H; (try dsimp only at H))
      | ((with_reducible refine gSto (.tmp 60) (.tmp 59) ?_); refine aLay H _ _ rfl rfl rfl ⟨by rw [TD.len]; decide, by rfl⟩ (by rfl) (TD.setG _ _ _) rfl ?_; clear H; intro w' H; (try dsimp only at H))
      | ((with_reducible refine gSto (.tmp 72) (.tmp 71) ?_); refine aCell H _ _ rfl rfl (rfl : _ = Value.int _ _) (by rfl) (by rfl) (by rw [TD.len]; decide) (TD.setN _ _) rfl ?_; clear H; intro w' H; (try dsimp only at H))
      | ((with_reducible refine gSto (.tmp 86) (.tmp 85) ?_); refine aCell H _ _ rfl rfl (rfl : _ = Value.int _ _) (by rfl) (by rfl) (by rw [TD.len]; decide) (TD.setN _ _) rfl ?_; clear H; intro w' H; (try dsimp only at H))
      | ((first | (with_reducible refine gSto (.tmp 37) (.tmp 36) ?_) | (with_reducible refine gSto (.tmp 50) (.tmp 49) ?_) | (with_reducible refine gSto (.tmp 62) (.tmp 61) ?_) | (with_reducible refine gSto (.tmp 74) (.tmp 73) ?_) | (with_reducible refine gSto (.tmp 88) (.tmp 87) ?_) | (with_reducible refine gSto (.tmp 97) (.tmp 96) ?_) | (with_reducible refine gSto (.tmp 112) (.tmp 111) ?_)); refine aCell H _ _ rfl rfl (rfl : _ = Value.int _ _) (by rfl) (by rfl) (by rw [TD.len]; decide) (TD.setE _ _) rfl ?_; clear H; intro w' H; (try dsimp only at H))
      | ((with_reducible refine gSto (.tmp 8) (.tmp 113) ?_); refine aStore H _ _ rfl rfl rfl ⟨TD.len _, TD.len _⟩ (TD.one _) rfl ?_; clear H; intro w' H; (try dsimp only at H))
      | ((with_reducible refine gDst 47 ?_); first | refine aStr H _ rfl rfl rfl ?_ | refine stepV (xStr _ rfl rfl (HOLD.rdOne (RR.nil _))) rfl ?_)
      | (go_at_call 18; refine (HRD.out _ (HOLD.suf (D := bankL bk bd bo bm vw ss t st u) H.hold)).mono ?_; first | (rintro e w' ⟨A9, c9, rfl, ho, hb⟩; replace H := H.pushRow hb ho; clear hb ho) | (rintro e w' ⟨rfl, hb⟩; replace H := H.step hb; clear hb))
      | (go_at_call 21; refine (HLK.out _ (HOLD.suf (D := bankL bk bd bo bm vw ss t st u) H.hold)).mono ?_; rintro e w' ⟨rfl, hb⟩; replace H := H.step hb; clear hb)
      | (go_at_call 22; refine (HHL.out _ (H.subS (D := bankL bk bd bo bm vw ss t st u))).mono ?_; rintro e w' ⟨rfl, vw5, ss5, kk⟩; replace H := H.viaS kk; (try dsimp only at H); clear kk)
      | (go_at_call 20; refine (HRT.out _ (H.subS (D := bankL bk bd bo bm vw ss t st u)) (fun w' hc => HV.out _ (H.chgS (D := bankL bk bd bo bm vw ss t st u) hc))).mono ?_; rintro e w' ⟨rfl, kk⟩; replace H := H.viaS kk; (try dsimp only at H); clear kk)
      | (go_at_call 45; refine (HFU.out _ (H.subS (D := bankL bk bd bo bm vw ss t st u))).mono ?_; rintro e w' ⟨rfl, kk⟩; replace H := H.viaS kk; (try dsimp only at H); clear kk)
      | (go_at_call 51; refine (HCR.out _ (H.subS (D := bankL bk bd bo bm vw ss t st u))).mono ?_; rintro e w' ⟨rfl, kk⟩; replace H := H.viaS kk; (try dsimp only at H); clear kk)
      | (go_at_call 19; refine (HFL.out _ (H.subS (D := bankL bk bd bo bm vw ss t st u))).mono ?_; rintro e w' ⟨rfl, vw5, ss5, kk⟩; replace H := H.viaS kk; (try dsimp only at H); clear kk)
      | ((with_reducible refine gDst 6 ?_); refine aBox H _ rfl rfl rfl ?_; clear H; intro b6 w6 H)
      | ((with_reducible refine gDst 7 ?_); refine aBox H _ rfl rfl rfl ?_; clear H; intro b7 w7 H)
      | ((with_reducible refine gDst 8 ?_); refine aAlloc H rfl rfl ?_; clear H; intro b8 w8 H)
      | ((with_reducible refine gDst 9 ?_); refine aAlloc H rfl rfl ?_; clear H; intro b9 w9 H)
      | ((with_reducible refine gDst 14 ?_); refine aAlloc H rfl rfl ?_; clear H; intro b14 w14 H)
      | ((with_reducible refine gLoad ?_); first | (refine aLoad1 H _ rfl rfl (by first | exact (rfl : _ = some (Value.int _ _)) | exact (rfl : _ = some (Value.slice _ _ _)) | exact (rfl : _ = some (Value.bool _)) | exact (rfl : _ = some (Value.string _)) | exact (rfl : _ = some (Value.pointer _)) | rfl | (simp [List.getElem?_append]; done)) rfl ?_) | (refine aLoadC _ rfl rfl (by assumption) rfl ?_) | (refine aLoad H _ rfl rfl (by first | exact part_all (by first | rfl | simp []) | (simp only [List.drop_succ_cons, List.drop_zero, List.take_succ_cons, List.take_zero]; rfl) | (simp [List.drop_append, List.take_append]; rfl)) (by first | rfl | simp []) rfl ?_))
      | ((with_reducible refine gBuild ?_); refine aZero rfl rfl ?_)
      | ((with_reducible refine gStore ?_); (first | (refine aCell H _ _ rfl rfl (by first | exact (rfl : _ = Value.int _ _) | exact (rfl : _ = Value.bool _) | exact (rfl : _ = Value.slice _ _ _) | exact (rfl : _ = Value.string _) | exact (rfl : _ = Value.pointer _) | exact (rfl : _ = Value.func _ _ _) | rfl) (by rfl) (by rfl) (by first | exact of_decide_eq_true rfl | (simp []; done) | (simp []; omega)) (by first | (simp only [List.set_cons_zero, List.set_cons_succ]; rfl) | (simp [List.set_append]; rfl)) rfl ?_) | (refine aStore H _ _ rfl rfl rfl (by (first | exact ⟨rfl, rfl⟩ | exact ⟨by decide, rfl⟩ | (simp []; done) | (constructor <;> simp [] <;> omega))) (by first | rfl | simp [List.all_append, one_all]) rfl ?_) | (refine aLay H _ _ rfl rfl rfl (by (first | exact ⟨rfl, rfl⟩ | exact ⟨by decide, rfl⟩ | (simp []; done) | (constructor <;> simp [] <;> omega))) (by first | rfl | simp [List.all_append, one_all]) (by simp only [lay, List.take_succ_cons, List.take_zero, List.drop_succ_cons, List.drop_zero, List.nil_append, List.cons_append, List.length_cons, List.length_nil, Nat.zero_add, Nat.reduceAdd]; rfl) rfl ?_)); clear H; intro w' H; try dsimp only at H)
      | ((with_reducible refine gConv ?_); first | (refine aStr H _ rfl rfl rfl ?_)))
    refine bodyPost_ret (res_cell rfl _ H.hold rfl (TD.len _)) rfl ?_
    exact ⟨rfl, vw5, ss5, H.tail.tail.tail.tail⟩
  have e : doR t st u ⟨kd, cp, wh, a, pp, b⟩ p = (TD.nil, st, u) := by
    rw [doR, if_neg k1, if_neg k2, if_neg k3, if_neg k4, if_neg k5, if_neg k6, if_neg k7, if_neg k8, if_neg k9]
  rw [e]
  have q1 : (kd = 1) = False := eq_false k1
  have r1 : (kd == 1) = false := beq_eq_false_iff_ne.2 k1
  have q2 : (kd = 2) = False := eq_false k2
  have r2 : (kd == 2) = false := beq_eq_false_iff_ne.2 k2
  have q3 : (kd = 3) = False := eq_false k3
  have r3 : (kd == 3) = false := beq_eq_false_iff_ne.2 k3
  have q4 : (kd = 4) = False := eq_false k4
  have r4 : (kd == 4) = false := beq_eq_false_iff_ne.2 k4
  have q5 : (kd = 5) = False := eq_false k5
  have r5 : (kd == 5) = false := beq_eq_false_iff_ne.2 k5
  have q6 : (kd = 6) = False := eq_false k6
  have r6 : (kd == 6) = false := beq_eq_false_iff_ne.2 k6
  have q7 : (kd = 7) = False := eq_false k7
  have r7 : (kd == 7) = false := beq_eq_false_iff_ne.2 k7
  have q8 : (kd = 8) = False := eq_false k8
  have r8 : (kd == 8) = false := beq_eq_false_iff_ne.2 k8
  have q9 : (kd = 9) = False := eq_false k9
  have r9 : (kd == 9) = false := beq_eq_false_iff_ne.2 k9
  clear e hk hF hRD HLK hHL hFX hPUT hRT HFU HCR HFL k1 k2 k3 k4 k5 k6 k7 k8 k9
  have HXL := Lib.hid (acC_len kd cp wh a pp (.slice A b.length c))
  have HC0 := Lib.hid (show (acC kd cp wh a pp (.slice A b.length c))[0]? = some (.int .i64 kd) from rfl)
  have HC1 := Lib.hid (show (acC kd cp wh a pp (.slice A b.length c))[1]? = some (.int .i64 cp) from rfl)
  have HC3 := Lib.hid (show (acC kd cp wh a pp (.slice A b.length c))[3]? = some (.int .i64 a) from rfl)
  have HC39 := Lib.hid (acC_39 kd cp wh a pp (.slice A b.length c))
  generalize acC kd cp wh a pp (.slice A b.length c) = X at *
  have HPL := Lib.hid p.len
  generalize hbn : b.length = bn at *
  clear hbn
  go_enter Tryd.func25, Tryd.ntmps25
  go_wp2_with (first
    | ((with_reducible refine gDst 22 ?_); replace H : SH F w _ (.blk b9 56 TD.nil.cells :: .blk b8 56 TD.nil.cells :: .blk b7 33 p.cells :: .blk b6 54 X :: bankL bk bd bo bm vw ss t st u) := H; refine aLoad1 H _ rfl rfl HC0.out rfl ?_)
    | ((with_reducible refine gDst 34 ?_); refine aLoad H _ rfl rfl (part_all HQL.out) HQL.out rfl ?_)
    | ((with_reducible refine gDst 42 ?_); refine aLoad H _ rfl rfl (part_all HPL.out) HPL.out rfl ?_)
    | ((with_reducible refine gDst 55 ?_); refine aLoad H _ rfl rfl (part_all HPL.out) HPL.out rfl ?_)
    | ((with_reducible refine gDst 67 ?_); refine aLoad H _ rfl rfl (part_all HPL.out) HPL.out rfl ?_)
    | ((with_reducible refine gDst 93 ?_); refine aLoad1 H _ rfl rfl HC3.out rfl ?_)
    | ((with_reducible refine gDst 102 ?_); refine aLoad1 H _ rfl rfl HC3.out rfl ?_)
    | ((with_reducible refine gDst 95 ?_); refine aLoad1 H _ rfl rfl HC39.out rfl ?_)
    | ((with_reducible refine gDst 113 ?_); refine aLoad H _ rfl rfl (part_all (TD.len _)) (TD.len _) rfl ?_)
    | ((with_reducible refine gSto (.tmp 35) (.tmp 34) ?_); refine aLay H _ _ rfl rfl rfl ⟨by rw [TD.len]; decide, HQL.out⟩ HQO.out (TD.setP _ _) rfl ?_; clear H; intro w' H; (try dsimp only at H))
    | ((with_reducible refine gSto (.tmp 48) (.tmp 47) ?_); refine aCell H _ _ rfl rfl (rfl : _ = Value.string _) (by rfl) (by rfl) (by rw [TD.len]; decide) (TD.setB _ _) rfl ?_; clear H; intro w' H; (try dsimp only at H))
    | ((with_reducible refine gSto (.tmp 60) (.tmp 59) ?_); refine aLay H _ _ rfl rfl rfl ⟨by rw [TD.len]; decide, by rfl⟩ (by rfl) (TD.setG _ _ _) rfl ?_; clear H; intro w' H; (try dsimp only at H))
    | ((with_reducible refine gSto (.tmp 72) (.tmp 71) ?_); refine aCell H _ _ rfl rfl (rfl : _ = Value.int _ _) (by rfl) (by rfl) (by rw [TD.len]; decide) (TD.setN _ _) rfl ?_; clear H; intro w' H; (try dsimp only at H))
    | ((with_reducible refine gSto (.tmp 86) (.tmp 85) ?_); refine aCell H _ _ rfl rfl (rfl : _ = Value.int _ _) (by rfl) (by rfl) (by rw [TD.len]; decide) (TD.setN _ _) rfl ?_; clear H; intro w' H; (try dsimp only at H))
    | ((first | (with_reducible refine gSto (.tmp 37) (.tmp 36) ?_) | (with_reducible refine gSto (.tmp 50) (.tmp 49) ?_) | (with_reducible refine gSto (.tmp 62) (.tmp 61) ?_) | (with_reducible refine gSto (.tmp 74) (.tmp 73) ?_) | (with_reducible refine gSto (.tmp 88) (.tmp 87) ?_) | (with_reducible refine gSto (.tmp 97) (.tmp 96) ?_) | (with_reducible refine gSto (.tmp 112) (.tmp 111) ?_)); refine aCell H _ _ rfl rfl (rfl : _ = Value.int _ _) (by rfl) (by rfl) (by rw [TD.len]; decide) (TD.setE _ _) rfl ?_; clear H; intro w' H; (try dsimp only at H))
    | ((with_reducible refine gSto (.tmp 8) (.tmp 113) ?_); refine aStore H _ _ rfl rfl rfl ⟨TD.len _, TD.len _⟩ (TD.one _) rfl ?_; clear H; intro w' H; (try dsimp only at H))
    | ((with_reducible refine gDst 47 ?_); first | refine aStr H _ rfl rfl rfl ?_ | refine stepV (xStr _ rfl rfl (HOLD.rdOne (RR.nil _))) rfl ?_)
    | (go_at_call 18; refine (HRD.out _ (HOLD.suf (D := bankL bk bd bo bm vw ss t st u) H.hold)).mono ?_; first | (rintro e w' ⟨A9, c9, rfl, ho, hb⟩; replace H := H.pushRow hb ho; clear hb ho) | (rintro e w' ⟨rfl, hb⟩; replace H := H.step hb; clear hb))
    | (go_at_call 21; refine (HLK.out _ (HOLD.suf (D := bankL bk bd bo bm vw ss t st u) H.hold)).mono ?_; rintro e w' ⟨rfl, hb⟩; replace H := H.step hb; clear hb)
    | (go_at_call 22; refine (HHL.out _ (H.subS (D := bankL bk bd bo bm vw ss t st u))).mono ?_; rintro e w' ⟨rfl, vw5, ss5, kk⟩; replace H := H.viaS kk; (try dsimp only at H); clear kk)
    | (go_at_call 20; refine (HRT.out _ (H.subS (D := bankL bk bd bo bm vw ss t st u)) (fun w' hc => HV.out _ (H.chgS (D := bankL bk bd bo bm vw ss t st u) hc))).mono ?_; rintro e w' ⟨rfl, kk⟩; replace H := H.viaS kk; (try dsimp only at H); clear kk)
    | (go_at_call 45; refine (HFU.out _ (H.subS (D := bankL bk bd bo bm vw ss t st u))).mono ?_; rintro e w' ⟨rfl, kk⟩; replace H := H.viaS kk; (try dsimp only at H); clear kk)
    | (go_at_call 51; refine (HCR.out _ (H.subS (D := bankL bk bd bo bm vw ss t st u))).mono ?_; rintro e w' ⟨rfl, kk⟩; replace H := H.viaS kk; (try dsimp only at H); clear kk)
    | (go_at_call 19; refine (HFL.out _ (H.subS (D := bankL bk bd bo bm vw ss t st u))).mono ?_; rintro e w' ⟨rfl, vw5, ss5, kk⟩; replace H := H.viaS kk; (try dsimp only at H); clear kk)
    | ((with_reducible refine gDst 6 ?_); refine aBox H _ rfl rfl rfl ?_; clear H; intro b6 w6 H)
    | ((with_reducible refine gDst 7 ?_); refine aBox H _ rfl rfl rfl ?_; clear H; intro b7 w7 H)
    | ((with_reducible refine gDst 8 ?_); refine aAlloc H rfl rfl ?_; clear H; intro b8 w8 H)
    | ((with_reducible refine gDst 9 ?_); refine aAlloc H rfl rfl ?_; clear H; intro b9 w9 H)
    | ((with_reducible refine gDst 14 ?_); refine aAlloc H rfl rfl ?_; clear H; intro b14 w14 H)
    | ((with_reducible refine gLoad ?_); first | (refine aLoad1 H _ rfl rfl (by first | exact (rfl : _ = some (Value.int _ _)) | exact (rfl : _ = some (Value.slice _ _ _)) | exact (rfl : _ = some (Value.bool _)) | exact (rfl : _ = some (Value.string _)) | exact (rfl : _ = some (Value.pointer _)) | rfl | (simp [List.getElem?_append]; done)) rfl ?_) | (refine aLoadC _ rfl rfl (by assumption) rfl ?_) | (refine aLoad H _ rfl rfl (by first | exact part_all (by first | rfl | simp []) | (simp only [List.drop_succ_cons, List.drop_zero, List.take_succ_cons, List.take_zero]; rfl) | (simp [List.drop_append, List.take_append]; rfl)) (by first | rfl | simp []) rfl ?_))
    | ((with_reducible refine gBuild ?_); refine aZero rfl rfl ?_)
    | ((with_reducible refine gStore ?_); (first | (refine aCell H _ _ rfl rfl (by first | exact (rfl : _ = Value.int _ _) | exact (rfl : _ = Value.bool _) | exact (rfl : _ = Value.slice _ _ _) | exact (rfl : _ = Value.string _) | exact (rfl : _ = Value.pointer _) | exact (rfl : _ = Value.func _ _ _) | rfl) (by rfl) (by rfl) (by first | exact of_decide_eq_true rfl | (simp []; done) | (simp []; omega)) (by first | (simp only [List.set_cons_zero, List.set_cons_succ]; rfl) | (simp [List.set_append]; rfl)) rfl ?_) | (refine aStore H _ _ rfl rfl rfl (by (first | exact ⟨rfl, rfl⟩ | exact ⟨by decide, rfl⟩ | (simp []; done) | (constructor <;> simp [] <;> omega))) (by first | rfl | simp [List.all_append, one_all]) rfl ?_) | (refine aLay H _ _ rfl rfl rfl (by (first | exact ⟨rfl, rfl⟩ | exact ⟨by decide, rfl⟩ | (simp []; done) | (constructor <;> simp [] <;> omega))) (by first | rfl | simp [List.all_append, one_all]) (by simp only [lay, List.take_succ_cons, List.take_zero, List.drop_succ_cons, List.drop_zero, List.nil_append, List.cons_append, List.length_cons, List.length_nil, Nat.zero_add, Nat.reduceAdd]; rfl) rfl ?_)); clear H; intro w' H; try dsimp only at H)
    | ((with_reducible refine gConv ?_); first | (refine aStr H _ rfl rfl rfl ?_)))
  refine bodyPost_ret (res_cell rfl _ H.hold rfl (TD.len _)) rfl ?_
  exact ⟨rfl, vw, ss, H.tail.tail.tail.tail⟩
end
end Go.Proofs.YticfcelbnkiopaaDoor
