/- Ground of the statements BankHealed, BankNever, part 7: BkF, RowKit, RowPtr, RowGen, RowBB, RowTab, Dk16, BkG, BkH. -/
import Derived.WalkKit
import Derived.ProofKit
import Derived.OpenShut
import Derived.ShutString
import Derived.ChangeOld
import Derived.Below
import Derived.SizedLaws
import Derived.ChangeSlices
import Derived.Test.YticfcelbnkiopaaDoorRows
import Derived.MakeChecks
import Derived.Test.YticfcelbnkiopaaDoorBBC6
namespace Go.Proofs.YticfcelbnkiopaaDoor
set_option maxRecDepth 100000
open Go.RowKit
set_option linter.unusedSimpArgs false
set_option linter.unusedVariables false

section
variable {bk bd bo bm : Nat} {vw : Value} {ss : List SVV} {t : UInt32} {st : DS} {u : List Bool}
theorem bFlush_any (hk : BKok st u) (w : World) (hD : SH (feet (bankL bk bd bo bm vw ss t st u)) w w (bankL bk bd bo bm vw ss t st u)) :
    Calls Tryd.prog 19 #[.pointer (some ⟨bd, 0, none⟩)] w fun e w' => e = .returned (.int .i64 st.flushE.1) ∧ ∃ vw' ss', SH (feet (bankL bk bd bo bm vw ss t st u)) w w' (bankL bk bd bo bm vw' ss' t st.flushE.2 u) := by
  refine (diskFlush_any bd bo u.length vw ss st hk.d hk.lets w (hD.subS (D := diskL bd bo vw ss st))).mono ?_
  rintro e w' ⟨rfl, vw', ss', k⟩
  exact ⟨rfl, vw', ss', hD.viaS (D := diskL bd bo vw ss st) k⟩
theorem bRot_any (i : Int) (vm : Value) (mask : List UInt8) (hk : BKok st u) (w : World) (hD : SH (feet (bankL bk bd bo bm vw ss t st u)) w w (bankL bk bd bo bm vw ss t st u)) (hv : ∀ w', Chg (feet (bankL bk bd bo bm vw ss t st u)) w w' → RB w' vm mask) :
    Calls Tryd.prog 20 #[.pointer (some ⟨bd, 0, none⟩), .int .i64 i, vm] w fun e w' => e = .returned (.int .i64 (st.rotE u.length i mask).1) ∧ SH (feet (bankL bk bd bo bm vw ss t st u)) w w' (bankL bk bd bo bm vw ss t (st.rotE u.length i mask).2 u) := by
  refine (diskRot_any bd bo u.length i vw vm ss st mask hk.d w (hD.subS (D := diskL bd bo vw ss st)) fun w' hc => hv w' (hD.chgS (D := diskL bd bo vw ss st) hc)).mono ?_
  rintro e w' ⟨rfl, k⟩
  exact ⟨rfl, hD.viaS (D := diskL bd bo vw ss st) k⟩
theorem bFuse_any (f : Int) (w : World) (hD : SH (feet (bankL bk bd bo bm vw ss t st u)) w w (bankL bk bd bo bm vw ss t st u)) :
    Calls Tryd.prog 45 #[.pointer (some ⟨bd, 0, none⟩), .int .i64 f] w fun e w' => e = .returned (.tuple #[]) ∧ SH (feet (bankL bk bd bo bm vw ss t st u)) w w' (bankL bk bd bo bm vw ss t (st.fuse f) u) := by
  refine (diskFuse_any bd bo f vw ss st w (hD.subS (D := diskL bd bo vw ss st))).mono ?_
  rintro e w' ⟨rfl, k⟩
  exact ⟨rfl, hD.viaS (D := diskL bd bo vw ss st) k⟩
theorem Calm.bank (h : Calm st u.length) (hl : ∀ j, j < 4 → u.getD j false = true) : BKok st u := ⟨h.ok, by rw [h.lets]; exact ⟨by decide, by decide⟩, hl⟩
theorem Calm.flush {n : Nat} (h : Calm st n) : st.spend.2.flush = st.flush ∧ st.spend.1 = true ∧ Calm st.flush n := by
  have hs : st.spend = (true, st) := by rw [DS.spend, h.lets, if_neg (by decide), if_neg (by decide)]
  rw [hs]
  exact ⟨rfl, rfl, DS.ok_flush h.ok, h.off, h.lets⟩
theorem Calm.rot {n : Nat} (h : Calm st n) (i : Nat) (m : List UInt8) : Calm (st.rot i m) n := ⟨DS.ok_rot h.ok i m, h.off, h.lets⟩
end
/-- How many copies of the first i are not right. -/
def wantN (g0 g1 : Bool) (i : Nat) : Nat := (if decide (0 < i) && !g0 then 1 else 0) + (if decide (1 < i) && !g1 then 1 else 0)
set_option maxHeartbeats 6400000 in
theorem BankHealed_any (vb v1 v2 vo : Value) (b m1 m2 o : List UInt8) (w : World) (hb : RB w vb b) (h1 : RB w v1 m1) (h2 : RB w v2 m2) (ho : RB w vo o) (hT : TabAt w) :
    Calls Tryd.prog 4 #[vb, .agg #[v1, v2], vo] w fun e w' => e = .returned (.bool true) ∧ Below w.heap.size w w' := by
  have H := SH.start Nil w
  obtain ⟨A0, c0, rfl, -⟩ := hb.len
  obtain ⟨A1, c1, rfl, -⟩ := h1.len
  obtain ⟨A2, c2, rfl, -⟩ := h2.len
  obtain ⟨A3, c3, rfl, -⟩ := ho.len
  have HT := Lib.hid (fun W (h : Below w.heap.size w W) => hT.below h)
  have HFR := Lib.hid (fun W => fresh08_any 32 (by decide) (by decide) W)
  change Hid (∀ W, Calls Tryd.prog 14 #[.int .i64 32] W _) at HFR
  have HB := Lib.hid hb
  have HM1 := Lib.hid h1
  have HM2 := Lib.hid h2
  have HO := Lib.hid ho
  clear hb h1 h2 ho hT
  by_cases hbl : (256 : Int) < (b.length : Int)
  · skip
    generalize b.length = bn at *
    clear HB HM1 HM2 HO
    generalize m1.length = mn1 at *
    generalize m2.length = mn2 at *
    generalize o.length = on at *
    go_enter Tryd.func4, Tryd.ntmps4
    go_wp2_with (first
      | (go_at_call 14; refine (HFR.out _).mono ?_; rintro e w' ⟨bk, bd, bo, bm, rfl, H1⟩; replace H1 := (H.join H1).perm List.perm_append_comm; (try dsimp only [List.cons_append, List.nil_append] at H1); clear H; have H := H1; clear H1)
      | (go_at_call 15; refine (alive08_any _ (HT.out _ H.below)).mono ?_; rintro e w' ⟨rfl, hb⟩; replace H := H.step hb; clear hb)
      | ((with_reducible refine gDst 4 ?_); refine aBox H _ rfl rfl rfl ?_; clear H; intro b4 w4 H)
      | ((with_reducible refine gDst 9 ?_); refine aAlloc H rfl rfl ?_; clear H; intro b9 w9 H)
      | ((with_reducible refine gDst 12 ?_); refine aAlloc H rfl rfl ?_; clear H; intro b12 w12 H)
      | ((with_reducible refine gDst 22 ?_); refine aAlloc H rfl rfl ?_; clear H; intro b22 w22 H)
      | ((with_reducible refine gLoad ?_); first | (refine aLoad1 H _ rfl rfl (by first | exact (rfl : _ = some (Value.int _ _)) | exact (rfl : _ = some (Value.slice _ _ _)) | exact (rfl : _ = some (Value.bool _)) | exact (rfl : _ = some (Value.string _)) | exact (rfl : _ = some (Value.pointer _)) | rfl | (simp [List.getElem?_append]; done)) rfl ?_) | (refine aLoadC _ rfl rfl (by assumption) rfl ?_) | (refine aLoad H _ rfl rfl (by first | exact part_all (by first | rfl | simp []) | (simp only [List.drop_succ_cons, List.drop_zero, List.take_succ_cons, List.take_zero]; rfl) | (simp [List.drop_append, List.take_append]; rfl)) (by first | rfl | simp []) rfl ?_))
      | ((with_reducible refine gStore ?_); (first | (refine aStore H _ _ rfl rfl rfl (by (first | exact ⟨rfl, rfl⟩ | exact ⟨by decide, rfl⟩ | (simp []; done) | (constructor <;> simp [] <;> omega))) (by first | rfl | simp [List.all_append, one_all]) rfl ?_) | (refine aLay H _ _ rfl rfl rfl (by (first | exact ⟨rfl, rfl⟩ | exact ⟨by decide, rfl⟩ | (simp []; done) | (constructor <;> simp [] <;> omega))) (by first | rfl | simp [List.all_append, one_all]) (by simp only [lay, List.take_succ_cons, List.take_zero, List.drop_succ_cons, List.drop_zero, List.nil_append, List.cons_append, List.length_cons, List.length_nil, Nat.zero_add, Nat.reduceAdd]; rfl) rfl ?_)); clear H; intro w' H; try dsimp only at H))
    go_ret
    exact ⟨rfl, H.below⟩
  · have hbl' : ((256 : Int) < (b.length : Int)) = False := eq_false hbl
    by_cases hol : (256 : Int) < (o.length : Int)
    · clear hbl
      generalize b.length = bn at *
      clear HB HM1 HM2 HO
      generalize m1.length = mn1 at *
      generalize m2.length = mn2 at *
      generalize o.length = on at *
      go_enter Tryd.func4, Tryd.ntmps4
      go_wp2_with (first
        | (go_at_call 14; refine (HFR.out _).mono ?_; rintro e w' ⟨bk, bd, bo, bm, rfl, H1⟩; replace H1 := (H.join H1).perm List.perm_append_comm; (try dsimp only [List.cons_append, List.nil_append] at H1); clear H; have H := H1; clear H1)
        | (go_at_call 15; refine (alive08_any _ (HT.out _ H.below)).mono ?_; rintro e w' ⟨rfl, hb⟩; replace H := H.step hb; clear hb)
        | ((with_reducible refine gDst 4 ?_); refine aBox H _ rfl rfl rfl ?_; clear H; intro b4 w4 H)
        | ((with_reducible refine gDst 9 ?_); refine aAlloc H rfl rfl ?_; clear H; intro b9 w9 H)
        | ((with_reducible refine gDst 12 ?_); refine aAlloc H rfl rfl ?_; clear H; intro b12 w12 H)
        | ((with_reducible refine gDst 22 ?_); refine aAlloc H rfl rfl ?_; clear H; intro b22 w22 H)
        | ((with_reducible refine gLoad ?_); first | (refine aLoad1 H _ rfl rfl (by first | exact (rfl : _ = some (Value.int _ _)) | exact (rfl : _ = some (Value.slice _ _ _)) | exact (rfl : _ = some (Value.bool _)) | exact (rfl : _ = some (Value.string _)) | exact (rfl : _ = some (Value.pointer _)) | rfl | (simp [List.getElem?_append]; done)) rfl ?_) | (refine aLoadC _ rfl rfl (by assumption) rfl ?_) | (refine aLoad H _ rfl rfl (by first | exact part_all (by first | rfl | simp []) | (simp only [List.drop_succ_cons, List.drop_zero, List.take_succ_cons, List.take_zero]; rfl) | (simp [List.drop_append, List.take_append]; rfl)) (by first | rfl | simp []) rfl ?_))
        | ((with_reducible refine gStore ?_); (first | (refine aStore H _ _ rfl rfl rfl (by (first | exact ⟨rfl, rfl⟩ | exact ⟨by decide, rfl⟩ | (simp []; done) | (constructor <;> simp [] <;> omega))) (by first | rfl | simp [List.all_append, one_all]) rfl ?_) | (refine aLay H _ _ rfl rfl rfl (by (first | exact ⟨rfl, rfl⟩ | exact ⟨by decide, rfl⟩ | (simp []; done) | (constructor <;> simp [] <;> omega))) (by first | rfl | simp [List.all_append, one_all]) (by simp only [lay, List.take_succ_cons, List.take_zero, List.drop_succ_cons, List.drop_zero, List.nil_append, List.cons_append, List.length_cons, List.length_nil, Nat.zero_add, Nat.reduceAdd]; rfl) rfl ?_)); clear H; intro w' H; try dsimp only at H))
      go_ret
      exact ⟨rfl, H.below⟩
    · have hol' : ((256 : Int) < (o.length : Int)) = False := eq_false hol
      by_cases hm1 : (256 : Int) < (m1.length : Int)
      · clear hbl hol
        generalize b.length = bn at *
        clear HB HM1 HM2 HO
        generalize m1.length = mn1 at *
        generalize m2.length = mn2 at *
        generalize o.length = on at *
        go_enter Tryd.func4, Tryd.ntmps4
        go_wp2_with (first
          | (go_at_call 14; refine (HFR.out _).mono ?_; rintro e w' ⟨bk, bd, bo, bm, rfl, H1⟩; replace H1 := (H.join H1).perm List.perm_append_comm; (try dsimp only [List.cons_append, List.nil_append] at H1); clear H; have H := H1; clear H1)
          | (go_at_call 15; refine (alive08_any _ (HT.out _ H.below)).mono ?_; rintro e w' ⟨rfl, hb⟩; replace H := H.step hb; clear hb)
          | ((with_reducible refine gDst 4 ?_); refine aBox H _ rfl rfl rfl ?_; clear H; intro b4 w4 H)
          | ((with_reducible refine gDst 9 ?_); refine aAlloc H rfl rfl ?_; clear H; intro b9 w9 H)
          | ((with_reducible refine gDst 12 ?_); refine aAlloc H rfl rfl ?_; clear H; intro b12 w12 H)
          | ((with_reducible refine gDst 22 ?_); refine aAlloc H rfl rfl ?_; clear H; intro b22 w22 H)
          | ((with_reducible refine gLoad ?_); first | (refine aLoad1 H _ rfl rfl (by first | exact (rfl : _ = some (Value.int _ _)) | exact (rfl : _ = some (Value.slice _ _ _)) | exact (rfl : _ = some (Value.bool _)) | exact (rfl : _ = some (Value.string _)) | exact (rfl : _ = some (Value.pointer _)) | rfl | (simp [List.getElem?_append]; done)) rfl ?_) | (refine aLoadC _ rfl rfl (by assumption) rfl ?_) | (refine aLoad H _ rfl rfl (by first | exact part_all (by first | rfl | simp []) | (simp only [List.drop_succ_cons, List.drop_zero, List.take_succ_cons, List.take_zero]; rfl) | (simp [List.drop_append, List.take_append]; rfl)) (by first | rfl | simp []) rfl ?_))
          | ((with_reducible refine gStore ?_); (first | (refine aStore H _ _ rfl rfl rfl (by (first | exact ⟨rfl, rfl⟩ | exact ⟨by decide, rfl⟩ | (simp []; done) | (constructor <;> simp [] <;> omega))) (by first | rfl | simp [List.all_append, one_all]) rfl ?_) | (refine aLay H _ _ rfl rfl rfl (by (first | exact ⟨rfl, rfl⟩ | exact ⟨by decide, rfl⟩ | (simp []; done) | (constructor <;> simp [] <;> omega))) (by first | rfl | simp [List.all_append, one_all]) (by simp only [lay, List.take_succ_cons, List.take_zero, List.drop_succ_cons, List.drop_zero, List.nil_append, List.cons_append, List.length_cons, List.length_nil, Nat.zero_add, Nat.reduceAdd]; rfl) rfl ?_)); clear H; intro w' H; try dsimp only at H))
        go_ret
        exact ⟨rfl, H.below⟩
      · have hm1' : ((256 : Int) < (m1.length : Int)) = False := eq_false hm1
        by_cases hm2 : (256 : Int) < (m2.length : Int)
        · clear hbl hol hm1
          generalize b.length = bn at *
          clear HB HM1 HM2 HO
          generalize m1.length = mn1 at *
          generalize m2.length = mn2 at *
          generalize o.length = on at *
          go_enter Tryd.func4, Tryd.ntmps4
          go_wp2_with (first
            | (go_at_call 14; refine (HFR.out _).mono ?_; rintro e w' ⟨bk, bd, bo, bm, rfl, H1⟩; replace H1 := (H.join H1).perm List.perm_append_comm; (try dsimp only [List.cons_append, List.nil_append] at H1); clear H; have H := H1; clear H1)
            | (go_at_call 15; refine (alive08_any _ (HT.out _ H.below)).mono ?_; rintro e w' ⟨rfl, hb⟩; replace H := H.step hb; clear hb)
            | ((with_reducible refine gDst 4 ?_); refine aBox H _ rfl rfl rfl ?_; clear H; intro b4 w4 H)
            | ((with_reducible refine gDst 9 ?_); refine aAlloc H rfl rfl ?_; clear H; intro b9 w9 H)
            | ((with_reducible refine gDst 12 ?_); refine aAlloc H rfl rfl ?_; clear H; intro b12 w12 H)
            | ((with_reducible refine gDst 22 ?_); refine aAlloc H rfl rfl ?_; clear H; intro b22 w22 H)
            | ((with_reducible refine gLoad ?_); first | (refine aLoad1 H _ rfl rfl (by first | exact (rfl : _ = some (Value.int _ _)) | exact (rfl : _ = some (Value.slice _ _ _)) | exact (rfl : _ = some (Value.bool _)) | exact (rfl : _ = some (Value.string _)) | exact (rfl : _ = some (Value.pointer _)) | rfl | (simp [List.getElem?_append]; done)) rfl ?_) | (refine aLoadC _ rfl rfl (by assumption) rfl ?_) | (refine aLoad H _ rfl rfl (by first | exact part_all (by first | rfl | simp []) | (simp only [List.drop_succ_cons, List.drop_zero, List.take_succ_cons, List.take_zero]; rfl) | (simp [List.drop_append, List.take_append]; rfl)) (by first | rfl | simp []) rfl ?_))
            | ((with_reducible refine gStore ?_); (first | (refine aStore H _ _ rfl rfl rfl (by (first | exact ⟨rfl, rfl⟩ | exact ⟨by decide, rfl⟩ | (simp []; done) | (constructor <;> simp [] <;> omega))) (by first | rfl | simp [List.all_append, one_all]) rfl ?_) | (refine aLay H _ _ rfl rfl rfl (by (first | exact ⟨rfl, rfl⟩ | exact ⟨by decide, rfl⟩ | (simp []; done) | (constructor <;> simp [] <;> omega))) (by first | rfl | simp [List.all_append, one_all]) (by simp only [lay, List.take_succ_cons, List.take_zero, List.drop_succ_cons, List.drop_zero, List.nil_append, List.cons_append, List.length_cons, List.length_nil, Nat.zero_add, Nat.reduceAdd]; rfl) rfl ?_)); clear H; intro w' H; try dsimp only at H))
          go_ret
          exact ⟨rfl, H.below⟩
        · have hm2' : ((256 : Int) < (m2.length : Int)) = False := eq_false hm2
          have hB : b.length ≤ 256 := by omega
          have hO : o.length ≤ 256 := by omega
          have hM1 : m1.length ≤ 256 := by omega
          have hM2 : m2.length ≤ 256 := by omega
          obtain ⟨Wb, hWb⟩ : ∃ x, x = wholeL b := ⟨_, rfl⟩
          have hWl : Wb.length = 256 := by rw [hWb, wholeL, List.length_append, List.length_replicate]; omega
          obtain ⟨Wo, hWo⟩ : ∃ x, x = wholeL o := ⟨_, rfl⟩
          have hWol : Wo.length = 256 := by rw [hWo, wholeL, List.length_append, List.length_replicate]; omega
          have hpf := putF 32 2 (.inr rfl) (fun _ => Wb) (fun _ => hWl) 0 (by decide)
          have hp2 : TwoP (pF 2 (fun _ => Wb) 0) 32 := by
            refine ⟨by show (4 : UInt32) ≠ 0; decide, by show (5 : UInt32) ≠ 0; decide, by show (4 : UInt32).toNat ≠ (5 : UInt32).toNat; decide, by show (4 : UInt32).toNat < 32; decide, by show (5 : UInt32).toNat < 32; decide⟩
          have hcalm : Calm (dF 32 2 (fun _ => Wb) 2) 32 := by
            refine ⟨⟨by decide, by decide, List.length_replicate, fun k hk => ?_, ?_⟩, rfl, rfl⟩
            · have hk2 : k < 2 := by rw [dF] at hk; simpa using hk
              rcases k with _ | _ | k
              · exact ⟨by show 4 < 32; decide, hWl⟩
              · exact ⟨by show 5 < 32; decide, hWl⟩
              · omega
            · show (List.map _ (List.range 2)).length ≤ _; simp
          obtain ⟨p, hp⟩ : ∃ x, x = pF 2 (fun _ => Wb) 0 := ⟨_, rfl⟩
          have hph : shaL Wb = p.hash := by rw [hp]; rfl
          rw [← hp] at hp2
          obtain ⟨s1, hs1⟩ : ∃ x, x = dF 32 2 (fun _ => Wb) 2 := ⟨_, rfl⟩
          rw [← hs1] at hcalm
          obtain ⟨-, -, hc2⟩ := hcalm.flush
          have hc3 := hc2.rot 4 m1
          have hc4 := hc3.rot 5 m2
          obtain ⟨s4, hs4⟩ : ∃ x, x = (s1.flush.rot 4 m1).rot 5 m2 := ⟨_, rfl⟩
          rw [← hs4] at hc4
          have hl4 : s4.ws.length = 0 := by rw [hs4]; rfl
          obtain ⟨s5, hn, hE, q1, q2, q3, q4, q5⟩ : ∃ (s5 : DS) (hn : Nat) (hE : Int), healR 32 s4 p = (hn, hE, s5) ∧ Calm s5 32 ∧ s5.ws.length ≤ 2 ∧ (hE = 0 ↔ (cpB s4 32 p 0 || cpB s4 32 p 1) = true) ∧ (hE = 0 → hn = (if cpB s4 32 p 0 = true then 0 else 1) + (if cpB s4 32 p 1 = true then 0 else 1)) := by
            cases hg : (cpB s4 32 p 0 || cpB s4 32 p 1) with
            | true =>
              obtain ⟨s5, e, c, l, -, -⟩ := hp2.heal hc4 (by omega) hg
              exact ⟨s5, _, _, e, c, by omega, by simp, fun _ => rfl⟩
            | false => exact ⟨s4, _, _, hp2.noHeal hc4 hg, hc4, by omega, by simp, fun h => absurd h (by decide)⟩
          obtain ⟨s6, fn, fE, r1, r2, r3, r4⟩ : ∃ (s6 : DS) (fn : Nat) (fE : Int), fixR 32 s5 p Wo = (fn, fE, s6) ∧ Calm s6 32 ∧ s6.ws.length ≤ 4 ∧ (fE = 0 ↔ shaL Wo = p.hash) := by
            by_cases hs : shaL Wo = p.hash
            · obtain ⟨s6, e, c, l, -, -⟩ := hp2.fix q2 (by omega) Wo hWol hs
              exact ⟨s6, _, _, e, c, by omega, by simp [hs]⟩
            · exact ⟨s5, _, _, hp2.noFix q2 Wo hWol hs, q2, by omega, by simp [hs]⟩
          obtain ⟨s7, jn, e7, c7, l7, z0, z1⟩ : ∃ (s7 : DS) (jn : Nat), fixR 32 s6 p Wb = (jn, 0, s7) ∧ Calm s7 32 ∧ s7.ws.length ≤ s6.ws.length + 2 ∧ cpB s7 32 p 0 = true ∧ cpB s7 32 p 1 = true := by
            obtain ⟨s7, e7, c7, l7, z0, z1⟩ := hp2.fix r2 (by omega) Wb hWl hph
            exact ⟨s7, _, e7, c7, l7, z0, z1⟩
          have hu : (uN 32 6).length = 32 := uN_len 32 6 (by decide)
          have hlab : ∀ j, j < 4 → (uN 32 6).getD j false = true := fun j hj => by rw [uN_get _ _ _ (by decide)]; exact decide_eq_true (by omega)
          have k1 : BKok s1 (uN 32 6) := Calm.bank (by rw [hu]; exact hcalm) hlab
          have k2 : BKok s1.flush (uN 32 6) := Calm.bank (by rw [hu]; exact hc2) hlab
          have k3 : BKok (s1.flush.rot 4 m1) (uN 32 6) := Calm.bank (by rw [hu]; exact hc3) hlab
          have k4 : BKok s4 (uN 32 6) := Calm.bank (by rw [hu]; exact hc4) hlab
          have k5 : BKok s5 (uN 32 6) := Calm.bank (by rw [hu]; exact q2) hlab
          have k6 : BKok s6 (uN 32 6) := Calm.bank (by rw [hu]; exact r2) hlab
          have k7 : BKok s7 (uN 32 6) := Calm.bank (by rw [hu]; exact c7) hlab
          have hput := fun bk bd bo bm vw ss vb W y1 y2 y3 => bPut_any (bk := bk) (bd := bd) (bo := bo) (bm := bm) (vw := vw) (ss := ss) (t := 7) vb Wb 2 (okF 32 2 (fun _ => Wb) (fun _ => hWl) 0 (by decide) (by decide) (by decide)) (by show 0 + 2 ≤ 1000000; decide) (by decide) W y1 y2 y3
          have hfl := fun bk bd bo bm vw ss W y => bFlush_ok (bk := bk) (bd := bd) (bo := bo) (bm := bm) (vw := vw) (ss := ss) (t := 7) k1 hcalm.off hcalm.flush.2.1 W y
          rw [hcalm.flush.1] at hfl
          have hr1 := fun bk bd bo bm vw ss vm W y y2 => bRot_ok (bk := bk) (bd := bd) (bo := bo) (bm := bm) (vw := vw) (ss := ss) (t := 7) 4 vm m1 k2 (by rw [hu]; decide) hM1 W y y2
          have hr2 := fun bk bd bo bm vw ss vm W y y2 => bRot_ok (bk := bk) (bd := bd) (bo := bo) (bm := bm) (vw := vw) (ss := ss) (t := 7) 5 vm m2 k3 (by rw [hu]; decide) hM2 W y y2
          rw [← hs4] at hr2
          have hlk := fun bk bd bo bm vw ss W y => bLook_any (bk := bk) (bd := bd) (bo := bo) (bm := bm) (vw := vw) (ss := ss) (t := 7) p k4 W y
          have hhl := fun bk bd bo bm vw ss W y => bHeal_any (bk := bk) (bd := bd) (bo := bo) (bm := bm) (vw := vw) (ss := ss) (t := 7) p k4 (by omega) W y
          have hf1 := fun bk bd bo bm vw ss vb W y y2 => bFix_any (bk := bk) (bd := bd) (bo := bo) (bm := bm) (vw := vw) (ss := ss) (t := 7) p Wo vb k5 (by omega) W y y2
          have hf2 := fun bk bd bo bm vw ss vb W y y2 => bFix_any (bk := bk) (bd := bd) (bo := bo) (bm := bm) (vw := vw) (ss := ss) (t := 7) p Wb vb k6 (by omega) W y y2
          have hl2 := fun bk bd bo bm vw ss W y => bLook_any (bk := bk) (bd := bd) (bo := bo) (bm := bm) (vw := vw) (ss := ss) (t := 7) p k7 W y
          rw [hu] at hlk hhl hf1 hf2 hl2
          rw [q1] at hhl
          rw [r1] at hf1
          rw [e7] at hf2
          have hwb := fun v W (h : RB W v b) => whole_any v b W h (by omega)
          have hwo := fun v W (h : RB W v o) => whole_any v o W h (by omega)
          rw [← hWb, hWl] at hwb
          rw [← hWo, hWol] at hwo
          have hfix1 : (fE = 0 ↔ shaL Wo = p.hash) := r4
          have hput2 : putR 7 (dF 32 2 (fun _ => Wb) 0) (uN 32 (4 + 0)) Wb 2 = (p, 0, s1, uN 32 6) := by rw [hp, hs1]; exact hpf
          rw [hput2, show dF 32 2 (fun _ => Wb) 0 = freshD 32 from rfl] at hput
          have hfr0 : freshU 32 = uN 32 (4 + 0) := uN_fresh 32 (by decide)
          rw [hfr0] at HFR
          have ha33 : p.cells[33]? = some (.int .u32 4) := by
            have := p.c33
            rw [List.getElem?_toArray] at this
            rw [this, hp]; rfl
          have ha34 : p.cells[34]? = some (.int .u32 5) := by
            have := p.c34
            rw [List.getElem?_toArray] at this
            rw [this, hp]; rfl
          obtain ⟨g0, hg0⟩ : ∃ x, x = cpB s4 32 p 0 := ⟨_, rfl⟩
          obtain ⟨g1, hg1⟩ : ∃ x, x = cpB s4 32 p 1 := ⟨_, rfl⟩
          have hck4 := hp2.ck hc4
          have hck7 := hp2.ck c7
          rw [show lkG s4 32 p 0 = g0 by rw [lkG, hck4, if_pos rfl, hg0], show lkG s4 32 p 1 = g1 by rw [lkG, hck4, if_pos rfl, hg1], hck4] at hlk
          rw [show lkG s7 32 p 0 = true by rw [lkG, hck7, if_pos rfl, z0], show lkG s7 32 p 1 = true by rw [lkG, hck7, if_pos rfl, z1], hck7] at hl2
          rw [← hg0, ← hg1] at q4 q5
          have hsum := fun v W (h : RB W v Wo) => Sum_any v Wo W h (by rw [hWol]; decide)
          have heq := fun W => bh32_eql (shaL Wo) p.hash (shaL_len _) p.hl W
          have htt := fun W => b2_eql true true true true W
          have hdr : (p.cells.drop 0).take 32 = p.hash.map cb := by
            rw [List.drop_zero, PT.cells, List.take_left' (by rw [List.length_map]; exact p.hl)]
          have HDR := Lib.hid hdr
          have HHL2 := Lib.hid (show (p.hash.map cb).length = 32 by rw [List.length_map]; exact p.hl)
          have HSUM := Lib.hid hsum
          have HEQ := Lib.hid heq
          have HTT := Lib.hid htt
          have HWB := Lib.hid hwb
          have HWO := Lib.hid hwo
          have HPUT := Lib.hid hput
          have HFL := Lib.hid hfl
          have HR1 := Lib.hid hr1
          have HR2 := Lib.hid hr2
          have HLK := Lib.hid hlk
          have HHL := Lib.hid hhl
          have HF1 := Lib.hid hf1
          have HF2 := Lib.hid hf2
          have HL2 := Lib.hid hl2
          have HA33 := Lib.hid ha33
          have HA34 := Lib.hid ha34
          have HPL := Lib.hid p.len
          have HPO := Lib.hid (List.all_eq_true.2 p.one)
          have HQ4 := Lib.hid q4
          have HQ5 := Lib.hid q5
          have HFX := Lib.hid hfix1
          have HPH := Lib.hid hph
          clear hck4 hck7 hg0 hg1 hsum heq htt hdr z0 z1 hbl hol hm1 hm2 hwb hwo hput hfl hr1 hr2 hlk hhl hf1 hf2 hl2 ha33 ha34 q4 q5 hfix1 hph k1 k2 k3 k4 k5 k6 k7 hput2 hfr0 hpf hp2 hcalm hc2 hc3 hc4 hl4 q1 q2 q3 r1 r2 r3 r4 e7 c7 l7 hu hlab hp hs4 hs1 hWl hWol hWb hWo hB hO hM1 hM2
          generalize b.length = bn at *
          generalize m1.length = mn1 at *
          generalize m2.length = mn2 at *
          generalize o.length = on at *
          go_enter Tryd.func4, Tryd.ntmps4
          go_wp2_with (first
            | (go_at_call 14; refine (HFR.out _).mono ?_; rintro e w' ⟨bk, bd, bo, bm, rfl, H1⟩; replace H1 := (H.join H1).perm List.perm_append_comm; (try dsimp only [List.cons_append, List.nil_append] at H1); clear H; have H := H1; clear H1)
            | (go_at_call 15; refine (alive08_any _ (HT.out _ H.below)).mono ?_; rintro e w' ⟨rfl, hb⟩; replace H := H.step hb; clear hb)
            | ((with_reducible refine gDst 4 ?_); refine aBox H _ rfl rfl rfl ?_; clear H; intro b4 w4 H)
            | ((with_reducible refine gDst 9 ?_); refine aAlloc H rfl rfl ?_; clear H; intro b9 w9 H)
            | ((with_reducible refine gDst 12 ?_); refine aAlloc H rfl rfl ?_; clear H; intro b12 w12 H)
            | ((with_reducible refine gDst 22 ?_); refine aAlloc H rfl rfl ?_; clear H; intro b22 w22 H)
            | ((with_reducible refine gLoad ?_); first | (refine aLoad1 H _ rfl rfl (by first | exact (rfl : _ = some (Value.int _ _)) | exact (rfl : _ = some (Value.slice _ _ _)) | exact (rfl : _ = some (Value.bool _)) | exact (rfl : _ = some (Value.string _)) | exact (rfl : _ = some (Value.pointer _)) | rfl | (simp [List.getElem?_append]; done)) rfl ?_) | (refine aLoadC _ rfl rfl (by assumption) rfl ?_) | (refine aLoad H _ rfl rfl (by first | exact part_all (by first | rfl | simp []) | (simp only [List.drop_succ_cons, List.drop_zero, List.take_succ_cons, List.take_zero]; rfl) | (simp [List.drop_append, List.take_append]; rfl)) (by first | rfl | simp []) rfl ?_))
            | ((with_reducible refine gStore ?_); (first | (refine aStore H _ _ rfl rfl rfl (by (first | exact ⟨rfl, rfl⟩ | exact ⟨by decide, rfl⟩ | (simp []; done) | (constructor <;> simp [] <;> omega))) (by first | rfl | simp [List.all_append, one_all]) rfl ?_) | (refine aLay H _ _ rfl rfl rfl (by (first | exact ⟨rfl, rfl⟩ | exact ⟨by decide, rfl⟩ | (simp []; done) | (constructor <;> simp [] <;> omega))) (by first | rfl | simp [List.all_append, one_all]) (by simp only [lay, List.take_succ_cons, List.take_zero, List.drop_succ_cons, List.drop_zero, List.nil_append, List.cons_append, List.length_cons, List.length_nil, Nat.zero_add, Nat.reduceAdd]; rfl) rfl ?_)); clear H; intro w' H; try dsimp only at H))
          go_wp2_with (first
            | (go_at_call 17; refine (HWB.out _ _ (HB.out.below H.below)).mono ?_; rintro e w' ⟨A54, c54, rfl, hoo, hb⟩; replace H := H.pushRow hb hoo; clear hb hoo)
            | (go_at_call 16; have q := HPUT.out bk bd bo bm (.slice none 0 0) [] (.slice A54 256 c54) _ (H.subS (D := bankL bk bd bo bm (.slice none 0 0) [] 7 (freshD 32) (uN 32 (4 + 0)))) (fun w' hc => HT.out _ (H.chgS (D := bankL bk bd bo bm (.slice none 0 0) [] 7 (freshD 32) (uN 32 (4 + 0))) hc).below) (fun w' hc => OR.reads (H.keepHd (D := bankL bk bd bo bm (.slice none 0 0) [] 7 (freshD 32) (uN 32 (4 + 0))) hc)); refine q.mono ?_; clear q; rintro e w' ⟨rfl, vw1, ss1, kk⟩; replace H := H.viaS kk; (try dsimp only at H); clear kk)
            | ((with_reducible refine gSto (.tmp 9) (.tmp 56) ?_); refine aStore H _ _ rfl rfl rfl ⟨by rfl, HPL.out⟩ HPO.out rfl ?_; clear H; intro w' H; (try dsimp only at H))
            | (go_at_call 19; refine (HFL.out bk bd bo bm vw1 ss1 _ (H.subS (D := bankL bk bd bo bm vw1 ss1 7 s1 (uN 32 6)))).mono ?_; rintro e w' ⟨rfl, kk⟩; replace H := H.viaS kk; (try dsimp only at H); clear kk)
            | ((with_reducible refine gDst 63 ?_); refine aLoad1 H _ rfl rfl HA33.out rfl ?_)
            | ((with_reducible refine gDst 71 ?_); refine aLoad1 H _ rfl rfl HA34.out rfl ?_)
            | (go_at_call 20; have q := HR1.out bk bd bo bm (.slice none 0 0) [] (.slice A1 mn1 c1) _ (H.subS (D := bankL bk bd bo bm (.slice none 0 0) [] 7 s1.flush (uN 32 6))) (fun w' hc => HM1.out.below (H.chgS (D := bankL bk bd bo bm (.slice none 0 0) [] 7 s1.flush (uN 32 6)) hc).below); refine q.mono ?_; clear q; rintro e w' ⟨rfl, kk⟩; replace H := H.viaS kk; (try dsimp only at H); clear kk)
            | (go_at_call 20; have q := HR2.out bk bd bo bm (.slice none 0 0) [] (.slice A2 mn2 c2) _ (H.subS (D := bankL bk bd bo bm (.slice none 0 0) [] 7 (s1.flush.rot 4 m1) (uN 32 6))) (fun w' hc => HM2.out.below (H.chgS (D := bankL bk bd bo bm (.slice none 0 0) [] 7 (s1.flush.rot 4 m1) (uN 32 6)) hc).below); refine q.mono ?_; clear q; rintro e w' ⟨rfl, kk⟩; replace H := H.viaS kk; (try dsimp only at H); clear kk)
            | ((with_reducible refine gDst 78 ?_); refine aLoad H _ rfl rfl (part_all HPL.out) HPL.out rfl ?_)
            | (go_at_call 21; refine (HLK.out bk bd bo bm (.slice none 0 0) [] _ (HOLD.suf (D := bankL bk bd bo bm (.slice none 0 0) [] 7 s4 (uN 32 6)) H.hold)).mono ?_; rintro e w' ⟨rfl, hb⟩; replace H := H.step hb; clear hb)
            | ((with_reducible refine gDst 84 ?_); refine aLoad H _ rfl rfl (part_all HPL.out) HPL.out rfl ?_)
            | (go_at_call 22; refine (HHL.out bk bd bo bm (.slice none 0 0) [] _ (H.subS (D := bankL bk bd bo bm (.slice none 0 0) [] 7 s4 (uN 32 6)))).mono ?_; rintro e w' ⟨rfl, vw5, ss5, kk⟩; replace H := H.viaS kk; (try dsimp only at H); clear kk)
            | ((with_reducible refine gDst 4 ?_); refine aBox H _ rfl rfl rfl ?_; clear H; intro b4 w4 H)
            | ((with_reducible refine gDst 9 ?_); refine aAlloc H rfl rfl ?_; clear H; intro b9 w9 H)
            | ((with_reducible refine gDst 12 ?_); refine aAlloc H rfl rfl ?_; clear H; intro b12 w12 H)
            | ((with_reducible refine gDst 22 ?_); refine aAlloc H rfl rfl ?_; clear H; intro b22 w22 H)
            | ((with_reducible refine gLoad ?_); first | (refine aLoad1 H _ rfl rfl (by first | exact (rfl : _ = some (Value.int _ _)) | exact (rfl : _ = some (Value.slice _ _ _)) | exact (rfl : _ = some (Value.bool _)) | exact (rfl : _ = some (Value.string _)) | exact (rfl : _ = some (Value.pointer _)) | rfl | (simp [List.getElem?_append]; done)) rfl ?_) | (refine aLoadC _ rfl rfl (by assumption) rfl ?_) | (refine aLoad H _ rfl rfl (by first | exact part_all (by first | rfl | simp []) | (simp only [List.drop_succ_cons, List.drop_zero, List.take_succ_cons, List.take_zero]; rfl) | (simp [List.drop_append, List.take_append]; rfl)) (by first | rfl | simp []) rfl ?_))
            | ((with_reducible refine gStore ?_); (first | (refine aStore H _ _ rfl rfl rfl (by (first | exact ⟨rfl, rfl⟩ | exact ⟨by decide, rfl⟩ | (simp []; done) | (constructor <;> simp [] <;> omega))) (by first | rfl | simp [List.all_append, one_all]) rfl ?_) | (refine aLay H _ _ rfl rfl rfl (by (first | exact ⟨rfl, rfl⟩ | exact ⟨by decide, rfl⟩ | (simp []; done) | (constructor <;> simp [] <;> omega))) (by first | rfl | simp [List.all_append, one_all]) (by simp only [lay, List.take_succ_cons, List.take_zero, List.drop_succ_cons, List.drop_zero, List.nil_append, List.cons_append, List.length_cons, List.length_nil, Nat.zero_add, Nat.reduceAdd]; rfl) rfl ?_)); clear H; intro w' H; try dsimp only at H))
          have HL := H
          clear H
          go_loopw [16, 17] (fun v16 v17 wr => ∃ i : Nat, v17 = .int .i64 (i : Int) ∧ i ≤ 2 ∧ v16 = .int .i64 ((wantN g0 g1 i : Nat) : Int) ∧ SH Nil w wr (.blk b12 44 [.bool g0, .bool g1] :: .blk b9 33 p.cells :: .row B8 (.slice A54 256 c54) Wb :: .blk b4 41 [.slice A1 mn1 c1, .slice A2 mn2 c2] :: bankL bk bd bo bm vw5 ss5 7 s5 (uN 32 6))) (fun _ v _ => 2 - (intOf v).toNat)
          case atStart => exact ⟨0, rfl, by omega, by simp [wantN], HL⟩
          case round =>
            obtain ⟨i, rfl, hi, rfl, HS⟩ := hrel
            clear HL
            have H := HS
            clear HS
            obtain rfl | rfl | rfl : i = 0 ∨ i = 1 ∨ i = 2 := by omega
            · cases g0 <;> cases g1 <;> (
                go_wp2_with (first
                  | ((with_reducible refine gDst 4 ?_); refine aBox H _ rfl rfl rfl ?_; clear H; intro b4 w4 H)
                  | ((with_reducible refine gDst 9 ?_); refine aAlloc H rfl rfl ?_; clear H; intro b9 w9 H)
                  | ((with_reducible refine gDst 12 ?_); refine aAlloc H rfl rfl ?_; clear H; intro b12 w12 H)
                  | ((with_reducible refine gDst 22 ?_); refine aAlloc H rfl rfl ?_; clear H; intro b22 w22 H)
                  | ((with_reducible refine gLoad ?_); first | (refine aLoad1 H _ rfl rfl (by first | exact (rfl : _ = some (Value.int _ _)) | exact (rfl : _ = some (Value.slice _ _ _)) | exact (rfl : _ = some (Value.bool _)) | exact (rfl : _ = some (Value.string _)) | exact (rfl : _ = some (Value.pointer _)) | rfl | (simp [List.getElem?_append]; done)) rfl ?_) | (refine aLoadC _ rfl rfl (by assumption) rfl ?_) | (refine aLoad H _ rfl rfl (by first | exact part_all (by first | rfl | simp []) | (simp only [List.drop_succ_cons, List.drop_zero, List.take_succ_cons, List.take_zero]; rfl) | (simp [List.drop_append, List.take_append]; rfl)) (by first | rfl | simp []) rfl ?_))
                  | ((with_reducible refine gStore ?_); (first | (refine aStore H _ _ rfl rfl rfl (by (first | exact ⟨rfl, rfl⟩ | exact ⟨by decide, rfl⟩ | (simp []; done) | (constructor <;> simp [] <;> omega))) (by first | rfl | simp [List.all_append, one_all]) rfl ?_) | (refine aLay H _ _ rfl rfl rfl (by (first | exact ⟨rfl, rfl⟩ | exact ⟨by decide, rfl⟩ | (simp []; done) | (constructor <;> simp [] <;> omega))) (by first | rfl | simp [List.all_append, one_all]) (by simp only [lay, List.take_succ_cons, List.take_zero, List.drop_succ_cons, List.drop_zero, List.nil_append, List.cons_append, List.length_cons, List.length_nil, Nat.zero_add, Nat.reduceAdd]; rfl) rfl ?_)); clear H; intro w' H; try dsimp only at H))
                go_roundw
                case rel => exact ⟨1, by go_num, by omega, by simp [wantN] <;> (unfold wrap64; omega), H⟩
                case measure => simp [intOf])
            · cases g0 <;> cases g1 <;> (
                go_wp2_with (first
                  | ((with_reducible refine gDst 4 ?_); refine aBox H _ rfl rfl rfl ?_; clear H; intro b4 w4 H)
                  | ((with_reducible refine gDst 9 ?_); refine aAlloc H rfl rfl ?_; clear H; intro b9 w9 H)
                  | ((with_reducible refine gDst 12 ?_); refine aAlloc H rfl rfl ?_; clear H; intro b12 w12 H)
                  | ((with_reducible refine gDst 22 ?_); refine aAlloc H rfl rfl ?_; clear H; intro b22 w22 H)
                  | ((with_reducible refine gLoad ?_); first | (refine aLoad1 H _ rfl rfl (by first | exact (rfl : _ = some (Value.int _ _)) | exact (rfl : _ = some (Value.slice _ _ _)) | exact (rfl : _ = some (Value.bool _)) | exact (rfl : _ = some (Value.string _)) | exact (rfl : _ = some (Value.pointer _)) | rfl | (simp [List.getElem?_append]; done)) rfl ?_) | (refine aLoadC _ rfl rfl (by assumption) rfl ?_) | (refine aLoad H _ rfl rfl (by first | exact part_all (by first | rfl | simp []) | (simp only [List.drop_succ_cons, List.drop_zero, List.take_succ_cons, List.take_zero]; rfl) | (simp [List.drop_append, List.take_append]; rfl)) (by first | rfl | simp []) rfl ?_))
                  | ((with_reducible refine gStore ?_); (first | (refine aStore H _ _ rfl rfl rfl (by (first | exact ⟨rfl, rfl⟩ | exact ⟨by decide, rfl⟩ | (simp []; done) | (constructor <;> simp [] <;> omega))) (by first | rfl | simp [List.all_append, one_all]) rfl ?_) | (refine aLay H _ _ rfl rfl rfl (by (first | exact ⟨rfl, rfl⟩ | exact ⟨by decide, rfl⟩ | (simp []; done) | (constructor <;> simp [] <;> omega))) (by first | rfl | simp [List.all_append, one_all]) (by simp only [lay, List.take_succ_cons, List.take_zero, List.drop_succ_cons, List.drop_zero, List.nil_append, List.cons_append, List.length_cons, List.length_nil, Nat.zero_add, Nat.reduceAdd]; rfl) rfl ?_)); clear H; intro w' H; try dsimp only at H))
                go_roundw
                case rel => exact ⟨2, by go_num, by omega, by simp [wantN] <;> (unfold wrap64; omega), H⟩
                case measure => simp [intOf])
            · obtain ⟨wn, hwn⟩ : ∃ x, x = wantN g0 g1 2 := ⟨_, rfl⟩
              rw [← hwn]
              have hwt : (hE = 0 ↔ wn < 2) ∧ (hE = 0 → hn = wn) := by
                refine ⟨HQ4.out.trans ?_, fun h => by rw [HQ5.out h, hwn]; cases g0 <;> cases g1 <;> rfl⟩
                rw [hwn]
                cases g0 <;> cases g1 <;> simp [wantN]
              clear HQ4 HQ5 hwn
              by_cases hE0 : hE = 0
              · have hw2 : ((wn : Int) < 2) := by have := hwt.1.1 hE0; omega
                obtain rfl := hwt.2 hE0
                subst hE0
                clear hwt
                by_cases hs : shaL Wo = p.hash
                · skip
                  obtain rfl := HFX.out.2 hs
                  have hse : (shaL Wo == p.hash) = true := beq_iff_eq.2 hs
                  rw [hse] at HEQ
                  clear hse hs HFX
                  go_wp2_with (first
                    | ((with_reducible refine gDst 4 ?_); refine aBox H _ rfl rfl rfl ?_; clear H; intro b4 w4 H)
                    | ((with_reducible refine gDst 9 ?_); refine aAlloc H rfl rfl ?_; clear H; intro b9 w9 H)
                    | ((with_reducible refine gDst 12 ?_); refine aAlloc H rfl rfl ?_; clear H; intro b12 w12 H)
                    | ((with_reducible refine gDst 22 ?_); refine aAlloc H rfl rfl ?_; clear H; intro b22 w22 H)
                    | ((with_reducible refine gLoad ?_); first | (refine aLoad1 H _ rfl rfl (by first | exact (rfl : _ = some (Value.int _ _)) | exact (rfl : _ = some (Value.slice _ _ _)) | exact (rfl : _ = some (Value.bool _)) | exact (rfl : _ = some (Value.string _)) | exact (rfl : _ = some (Value.pointer _)) | rfl | (simp [List.getElem?_append]; done)) rfl ?_) | (refine aLoadC _ rfl rfl (by assumption) rfl ?_) | (refine aLoad H _ rfl rfl (by first | exact part_all (by first | rfl | simp []) | (simp only [List.drop_succ_cons, List.drop_zero, List.take_succ_cons, List.take_zero]; rfl) | (simp [List.drop_append, List.take_append]; rfl)) (by first | rfl | simp []) rfl ?_))
                    | ((with_reducible refine gStore ?_); (first | (refine aStore H _ _ rfl rfl rfl (by (first | exact ⟨rfl, rfl⟩ | exact ⟨by decide, rfl⟩ | (simp []; done) | (constructor <;> simp [] <;> omega))) (by first | rfl | simp [List.all_append, one_all]) rfl ?_) | (refine aLay H _ _ rfl rfl rfl (by (first | exact ⟨rfl, rfl⟩ | exact ⟨by decide, rfl⟩ | (simp []; done) | (constructor <;> simp [] <;> omega))) (by first | rfl | simp [List.all_append, one_all]) (by simp only [lay, List.take_succ_cons, List.take_zero, List.drop_succ_cons, List.drop_zero, List.nil_append, List.cons_append, List.length_cons, List.length_nil, Nat.zero_add, Nat.reduceAdd]; rfl) rfl ?_)); clear H; intro w' H; try dsimp only at H))
                  refine startA (fun i => i == 4) (by kernel_rfl) (fun wS hS => ?_)
                  replace H := H.drew
                  rw [← hS] at H
                  have HH := H.hold
                  have HS0 : Below wS.heap.size wS wS := Below.refl _ _
                  clear hS
                  refine takeP 0 rfl (by kernel_rfl) (by kernel_rfl) (by kernel_rfl) (by kernel_rfl) (fun _ _ _ h => h) rfl (v := ?_) ?_ ?_
                  rotate_left
                  · intro w'; go_simp; (try with_reducible rfl)
                  (try simp only [Act.put, List.setIfInBounds_toArray, List.set_cons_zero, List.set_cons_succ])
                  refine takeL 1 HS0 rfl (by kernel_rfl) (by kernel_rfl) (by kernel_rfl) (by kernel_rfl) (by kernel_rfl) (fun _ _ _ h => h) rfl (v := ?_) ?_ ?_
                  rotate_left
                  · intro w' hw'; refine Eq.trans (xLoad (HH.below hw') _ rfl rfl (part_all HPL.out) HPL.out) ?_; with_reducible rfl
                  (try simp only [Act.put, List.setIfInBounds_toArray, List.set_cons_zero, List.set_cons_succ])
                  refine takeP 2 rfl (by kernel_rfl) (by kernel_rfl) (by kernel_rfl) (by kernel_rfl) (fun _ _ _ h => h) rfl (v := ?_) ?_ ?_
                  rotate_left
                  · intro w'; go_simp; (try with_reducible rfl)
                  (try simp only [Act.put, List.setIfInBounds_toArray, List.set_cons_zero, List.set_cons_succ])
                  refine stepL 3 rfl (by kernel_rfl) rfl (fun K hK => ?_)
                  (go_simp; (with_reducible refine ((HWO.out _ _ (HO.out.below H.below))).mono ?_); rintro e w' ⟨A128, c128, rfl, ho, hb⟩; replace H := H.pushRow hb ho; clear ho; first | (replace HS0 := below_two HS0 HS0.size hb; clear hb; refine hK.out _ _ (fun _ _ => HS0) ?_; clear K hK) | (refine hK.out _ _ (fun _ h => below_two h h.size hb) ?_; clear hb K hK))
                  (try simp only [Act.put, List.setIfInBounds_toArray, List.set_cons_zero, List.set_cons_succ])
                  refine stepL 4 rfl (by kernel_rfl) rfl (fun K hK => ?_)
                  (go_simp; have q := HF1.out bk bd bo bm vw5 ss5 (.slice A128 256 c128) _ (H.subS (D := bankL bk bd bo bm vw5 ss5 7 s5 (uN 32 6))) (fun w2 hc2 => OR.reads (H.keepHd (D := bankL bk bd bo bm vw5 ss5 7 s5 (uN 32 6)) hc2)); (with_reducible refine q.mono ?_); rintro e w' ⟨rfl, vw6, ss6, kk⟩; replace H := H.viaS kk; (try dsimp only at H); clear kk; refine hK.out _ _ (fun h => by cases h) ?_; clear K hK HS0)
                  (try simp only [Act.put, List.setIfInBounds_toArray, List.set_cons_zero, List.set_cons_succ])
                  refine takeP 5 rfl (by kernel_rfl) (by kernel_rfl) (by kernel_rfl) (by kernel_rfl) (fun _ _ _ h => h) rfl (v := ?_) ?_ ?_
                  rotate_left
                  · intro w'; go_simp; (try with_reducible rfl)
                  (try simp only [Act.put, List.setIfInBounds_toArray, List.set_cons_zero, List.set_cons_succ])
                  refine takeP 6 rfl (by kernel_rfl) (by kernel_rfl) (by kernel_rfl) (by kernel_rfl) (fun _ _ _ h => h) rfl (v := ?_) ?_ ?_
                  rotate_left
                  · intro w'; go_simp; (try with_reducible rfl)
                  (try simp only [Act.put, List.setIfInBounds_toArray, List.set_cons_zero, List.set_cons_succ])
                  refine takeP 7 rfl (by kernel_rfl) (by kernel_rfl) (by kernel_rfl) (by kernel_rfl) (fun _ _ _ h => h) rfl (v := ?_) ?_ ?_
                  rotate_left
                  · intro w'; go_simp; (try with_reducible rfl)
                  (try simp only [Act.put, List.setIfInBounds_toArray, List.set_cons_zero, List.set_cons_succ])
                  refine takeP 8 rfl (by kernel_rfl) (by kernel_rfl) (by kernel_rfl) (by kernel_rfl) (fun _ _ _ h => h) rfl (v := ?_) ?_ ?_
                  rotate_left
                  · intro w'; go_simp; (try with_reducible rfl)
                  (try simp only [Act.put, List.setIfInBounds_toArray, List.set_cons_zero, List.set_cons_succ])
                  refine takeP 9 rfl (by kernel_rfl) (by kernel_rfl) (by kernel_rfl) (by kernel_rfl) (fun _ _ _ h => h) rfl (v := ?_) ?_ ?_
                  rotate_left
                  · intro w'; go_simp; (try with_reducible rfl)
                  (try simp only [Act.put, List.setIfInBounds_toArray, List.set_cons_zero, List.set_cons_succ])
                  refine doneL (by kernel_rfl) ?_
                  clear HH
                  go_wp2
                  refine startA (fun i => false) (by kernel_rfl) (fun wS hS => ?_)
                  replace H := H.drew
                  rw [← hS] at H
                  have HH := H.hold
                  have HS0 : Below wS.heap.size wS wS := Below.refl _ _
                  clear hS
                  refine takeP 0 rfl (by kernel_rfl) (by kernel_rfl) (by kernel_rfl) (by kernel_rfl) (fun _ _ _ h => h) rfl (v := ?_) ?_ ?_
                  rotate_left
                  · intro w'; go_simp; (try with_reducible rfl)
                  (try simp only [Act.put, List.setIfInBounds_toArray, List.set_cons_zero, List.set_cons_succ])
                  refine takeP 1 rfl (by kernel_rfl) (by kernel_rfl) (by kernel_rfl) (by kernel_rfl) (fun _ _ _ h => h) rfl (v := ?_) ?_ ?_
                  rotate_left
                  · intro w'; go_simp; (try with_reducible rfl)
                  (try simp only [Act.put, List.setIfInBounds_toArray, List.set_cons_zero, List.set_cons_succ])
                  refine takeP 2 rfl (by kernel_rfl) (by kernel_rfl) (by kernel_rfl) (by kernel_rfl) (fun _ _ _ h => h) rfl (v := ?_) ?_ ?_
                  rotate_left
                  · intro w'; go_simp; (try with_reducible rfl)
                  (try simp only [Act.put, List.setIfInBounds_toArray, List.set_cons_zero, List.set_cons_succ])
                  refine takeP 5 rfl (by kernel_rfl) (by kernel_rfl) (by kernel_rfl) (by kernel_rfl) (fun _ _ _ h => h) rfl (v := ?_) ?_ ?_
                  rotate_left
                  · intro w'; go_simp; (try with_reducible rfl)
                  (try simp only [Act.put, List.setIfInBounds_toArray, List.set_cons_zero, List.set_cons_succ])
                  refine takeL 6 HS0 rfl (by kernel_rfl) (by kernel_rfl) (by kernel_rfl) (by kernel_rfl) (by kernel_rfl) (fun _ _ _ h => h) rfl (v := ?_) ?_ ?_
                  rotate_left
                  · intro w' hw'; refine Eq.trans (xLoad (HH.below hw') _ rfl rfl HDR.out HHL2.out) ?_; with_reducible rfl
                  (try simp only [Act.put, List.setIfInBounds_toArray, List.set_cons_zero, List.set_cons_succ])
                  refine stepL 3 rfl (by kernel_rfl) rfl (fun K hK => ?_)
                  (go_simp; (with_reducible refine ((HWO.out _ _ (HO.out.below H.below))).mono ?_); rintro e w' ⟨A135, c135, rfl, ho, hb⟩; replace H := H.pushRow hb ho; clear ho; first | (replace HS0 := below_two HS0 HS0.size hb; clear hb; refine hK.out _ _ (fun _ _ => HS0) ?_; clear K hK) | (refine hK.out _ _ (fun _ h => below_two h h.size hb) ?_; clear hb K hK))
                  (try simp only [Act.put, List.setIfInBounds_toArray, List.set_cons_zero, List.set_cons_succ])
                  refine stepL 4 rfl (by kernel_rfl) rfl (fun K hK => ?_)
                  (go_simp; (with_reducible refine ((HSUM.out _ _ (H.hold.rr (.slice A135 256 c135)))).mono ?_); rintro e w' ⟨rfl, hb⟩; replace H := H.step hb; first | (replace HS0 := below_two HS0 HS0.size hb; clear hb; refine hK.out _ _ (fun _ _ => HS0) ?_; clear K hK) | (refine hK.out _ _ (fun _ h => below_two h h.size hb) ?_; clear hb K hK))
                  (try simp only [Act.put, List.setIfInBounds_toArray, List.set_cons_zero, List.set_cons_succ])
                  refine takeL 7 HS0 rfl (by kernel_rfl) (by kernel_rfl) (by kernel_rfl) (by kernel_rfl) (by kernel_rfl) (fun _ _ _ h => h) rfl (v := ?_) ?_ ?_
                  rotate_left
                  · intro w' hw'; refine Eq.trans (exec_eql 29 _ _ _ rfl _ _ rfl rfl bh32_guard _ (HEQ.out _)) ?_; with_reducible rfl
                  (try simp only [Act.put, List.setIfInBounds_toArray, List.set_cons_zero, List.set_cons_succ])
                  refine takeP 8 rfl (by kernel_rfl) (by kernel_rfl) (by kernel_rfl) (by kernel_rfl) (fun _ _ _ h => h) rfl (v := ?_) ?_ ?_
                  rotate_left
                  · intro w'; go_simp; (try with_reducible rfl)
                  (try simp only [Act.put, List.setIfInBounds_toArray, List.set_cons_zero, List.set_cons_succ])
                  refine doneL (by kernel_rfl) ?_
                  clear HH
                  go_wp2
                  refine startA (fun i => i == 4) (by kernel_rfl) (fun wS hS => ?_)
                  replace H := H.drew
                  rw [← hS] at H
                  have HH := H.hold
                  have HS0 : Below wS.heap.size wS wS := Below.refl _ _
                  clear hS
                  refine takeP 0 rfl (by kernel_rfl) (by kernel_rfl) (by kernel_rfl) (by kernel_rfl) (fun _ _ _ h => h) rfl (v := ?_) ?_ ?_
                  rotate_left
                  · intro w'; go_simp; (try with_reducible rfl)
                  (try simp only [Act.put, List.setIfInBounds_toArray, List.set_cons_zero, List.set_cons_succ])
                  refine takeL 1 HS0 rfl (by kernel_rfl) (by kernel_rfl) (by kernel_rfl) (by kernel_rfl) (by kernel_rfl) (fun _ _ _ h => h) rfl (v := ?_) ?_ ?_
                  rotate_left
                  · intro w' hw'; refine Eq.trans (xLoad (HH.below hw') _ rfl rfl (part_all HPL.out) HPL.out) ?_; with_reducible rfl
                  (try simp only [Act.put, List.setIfInBounds_toArray, List.set_cons_zero, List.set_cons_succ])
                  refine takeP 2 rfl (by kernel_rfl) (by kernel_rfl) (by kernel_rfl) (by kernel_rfl) (fun _ _ _ h => h) rfl (v := ?_) ?_ ?_
                  rotate_left
                  · intro w'; go_simp; (try with_reducible rfl)
                  (try simp only [Act.put, List.setIfInBounds_toArray, List.set_cons_zero, List.set_cons_succ])
                  refine stepL 3 rfl (by kernel_rfl) rfl (fun K hK => ?_)
                  (go_simp; (with_reducible refine ((HWB.out _ _ (HB.out.below H.below))).mono ?_); rintro e w' ⟨A145, c145, rfl, ho, hb⟩; replace H := H.pushRow hb ho; clear ho; first | (replace HS0 := below_two HS0 HS0.size hb; clear hb; refine hK.out _ _ (fun _ _ => HS0) ?_; clear K hK) | (refine hK.out _ _ (fun _ h => below_two h h.size hb) ?_; clear hb K hK))
                  (try simp only [Act.put, List.setIfInBounds_toArray, List.set_cons_zero, List.set_cons_succ])
                  refine stepL 4 rfl (by kernel_rfl) rfl (fun K hK => ?_)
                  (go_simp; have q := HF2.out bk bd bo bm vw6 ss6 (.slice A145 256 c145) _ (H.subS (D := bankL bk bd bo bm vw6 ss6 7 s6 (uN 32 6))) (fun w2 hc2 => OR.reads (H.keepHd (D := bankL bk bd bo bm vw6 ss6 7 s6 (uN 32 6)) hc2)); (with_reducible refine q.mono ?_); rintro e w' ⟨rfl, vw7, ss7, kk⟩; replace H := H.viaS kk; (try dsimp only at H); clear kk; refine hK.out _ _ (fun h => by cases h) ?_; clear K hK HS0)
                  (try simp only [Act.put, List.setIfInBounds_toArray, List.set_cons_zero, List.set_cons_succ])
                  refine takeP 5 rfl (by kernel_rfl) (by kernel_rfl) (by kernel_rfl) (by kernel_rfl) (fun _ _ _ h => h) rfl (v := ?_) ?_ ?_
                  rotate_left
                  · intro w'; go_simp; (try with_reducible rfl)
                  (try simp only [Act.put, List.setIfInBounds_toArray, List.set_cons_zero, List.set_cons_succ])
                  refine takeP 6 rfl (by kernel_rfl) (by kernel_rfl) (by kernel_rfl) (by kernel_rfl) (fun _ _ _ h => h) rfl (v := ?_) ?_ ?_
                  rotate_left
                  · intro w'; go_simp; (try with_reducible rfl)
                  (try simp only [Act.put, List.setIfInBounds_toArray, List.set_cons_zero, List.set_cons_succ])
                  refine takeP 7 rfl (by kernel_rfl) (by kernel_rfl) (by kernel_rfl) (by kernel_rfl) (fun _ _ _ h => h) rfl (v := ?_) ?_ ?_
                  rotate_left
                  · intro w'; go_simp; (try with_reducible rfl)
                  (try simp only [Act.put, List.setIfInBounds_toArray, List.set_cons_zero, List.set_cons_succ])
                  refine takeP 8 rfl (by kernel_rfl) (by kernel_rfl) (by kernel_rfl) (by kernel_rfl) (fun _ _ _ h => h) rfl (v := ?_) ?_ ?_
                  rotate_left
                  · intro w'; go_simp; (try with_reducible rfl)
                  (try simp only [Act.put, List.setIfInBounds_toArray, List.set_cons_zero, List.set_cons_succ])
                  refine takeP 9 rfl (by kernel_rfl) (by kernel_rfl) (by kernel_rfl) (by kernel_rfl) (fun _ _ _ h => h) rfl (v := ?_) ?_ ?_
                  rotate_left
                  · intro w'; go_simp; (try with_reducible rfl)
                  (try simp only [Act.put, List.setIfInBounds_toArray, List.set_cons_zero, List.set_cons_succ])
                  refine doneL (by kernel_rfl) ?_
                  clear HH
                  go_wp2_with (first
                    | ((with_reducible refine gDst 151 ?_); refine aLoad H _ rfl rfl (part_all HPL.out) HPL.out rfl ?_)
                    | (go_at_call 21; refine (HL2.out bk bd bo bm vw7 ss7 _ (HOLD.suf (D := bankL bk bd bo bm vw7 ss7 7 s7 (uN 32 6)) H.hold)).mono ?_; rintro e w' ⟨rfl, hb⟩; replace H := H.step hb; clear hb)
                    | (go_at_call 15; refine (alive08_any _ (HT.out _ H.below)).mono ?_; rintro e w' ⟨rfl, hb⟩; replace H := H.step hb; clear hb)
                    | ((with_reducible refine gDst 166 ?_); refine stepV (exec_buildL 44 [(0, .const (.bool true)), (1, .const (.bool true))] rfl [(0, .bool true), (1, .bool true)] rfl [.bool true, .bool true] (by kernel_rfl)) rfl ?_)
                    | ((with_reducible refine gDst 167 ?_); refine stepV (exec_eql 44 _ _ _ rfl _ _ rfl rfl b2_guard _ (HTT.out _)) rfl ?_)
                    | ((with_reducible refine gDst 4 ?_); refine aBox H _ rfl rfl rfl ?_; clear H; intro b4 w4 H)
                    | ((with_reducible refine gDst 9 ?_); refine aAlloc H rfl rfl ?_; clear H; intro b9 w9 H)
                    | ((with_reducible refine gDst 12 ?_); refine aAlloc H rfl rfl ?_; clear H; intro b12 w12 H)
                    | ((with_reducible refine gDst 22 ?_); refine aAlloc H rfl rfl ?_; clear H; intro b22 w22 H)
                    | ((with_reducible refine gLoad ?_); first | (refine aLoad1 H _ rfl rfl (by first | exact (rfl : _ = some (Value.int _ _)) | exact (rfl : _ = some (Value.slice _ _ _)) | exact (rfl : _ = some (Value.bool _)) | exact (rfl : _ = some (Value.string _)) | exact (rfl : _ = some (Value.pointer _)) | rfl | (simp [List.getElem?_append]; done)) rfl ?_) | (refine aLoadC _ rfl rfl (by assumption) rfl ?_) | (refine aLoad H _ rfl rfl (by first | exact part_all (by first | rfl | simp []) | (simp only [List.drop_succ_cons, List.drop_zero, List.take_succ_cons, List.take_zero]; rfl) | (simp [List.drop_append, List.take_append]; rfl)) (by first | rfl | simp []) rfl ?_))
                    | ((with_reducible refine gStore ?_); (first | (refine aStore H _ _ rfl rfl rfl (by (first | exact ⟨rfl, rfl⟩ | exact ⟨by decide, rfl⟩ | (simp []; done) | (constructor <;> simp [] <;> omega))) (by first | rfl | simp [List.all_append, one_all]) rfl ?_) | (refine aLay H _ _ rfl rfl rfl (by (first | exact ⟨rfl, rfl⟩ | exact ⟨by decide, rfl⟩ | (simp []; done) | (constructor <;> simp [] <;> omega))) (by first | rfl | simp [List.all_append, one_all]) (by simp only [lay, List.take_succ_cons, List.take_zero, List.drop_succ_cons, List.drop_zero, List.nil_append, List.cons_append, List.length_cons, List.length_nil, Nat.zero_add, Nat.reduceAdd]; rfl) rfl ?_)); clear H; intro w' H; try dsimp only at H))
                  go_ret
                  exact ⟨rfl, H.below⟩
                · skip
                  have hf0 : (fE = 0) = False := eq_false (fun h => hs (HFX.out.1 h))
                  have hf0b : (fE == 0) = false := beq_eq_false_iff_ne.2 (fun h => hs (HFX.out.1 h))
                  have hse : (shaL Wo == p.hash) = false := beq_eq_false_iff_ne.2 hs
                  rw [hse] at HEQ
                  clear hse hs HFX
                  go_wp2_with (first
                    | ((with_reducible refine gDst 4 ?_); refine aBox H _ rfl rfl rfl ?_; clear H; intro b4 w4 H)
                    | ((with_reducible refine gDst 9 ?_); refine aAlloc H rfl rfl ?_; clear H; intro b9 w9 H)
                    | ((with_reducible refine gDst 12 ?_); refine aAlloc H rfl rfl ?_; clear H; intro b12 w12 H)
                    | ((with_reducible refine gDst 22 ?_); refine aAlloc H rfl rfl ?_; clear H; intro b22 w22 H)
                    | ((with_reducible refine gLoad ?_); first | (refine aLoad1 H _ rfl rfl (by first | exact (rfl : _ = some (Value.int _ _)) | exact (rfl : _ = some (Value.slice _ _ _)) | exact (rfl : _ = some (Value.bool _)) | exact (rfl : _ = some (Value.string _)) | exact (rfl : _ = some (Value.pointer _)) | rfl | (simp [List.getElem?_append]; done)) rfl ?_) | (refine aLoadC _ rfl rfl (by assumption) rfl ?_) | (refine aLoad H _ rfl rfl (by first | exact part_all (by first | rfl | simp []) | (simp only [List.drop_succ_cons, List.drop_zero, List.take_succ_cons, List.take_zero]; rfl) | (simp [List.drop_append, List.take_append]; rfl)) (by first | rfl | simp []) rfl ?_))
                    | ((with_reducible refine gStore ?_); (first | (refine aStore H _ _ rfl rfl rfl (by (first | exact ⟨rfl, rfl⟩ | exact ⟨by decide, rfl⟩ | (simp []; done) | (constructor <;> simp [] <;> omega))) (by first | rfl | simp [List.all_append, one_all]) rfl ?_) | (refine aLay H _ _ rfl rfl rfl (by (first | exact ⟨rfl, rfl⟩ | exact ⟨by decide, rfl⟩ | (simp []; done) | (constructor <;> simp [] <;> omega))) (by first | rfl | simp [List.all_append, one_all]) (by simp only [lay, List.take_succ_cons, List.take_zero, List.drop_succ_cons, List.drop_zero, List.nil_append, List.cons_append, List.length_cons, List.length_nil, Nat.zero_add, Nat.reduceAdd]; rfl) rfl ?_)); clear H; intro w' H; try dsimp only at H))
                  refine startA (fun i => i == 4) (by kernel_rfl) (fun wS hS => ?_)
                  replace H := H.drew
                  rw [← hS] at H
                  have HH := H.hold
                  have HS0 : Below wS.heap.size wS wS := Below.refl _ _
                  clear hS
                  refine takeP 0 rfl (by kernel_rfl) (by kernel_rfl) (by kernel_rfl) (by kernel_rfl) (fun _ _ _ h => h) rfl (v := ?_) ?_ ?_
                  rotate_left
                  · intro w'; go_simp; (try with_reducible rfl)
                  (try simp only [Act.put, List.setIfInBounds_toArray, List.set_cons_zero, List.set_cons_succ])
                  refine takeL 1 HS0 rfl (by kernel_rfl) (by kernel_rfl) (by kernel_rfl) (by kernel_rfl) (by kernel_rfl) (fun _ _ _ h => h) rfl (v := ?_) ?_ ?_
                  rotate_left
                  · intro w' hw'; refine Eq.trans (xLoad (HH.below hw') _ rfl rfl (part_all HPL.out) HPL.out) ?_; with_reducible rfl
                  (try simp only [Act.put, List.setIfInBounds_toArray, List.set_cons_zero, List.set_cons_succ])
                  refine takeP 2 rfl (by kernel_rfl) (by kernel_rfl) (by kernel_rfl) (by kernel_rfl) (fun _ _ _ h => h) rfl (v := ?_) ?_ ?_
                  rotate_left
                  · intro w'; go_simp; (try with_reducible rfl)
                  (try simp only [Act.put, List.setIfInBounds_toArray, List.set_cons_zero, List.set_cons_succ])
                  refine stepL 3 rfl (by kernel_rfl) rfl (fun K hK => ?_)
                  (go_simp; (with_reducible refine ((HWO.out _ _ (HO.out.below H.below))).mono ?_); rintro e w' ⟨A128, c128, rfl, ho, hb⟩; replace H := H.pushRow hb ho; clear ho; first | (replace HS0 := below_two HS0 HS0.size hb; clear hb; refine hK.out _ _ (fun _ _ => HS0) ?_; clear K hK) | (refine hK.out _ _ (fun _ h => below_two h h.size hb) ?_; clear hb K hK))
                  (try simp only [Act.put, List.setIfInBounds_toArray, List.set_cons_zero, List.set_cons_succ])
                  refine stepL 4 rfl (by kernel_rfl) rfl (fun K hK => ?_)
                  (go_simp; have q := HF1.out bk bd bo bm vw5 ss5 (.slice A128 256 c128) _ (H.subS (D := bankL bk bd bo bm vw5 ss5 7 s5 (uN 32 6))) (fun w2 hc2 => OR.reads (H.keepHd (D := bankL bk bd bo bm vw5 ss5 7 s5 (uN 32 6)) hc2)); (with_reducible refine q.mono ?_); rintro e w' ⟨rfl, vw6, ss6, kk⟩; replace H := H.viaS kk; (try dsimp only at H); clear kk; refine hK.out _ _ (fun h => by cases h) ?_; clear K hK HS0)
                  (try simp only [Act.put, List.setIfInBounds_toArray, List.set_cons_zero, List.set_cons_succ])
                  refine takeP 5 rfl (by kernel_rfl) (by kernel_rfl) (by kernel_rfl) (by kernel_rfl) (fun _ _ _ h => h) rfl (v := ?_) ?_ ?_
                  rotate_left
                  · intro w'; go_simp; (try with_reducible rfl)
                  (try simp only [Act.put, List.setIfInBounds_toArray, List.set_cons_zero, List.set_cons_succ])
                  refine takeP 6 rfl (by kernel_rfl) (by kernel_rfl) (by kernel_rfl) (by kernel_rfl) (fun _ _ _ h => h) rfl (v := ?_) ?_ ?_
                  rotate_left
                  · intro w'; go_simp; (try with_reducible rfl)
                  (try simp only [Act.put, List.setIfInBounds_toArray, List.set_cons_zero, List.set_cons_succ])
                  refine takeP 7 rfl (by kernel_rfl) (by kernel_rfl) (by kernel_rfl) (by kernel_rfl) (fun _ _ _ h => h) rfl (v := ?_) ?_ ?_
                  rotate_left
                  · intro w'; go_simp; (try with_reducible rfl)
                  (try simp only [Act.put, List.setIfInBounds_toArray, List.set_cons_zero, List.set_cons_succ])
                  refine takeP 8 rfl (by kernel_rfl) (by kernel_rfl) (by kernel_rfl) (by kernel_rfl) (fun _ _ _ h => h) rfl (v := ?_) ?_ ?_
                  rotate_left
                  · intro w'; go_simp; (try with_reducible rfl)
                  (try simp only [Act.put, List.setIfInBounds_toArray, List.set_cons_zero, List.set_cons_succ])
                  refine takeP 9 rfl (by kernel_rfl) (by kernel_rfl) (by kernel_rfl) (by kernel_rfl) (fun _ _ _ h => h) rfl (v := ?_) ?_ ?_
                  rotate_left
                  · intro w'; go_simp; (try with_reducible rfl)
                  (try simp only [Act.put, List.setIfInBounds_toArray, List.set_cons_zero, List.set_cons_succ])
                  refine doneL (by kernel_rfl) ?_
                  clear HH
                  go_wp2
                  refine startA (fun i => false) (by kernel_rfl) (fun wS hS => ?_)
                  replace H := H.drew
                  rw [← hS] at H
                  have HH := H.hold
                  have HS0 : Below wS.heap.size wS wS := Below.refl _ _
                  clear hS
                  refine takeP 0 rfl (by kernel_rfl) (by kernel_rfl) (by kernel_rfl) (by kernel_rfl) (fun _ _ _ h => h) rfl (v := ?_) ?_ ?_
                  rotate_left
                  · intro w'; go_simp; (try with_reducible rfl)
                  (try simp only [Act.put, List.setIfInBounds_toArray, List.set_cons_zero, List.set_cons_succ])
                  refine takeP 1 rfl (by kernel_rfl) (by kernel_rfl) (by kernel_rfl) (by kernel_rfl) (fun _ _ _ h => h) rfl (v := ?_) ?_ ?_
                  rotate_left
                  · intro w'; go_simp; (try with_reducible rfl)
                  (try simp only [Act.put, List.setIfInBounds_toArray, List.set_cons_zero, List.set_cons_succ])
                  refine takeP 2 rfl (by kernel_rfl) (by kernel_rfl) (by kernel_rfl) (by kernel_rfl) (fun _ _ _ h => h) rfl (v := ?_) ?_ ?_
                  rotate_left
                  · intro w'; go_simp; (try with_reducible rfl)
                  (try simp only [Act.put, List.setIfInBounds_toArray, List.set_cons_zero, List.set_cons_succ])
                  refine takeP 5 rfl (by kernel_rfl) (by kernel_rfl) (by kernel_rfl) (by kernel_rfl) (fun _ _ _ h => h) rfl (v := ?_) ?_ ?_
                  rotate_left
                  · intro w'; go_simp; (try with_reducible rfl)
                  (try simp only [Act.put, List.setIfInBounds_toArray, List.set_cons_zero, List.set_cons_succ])
                  refine takeL 6 HS0 rfl (by kernel_rfl) (by kernel_rfl) (by kernel_rfl) (by kernel_rfl) (by kernel_rfl) (fun _ _ _ h => h) rfl (v := ?_) ?_ ?_
                  rotate_left
                  · intro w' hw'; refine Eq.trans (xLoad (HH.below hw') _ rfl rfl HDR.out HHL2.out) ?_; with_reducible rfl
                  (try simp only [Act.put, List.setIfInBounds_toArray, List.set_cons_zero, List.set_cons_succ])
                  refine stepL 3 rfl (by kernel_rfl) rfl (fun K hK => ?_)
                  (go_simp; (with_reducible refine ((HWO.out _ _ (HO.out.below H.below))).mono ?_); rintro e w' ⟨A135, c135, rfl, ho, hb⟩; replace H := H.pushRow hb ho; clear ho; first | (replace HS0 := below_two HS0 HS0.size hb; clear hb; refine hK.out _ _ (fun _ _ => HS0) ?_; clear K hK) | (refine hK.out _ _ (fun _ h => below_two h h.size hb) ?_; clear hb K hK))
                  (try simp only [Act.put, List.setIfInBounds_toArray, List.set_cons_zero, List.set_cons_succ])
                  refine stepL 4 rfl (by kernel_rfl) rfl (fun K hK => ?_)
                  (go_simp; (with_reducible refine ((HSUM.out _ _ (H.hold.rr (.slice A135 256 c135)))).mono ?_); rintro e w' ⟨rfl, hb⟩; replace H := H.step hb; first | (replace HS0 := below_two HS0 HS0.size hb; clear hb; refine hK.out _ _ (fun _ _ => HS0) ?_; clear K hK) | (refine hK.out _ _ (fun _ h => below_two h h.size hb) ?_; clear hb K hK))
                  (try simp only [Act.put, List.setIfInBounds_toArray, List.set_cons_zero, List.set_cons_succ])
                  refine takeL 7 HS0 rfl (by kernel_rfl) (by kernel_rfl) (by kernel_rfl) (by kernel_rfl) (by kernel_rfl) (fun _ _ _ h => h) rfl (v := ?_) ?_ ?_
                  rotate_left
                  · intro w' hw'; refine Eq.trans (exec_eql 29 _ _ _ rfl _ _ rfl rfl bh32_guard _ (HEQ.out _)) ?_; with_reducible rfl
                  (try simp only [Act.put, List.setIfInBounds_toArray, List.set_cons_zero, List.set_cons_succ])
                  refine takeP 8 rfl (by kernel_rfl) (by kernel_rfl) (by kernel_rfl) (by kernel_rfl) (fun _ _ _ h => h) rfl (v := ?_) ?_ ?_
                  rotate_left
                  · intro w'; go_simp; (try with_reducible rfl)
                  (try simp only [Act.put, List.setIfInBounds_toArray, List.set_cons_zero, List.set_cons_succ])
                  refine doneL (by kernel_rfl) ?_
                  clear HH
                  go_wp2
                  refine startA (fun i => i == 4) (by kernel_rfl) (fun wS hS => ?_)
                  replace H := H.drew
                  rw [← hS] at H
                  have HH := H.hold
                  have HS0 : Below wS.heap.size wS wS := Below.refl _ _
                  clear hS
                  refine takeP 0 rfl (by kernel_rfl) (by kernel_rfl) (by kernel_rfl) (by kernel_rfl) (fun _ _ _ h => h) rfl (v := ?_) ?_ ?_
                  rotate_left
                  · intro w'; go_simp; (try with_reducible rfl)
                  (try simp only [Act.put, List.setIfInBounds_toArray, List.set_cons_zero, List.set_cons_succ])
                  refine takeL 1 HS0 rfl (by kernel_rfl) (by kernel_rfl) (by kernel_rfl) (by kernel_rfl) (by kernel_rfl) (fun _ _ _ h => h) rfl (v := ?_) ?_ ?_
                  rotate_left
                  · intro w' hw'; refine Eq.trans (xLoad (HH.below hw') _ rfl rfl (part_all HPL.out) HPL.out) ?_; with_reducible rfl
                  (try simp only [Act.put, List.setIfInBounds_toArray, List.set_cons_zero, List.set_cons_succ])
                  refine takeP 2 rfl (by kernel_rfl) (by kernel_rfl) (by kernel_rfl) (by kernel_rfl) (fun _ _ _ h => h) rfl (v := ?_) ?_ ?_
                  rotate_left
                  · intro w'; go_simp; (try with_reducible rfl)
                  (try simp only [Act.put, List.setIfInBounds_toArray, List.set_cons_zero, List.set_cons_succ])
                  refine stepL 3 rfl (by kernel_rfl) rfl (fun K hK => ?_)
                  (go_simp; (with_reducible refine ((HWB.out _ _ (HB.out.below H.below))).mono ?_); rintro e w' ⟨A145, c145, rfl, ho, hb⟩; replace H := H.pushRow hb ho; clear ho; first | (replace HS0 := below_two HS0 HS0.size hb; clear hb; refine hK.out _ _ (fun _ _ => HS0) ?_; clear K hK) | (refine hK.out _ _ (fun _ h => below_two h h.size hb) ?_; clear hb K hK))
                  (try simp only [Act.put, List.setIfInBounds_toArray, List.set_cons_zero, List.set_cons_succ])
                  refine stepL 4 rfl (by kernel_rfl) rfl (fun K hK => ?_)
                  (go_simp; have q := HF2.out bk bd bo bm vw6 ss6 (.slice A145 256 c145) _ (H.subS (D := bankL bk bd bo bm vw6 ss6 7 s6 (uN 32 6))) (fun w2 hc2 => OR.reads (H.keepHd (D := bankL bk bd bo bm vw6 ss6 7 s6 (uN 32 6)) hc2)); (with_reducible refine q.mono ?_); rintro e w' ⟨rfl, vw7, ss7, kk⟩; replace H := H.viaS kk; (try dsimp only at H); clear kk; refine hK.out _ _ (fun h => by cases h) ?_; clear K hK HS0)
                  (try simp only [Act.put, List.setIfInBounds_toArray, List.set_cons_zero, List.set_cons_succ])
                  refine takeP 5 rfl (by kernel_rfl) (by kernel_rfl) (by kernel_rfl) (by kernel_rfl) (fun _ _ _ h => h) rfl (v := ?_) ?_ ?_
                  rotate_left
                  · intro w'; go_simp; (try with_reducible rfl)
                  (try simp only [Act.put, List.setIfInBounds_toArray, List.set_cons_zero, List.set_cons_succ])
                  refine takeP 6 rfl (by kernel_rfl) (by kernel_rfl) (by kernel_rfl) (by kernel_rfl) (fun _ _ _ h => h) rfl (v := ?_) ?_ ?_
                  rotate_left
                  · intro w'; go_simp; (try with_reducible rfl)
                  (try simp only [Act.put, List.setIfInBounds_toArray, List.set_cons_zero, List.set_cons_succ])
                  refine takeP 7 rfl (by kernel_rfl) (by kernel_rfl) (by kernel_rfl) (by kernel_rfl) (fun _ _ _ h => h) rfl (v := ?_) ?_ ?_
                  rotate_left
                  · intro w'; go_simp; (try with_reducible rfl)
                  (try simp only [Act.put, List.setIfInBounds_toArray, List.set_cons_zero, List.set_cons_succ])
                  refine takeP 8 rfl (by kernel_rfl) (by kernel_rfl) (by kernel_rfl) (by kernel_rfl) (fun _ _ _ h => h) rfl (v := ?_) ?_ ?_
                  rotate_left
                  · intro w'; go_simp; (try with_reducible rfl)
                  (try simp only [Act.put, List.setIfInBounds_toArray, List.set_cons_zero, List.set_cons_succ])
                  refine takeP 9 rfl (by kernel_rfl) (by kernel_rfl) (by kernel_rfl) (by kernel_rfl) (fun _ _ _ h => h) rfl (v := ?_) ?_ ?_
                  rotate_left
                  · intro w'; go_simp; (try with_reducible rfl)
                  (try simp only [Act.put, List.setIfInBounds_toArray, List.set_cons_zero, List.set_cons_succ])
                  refine doneL (by kernel_rfl) ?_
                  clear HH
                  go_wp2_with (first
                    | ((with_reducible refine gDst 151 ?_); refine aLoad H _ rfl rfl (part_all HPL.out) HPL.out rfl ?_)
                    | (go_at_call 21; refine (HL2.out bk bd bo bm vw7 ss7 _ (HOLD.suf (D := bankL bk bd bo bm vw7 ss7 7 s7 (uN 32 6)) H.hold)).mono ?_; rintro e w' ⟨rfl, hb⟩; replace H := H.step hb; clear hb)
                    | (go_at_call 15; refine (alive08_any _ (HT.out _ H.below)).mono ?_; rintro e w' ⟨rfl, hb⟩; replace H := H.step hb; clear hb)
                    | ((with_reducible refine gDst 166 ?_); refine stepV (exec_buildL 44 [(0, .const (.bool true)), (1, .const (.bool true))] rfl [(0, .bool true), (1, .bool true)] rfl [.bool true, .bool true] (by kernel_rfl)) rfl ?_)
                    | ((with_reducible refine gDst 167 ?_); refine stepV (exec_eql 44 _ _ _ rfl _ _ rfl rfl b2_guard _ (HTT.out _)) rfl ?_)
                    | ((with_reducible refine gDst 4 ?_); refine aBox H _ rfl rfl rfl ?_; clear H; intro b4 w4 H)
                    | ((with_reducible refine gDst 9 ?_); refine aAlloc H rfl rfl ?_; clear H; intro b9 w9 H)
                    | ((with_reducible refine gDst 12 ?_); refine aAlloc H rfl rfl ?_; clear H; intro b12 w12 H)
                    | ((with_reducible refine gDst 22 ?_); refine aAlloc H rfl rfl ?_; clear H; intro b22 w22 H)
                    | ((with_reducible refine gLoad ?_); first | (refine aLoad1 H _ rfl rfl (by first | exact (rfl : _ = some (Value.int _ _)) | exact (rfl : _ = some (Value.slice _ _ _)) | exact (rfl : _ = some (Value.bool _)) | exact (rfl : _ = some (Value.string _)) | exact (rfl : _ = some (Value.pointer _)) | rfl | (simp [List.getElem?_append]; done)) rfl ?_) | (refine aLoadC _ rfl rfl (by assumption) rfl ?_) | (refine aLoad H _ rfl rfl (by first | exact part_all (by first | rfl | simp []) | (simp only [List.drop_succ_cons, List.drop_zero, List.take_succ_cons, List.take_zero]; rfl) | (simp [List.drop_append, List.take_append]; rfl)) (by first | rfl | simp []) rfl ?_))
                    | ((with_reducible refine gStore ?_); (first | (refine aStore H _ _ rfl rfl rfl (by (first | exact ⟨rfl, rfl⟩ | exact ⟨by decide, rfl⟩ | (simp []; done) | (constructor <;> simp [] <;> omega))) (by first | rfl | simp [List.all_append, one_all]) rfl ?_) | (refine aLay H _ _ rfl rfl rfl (by (first | exact ⟨rfl, rfl⟩ | exact ⟨by decide, rfl⟩ | (simp []; done) | (constructor <;> simp [] <;> omega))) (by first | rfl | simp [List.all_append, one_all]) (by simp only [lay, List.take_succ_cons, List.take_zero, List.drop_succ_cons, List.drop_zero, List.nil_append, List.cons_append, List.length_cons, List.length_nil, Nat.zero_add, Nat.reduceAdd]; rfl) rfl ?_)); clear H; intro w' H; try dsimp only at H))
                  go_ret
                  exact ⟨rfl, H.below⟩
              · have hE0' : (hE = 0) = False := eq_false hE0
                have hE0b : (hE == 0) = false := beq_eq_false_iff_ne.2 hE0
                have hw3 : (wn < 2) = False := eq_false (fun h => hE0 (hwt.1.2 h))
                have hw2 : ((wn : Int) < 2) = False := eq_false (by have := fun h => hE0 (hwt.1.2 h); omega)
                clear hE0 hwt
                by_cases hs : shaL Wo = p.hash
                · skip
                  obtain rfl := HFX.out.2 hs
                  have hse : (shaL Wo == p.hash) = true := beq_iff_eq.2 hs
                  rw [hse] at HEQ
                  clear hse hs HFX
                  go_wp2_with (first
                    | ((with_reducible refine gDst 4 ?_); refine aBox H _ rfl rfl rfl ?_; clear H; intro b4 w4 H)
                    | ((with_reducible refine gDst 9 ?_); refine aAlloc H rfl rfl ?_; clear H; intro b9 w9 H)
                    | ((with_reducible refine gDst 12 ?_); refine aAlloc H rfl rfl ?_; clear H; intro b12 w12 H)
                    | ((with_reducible refine gDst 22 ?_); refine aAlloc H rfl rfl ?_; clear H; intro b22 w22 H)
                    | ((with_reducible refine gLoad ?_); first | (refine aLoad1 H _ rfl rfl (by first | exact (rfl : _ = some (Value.int _ _)) | exact (rfl : _ = some (Value.slice _ _ _)) | exact (rfl : _ = some (Value.bool _)) | exact (rfl : _ = some (Value.string _)) | exact (rfl : _ = some (Value.pointer _)) | rfl | (simp [List.getElem?_append]; done)) rfl ?_) | (refine aLoadC _ rfl rfl (by assumption) rfl ?_) | (refine aLoad H _ rfl rfl (by first | exact part_all (by first | rfl | simp []) | (simp only [List.drop_succ_cons, List.drop_zero, List.take_succ_cons, List.take_zero]; rfl) | (simp [List.drop_append, List.take_append]; rfl)) (by first | rfl | simp []) rfl ?_))
                    | ((with_reducible refine gStore ?_); (first | (refine aStore H _ _ rfl rfl rfl (by (first | exact ⟨rfl, rfl⟩ | exact ⟨by decide, rfl⟩ | (simp []; done) | (constructor <;> simp [] <;> omega))) (by first | rfl | simp [List.all_append, one_all]) rfl ?_) | (refine aLay H _ _ rfl rfl rfl (by (first | exact ⟨rfl, rfl⟩ | exact ⟨by decide, rfl⟩ | (simp []; done) | (constructor <;> simp [] <;> omega))) (by first | rfl | simp [List.all_append, one_all]) (by simp only [lay, List.take_succ_cons, List.take_zero, List.drop_succ_cons, List.drop_zero, List.nil_append, List.cons_append, List.length_cons, List.length_nil, Nat.zero_add, Nat.reduceAdd]; rfl) rfl ?_)); clear H; intro w' H; try dsimp only at H))
                  refine startA (fun i => i == 4) (by kernel_rfl) (fun wS hS => ?_)
                  replace H := H.drew
                  rw [← hS] at H
                  have HH := H.hold
                  have HS0 : Below wS.heap.size wS wS := Below.refl _ _
                  clear hS
                  refine takeP 0 rfl (by kernel_rfl) (by kernel_rfl) (by kernel_rfl) (by kernel_rfl) (fun _ _ _ h => h) rfl (v := ?_) ?_ ?_
                  rotate_left
                  · intro w'; go_simp; (try with_reducible rfl)
                  (try simp only [Act.put, List.setIfInBounds_toArray, List.set_cons_zero, List.set_cons_succ])
                  refine takeL 1 HS0 rfl (by kernel_rfl) (by kernel_rfl) (by kernel_rfl) (by kernel_rfl) (by kernel_rfl) (fun _ _ _ h => h) rfl (v := ?_) ?_ ?_
                  rotate_left
                  · intro w' hw'; refine Eq.trans (xLoad (HH.below hw') _ rfl rfl (part_all HPL.out) HPL.out) ?_; with_reducible rfl
                  (try simp only [Act.put, List.setIfInBounds_toArray, List.set_cons_zero, List.set_cons_succ])
                  refine takeP 2 rfl (by kernel_rfl) (by kernel_rfl) (by kernel_rfl) (by kernel_rfl) (fun _ _ _ h => h) rfl (v := ?_) ?_ ?_
                  rotate_left
                  · intro w'; go_simp; (try with_reducible rfl)
                  (try simp only [Act.put, List.setIfInBounds_toArray, List.set_cons_zero, List.set_cons_succ])
                  refine stepL 3 rfl (by kernel_rfl) rfl (fun K hK => ?_)
                  (go_simp; (with_reducible refine ((HWO.out _ _ (HO.out.below H.below))).mono ?_); rintro e w' ⟨A128, c128, rfl, ho, hb⟩; replace H := H.pushRow hb ho; clear ho; first | (replace HS0 := below_two HS0 HS0.size hb; clear hb; refine hK.out _ _ (fun _ _ => HS0) ?_; clear K hK) | (refine hK.out _ _ (fun _ h => below_two h h.size hb) ?_; clear hb K hK))
                  (try simp only [Act.put, List.setIfInBounds_toArray, List.set_cons_zero, List.set_cons_succ])
                  refine stepL 4 rfl (by kernel_rfl) rfl (fun K hK => ?_)
                  (go_simp; have q := HF1.out bk bd bo bm vw5 ss5 (.slice A128 256 c128) _ (H.subS (D := bankL bk bd bo bm vw5 ss5 7 s5 (uN 32 6))) (fun w2 hc2 => OR.reads (H.keepHd (D := bankL bk bd bo bm vw5 ss5 7 s5 (uN 32 6)) hc2)); (with_reducible refine q.mono ?_); rintro e w' ⟨rfl, vw6, ss6, kk⟩; replace H := H.viaS kk; (try dsimp only at H); clear kk; refine hK.out _ _ (fun h => by cases h) ?_; clear K hK HS0)
                  (try simp only [Act.put, List.setIfInBounds_toArray, List.set_cons_zero, List.set_cons_succ])
                  refine takeP 5 rfl (by kernel_rfl) (by kernel_rfl) (by kernel_rfl) (by kernel_rfl) (fun _ _ _ h => h) rfl (v := ?_) ?_ ?_
                  rotate_left
                  · intro w'; go_simp; (try with_reducible rfl)
                  (try simp only [Act.put, List.setIfInBounds_toArray, List.set_cons_zero, List.set_cons_succ])
                  refine takeP 6 rfl (by kernel_rfl) (by kernel_rfl) (by kernel_rfl) (by kernel_rfl) (fun _ _ _ h => h) rfl (v := ?_) ?_ ?_
                  rotate_left
                  · intro w'; go_simp; (try with_reducible rfl)
                  (try simp only [Act.put, List.setIfInBounds_toArray, List.set_cons_zero, List.set_cons_succ])
                  refine takeP 7 rfl (by kernel_rfl) (by kernel_rfl) (by kernel_rfl) (by kernel_rfl) (fun _ _ _ h => h) rfl (v := ?_) ?_ ?_
                  rotate_left
                  · intro w'; go_simp; (try with_reducible rfl)
                  (try simp only [Act.put, List.setIfInBounds_toArray, List.set_cons_zero, List.set_cons_succ])
                  refine takeP 8 rfl (by kernel_rfl) (by kernel_rfl) (by kernel_rfl) (by kernel_rfl) (fun _ _ _ h => h) rfl (v := ?_) ?_ ?_
                  rotate_left
                  · intro w'; go_simp; (try with_reducible rfl)
                  (try simp only [Act.put, List.setIfInBounds_toArray, List.set_cons_zero, List.set_cons_succ])
                  refine takeP 9 rfl (by kernel_rfl) (by kernel_rfl) (by kernel_rfl) (by kernel_rfl) (fun _ _ _ h => h) rfl (v := ?_) ?_ ?_
                  rotate_left
                  · intro w'; go_simp; (try with_reducible rfl)
                  (try simp only [Act.put, List.setIfInBounds_toArray, List.set_cons_zero, List.set_cons_succ])
                  refine doneL (by kernel_rfl) ?_
                  clear HH
                  go_wp2
                  refine startA (fun i => false) (by kernel_rfl) (fun wS hS => ?_)
                  replace H := H.drew
                  rw [← hS] at H
                  have HH := H.hold
                  have HS0 : Below wS.heap.size wS wS := Below.refl _ _
                  clear hS
                  refine takeP 0 rfl (by kernel_rfl) (by kernel_rfl) (by kernel_rfl) (by kernel_rfl) (fun _ _ _ h => h) rfl (v := ?_) ?_ ?_
                  rotate_left
                  · intro w'; go_simp; (try with_reducible rfl)
                  (try simp only [Act.put, List.setIfInBounds_toArray, List.set_cons_zero, List.set_cons_succ])
                  refine takeP 1 rfl (by kernel_rfl) (by kernel_rfl) (by kernel_rfl) (by kernel_rfl) (fun _ _ _ h => h) rfl (v := ?_) ?_ ?_
                  rotate_left
                  · intro w'; go_simp; (try with_reducible rfl)
                  (try simp only [Act.put, List.setIfInBounds_toArray, List.set_cons_zero, List.set_cons_succ])
                  refine takeP 2 rfl (by kernel_rfl) (by kernel_rfl) (by kernel_rfl) (by kernel_rfl) (fun _ _ _ h => h) rfl (v := ?_) ?_ ?_
                  rotate_left
                  · intro w'; go_simp; (try with_reducible rfl)
                  (try simp only [Act.put, List.setIfInBounds_toArray, List.set_cons_zero, List.set_cons_succ])
                  refine takeP 5 rfl (by kernel_rfl) (by kernel_rfl) (by kernel_rfl) (by kernel_rfl) (fun _ _ _ h => h) rfl (v := ?_) ?_ ?_
                  rotate_left
                  · intro w'; go_simp; (try with_reducible rfl)
                  (try simp only [Act.put, List.setIfInBounds_toArray, List.set_cons_zero, List.set_cons_succ])
                  refine takeL 6 HS0 rfl (by kernel_rfl) (by kernel_rfl) (by kernel_rfl) (by kernel_rfl) (by kernel_rfl) (fun _ _ _ h => h) rfl (v := ?_) ?_ ?_
                  rotate_left
                  · intro w' hw'; refine Eq.trans (xLoad (HH.below hw') _ rfl rfl HDR.out HHL2.out) ?_; with_reducible rfl
                  (try simp only [Act.put, List.setIfInBounds_toArray, List.set_cons_zero, List.set_cons_succ])
                  refine stepL 3 rfl (by kernel_rfl) rfl (fun K hK => ?_)
                  (go_simp; (with_reducible refine ((HWO.out _ _ (HO.out.below H.below))).mono ?_); rintro e w' ⟨A135, c135, rfl, ho, hb⟩; replace H := H.pushRow hb ho; clear ho; first | (replace HS0 := below_two HS0 HS0.size hb; clear hb; refine hK.out _ _ (fun _ _ => HS0) ?_; clear K hK) | (refine hK.out _ _ (fun _ h => below_two h h.size hb) ?_; clear hb K hK))
                  (try simp only [Act.put, List.setIfInBounds_toArray, List.set_cons_zero, List.set_cons_succ])
                  refine stepL 4 rfl (by kernel_rfl) rfl (fun K hK => ?_)
                  (go_simp; (with_reducible refine ((HSUM.out _ _ (H.hold.rr (.slice A135 256 c135)))).mono ?_); rintro e w' ⟨rfl, hb⟩; replace H := H.step hb; first | (replace HS0 := below_two HS0 HS0.size hb; clear hb; refine hK.out _ _ (fun _ _ => HS0) ?_; clear K hK) | (refine hK.out _ _ (fun _ h => below_two h h.size hb) ?_; clear hb K hK))
                  (try simp only [Act.put, List.setIfInBounds_toArray, List.set_cons_zero, List.set_cons_succ])
                  refine takeL 7 HS0 rfl (by kernel_rfl) (by kernel_rfl) (by kernel_rfl) (by kernel_rfl) (by kernel_rfl) (fun _ _ _ h => h) rfl (v := ?_) ?_ ?_
                  rotate_left
                  · intro w' hw'; refine Eq.trans (exec_eql 29 _ _ _ rfl _ _ rfl rfl bh32_guard _ (HEQ.out _)) ?_; with_reducible rfl
                  (try simp only [Act.put, List.setIfInBounds_toArray, List.set_cons_zero, List.set_cons_succ])
                  refine takeP 8 rfl (by kernel_rfl) (by kernel_rfl) (by kernel_rfl) (by kernel_rfl) (fun _ _ _ h => h) rfl (v := ?_) ?_ ?_
                  rotate_left
                  · intro w'; go_simp; (try with_reducible rfl)
                  (try simp only [Act.put, List.setIfInBounds_toArray, List.set_cons_zero, List.set_cons_succ])
                  refine doneL (by kernel_rfl) ?_
                  clear HH
                  go_wp2
                  refine startA (fun i => i == 4) (by kernel_rfl) (fun wS hS => ?_)
                  replace H := H.drew
                  rw [← hS] at H
                  have HH := H.hold
                  have HS0 : Below wS.heap.size wS wS := Below.refl _ _
                  clear hS
                  refine takeP 0 rfl (by kernel_rfl) (by kernel_rfl) (by kernel_rfl) (by kernel_rfl) (fun _ _ _ h => h) rfl (v := ?_) ?_ ?_
                  rotate_left
                  · intro w'; go_simp; (try with_reducible rfl)
                  (try simp only [Act.put, List.setIfInBounds_toArray, List.set_cons_zero, List.set_cons_succ])
                  refine takeL 1 HS0 rfl (by kernel_rfl) (by kernel_rfl) (by kernel_rfl) (by kernel_rfl) (by kernel_rfl) (fun _ _ _ h => h) rfl (v := ?_) ?_ ?_
                  rotate_left
                  · intro w' hw'; refine Eq.trans (xLoad (HH.below hw') _ rfl rfl (part_all HPL.out) HPL.out) ?_; with_reducible rfl
                  (try simp only [Act.put, List.setIfInBounds_toArray, List.set_cons_zero, List.set_cons_succ])
                  refine takeP 2 rfl (by kernel_rfl) (by kernel_rfl) (by kernel_rfl) (by kernel_rfl) (fun _ _ _ h => h) rfl (v := ?_) ?_ ?_
                  rotate_left
                  · intro w'; go_simp; (try with_reducible rfl)
                  (try simp only [Act.put, List.setIfInBounds_toArray, List.set_cons_zero, List.set_cons_succ])
                  refine stepL 3 rfl (by kernel_rfl) rfl (fun K hK => ?_)
                  (go_simp; (with_reducible refine ((HWB.out _ _ (HB.out.below H.below))).mono ?_); rintro e w' ⟨A145, c145, rfl, ho, hb⟩; replace H := H.pushRow hb ho; clear ho; first | (replace HS0 := below_two HS0 HS0.size hb; clear hb; refine hK.out _ _ (fun _ _ => HS0) ?_; clear K hK) | (refine hK.out _ _ (fun _ h => below_two h h.size hb) ?_; clear hb K hK))
                  (try simp only [Act.put, List.setIfInBounds_toArray, List.set_cons_zero, List.set_cons_succ])
                  refine stepL 4 rfl (by kernel_rfl) rfl (fun K hK => ?_)
                  (go_simp; have q := HF2.out bk bd bo bm vw6 ss6 (.slice A145 256 c145) _ (H.subS (D := bankL bk bd bo bm vw6 ss6 7 s6 (uN 32 6))) (fun w2 hc2 => OR.reads (H.keepHd (D := bankL bk bd bo bm vw6 ss6 7 s6 (uN 32 6)) hc2)); (with_reducible refine q.mono ?_); rintro e w' ⟨rfl, vw7, ss7, kk⟩; replace H := H.viaS kk; (try dsimp only at H); clear kk; refine hK.out _ _ (fun h => by cases h) ?_; clear K hK HS0)
                  (try simp only [Act.put, List.setIfInBounds_toArray, List.set_cons_zero, List.set_cons_succ])
                  refine takeP 5 rfl (by kernel_rfl) (by kernel_rfl) (by kernel_rfl) (by kernel_rfl) (fun _ _ _ h => h) rfl (v := ?_) ?_ ?_
                  rotate_left
                  · intro w'; go_simp; (try with_reducible rfl)
                  (try simp only [Act.put, List.setIfInBounds_toArray, List.set_cons_zero, List.set_cons_succ])
                  refine takeP 6 rfl (by kernel_rfl) (by kernel_rfl) (by kernel_rfl) (by kernel_rfl) (fun _ _ _ h => h) rfl (v := ?_) ?_ ?_
                  rotate_left
                  · intro w'; go_simp; (try with_reducible rfl)
                  (try simp only [Act.put, List.setIfInBounds_toArray, List.set_cons_zero, List.set_cons_succ])
                  refine takeP 7 rfl (by kernel_rfl) (by kernel_rfl) (by kernel_rfl) (by kernel_rfl) (fun _ _ _ h => h) rfl (v := ?_) ?_ ?_
                  rotate_left
                  · intro w'; go_simp; (try with_reducible rfl)
                  (try simp only [Act.put, List.setIfInBounds_toArray, List.set_cons_zero, List.set_cons_succ])
                  refine takeP 8 rfl (by kernel_rfl) (by kernel_rfl) (by kernel_rfl) (by kernel_rfl) (fun _ _ _ h => h) rfl (v := ?_) ?_ ?_
                  rotate_left
                  · intro w'; go_simp; (try with_reducible rfl)
                  (try simp only [Act.put, List.setIfInBounds_toArray, List.set_cons_zero, List.set_cons_succ])
                  refine takeP 9 rfl (by kernel_rfl) (by kernel_rfl) (by kernel_rfl) (by kernel_rfl) (fun _ _ _ h => h) rfl (v := ?_) ?_ ?_
                  rotate_left
                  · intro w'; go_simp; (try with_reducible rfl)
                  (try simp only [Act.put, List.setIfInBounds_toArray, List.set_cons_zero, List.set_cons_succ])
                  refine doneL (by kernel_rfl) ?_
                  clear HH
                  go_wp2_with (first
                    | ((with_reducible refine gDst 151 ?_); refine aLoad H _ rfl rfl (part_all HPL.out) HPL.out rfl ?_)
                    | (go_at_call 21; refine (HL2.out bk bd bo bm vw7 ss7 _ (HOLD.suf (D := bankL bk bd bo bm vw7 ss7 7 s7 (uN 32 6)) H.hold)).mono ?_; rintro e w' ⟨rfl, hb⟩; replace H := H.step hb; clear hb)
                    | (go_at_call 15; refine (alive08_any _ (HT.out _ H.below)).mono ?_; rintro e w' ⟨rfl, hb⟩; replace H := H.step hb; clear hb)
                    | ((with_reducible refine gDst 166 ?_); refine stepV (exec_buildL 44 [(0, .const (.bool true)), (1, .const (.bool true))] rfl [(0, .bool true), (1, .bool true)] rfl [.bool true, .bool true] (by kernel_rfl)) rfl ?_)
                    | ((with_reducible refine gDst 167 ?_); refine stepV (exec_eql 44 _ _ _ rfl _ _ rfl rfl b2_guard _ (HTT.out _)) rfl ?_)
                    | ((with_reducible refine gDst 4 ?_); refine aBox H _ rfl rfl rfl ?_; clear H; intro b4 w4 H)
                    | ((with_reducible refine gDst 9 ?_); refine aAlloc H rfl rfl ?_; clear H; intro b9 w9 H)
                    | ((with_reducible refine gDst 12 ?_); refine aAlloc H rfl rfl ?_; clear H; intro b12 w12 H)
                    | ((with_reducible refine gDst 22 ?_); refine aAlloc H rfl rfl ?_; clear H; intro b22 w22 H)
                    | ((with_reducible refine gLoad ?_); first | (refine aLoad1 H _ rfl rfl (by first | exact (rfl : _ = some (Value.int _ _)) | exact (rfl : _ = some (Value.slice _ _ _)) | exact (rfl : _ = some (Value.bool _)) | exact (rfl : _ = some (Value.string _)) | exact (rfl : _ = some (Value.pointer _)) | rfl | (simp [List.getElem?_append]; done)) rfl ?_) | (refine aLoadC _ rfl rfl (by assumption) rfl ?_) | (refine aLoad H _ rfl rfl (by first | exact part_all (by first | rfl | simp []) | (simp only [List.drop_succ_cons, List.drop_zero, List.take_succ_cons, List.take_zero]; rfl) | (simp [List.drop_append, List.take_append]; rfl)) (by first | rfl | simp []) rfl ?_))
                    | ((with_reducible refine gStore ?_); (first | (refine aStore H _ _ rfl rfl rfl (by (first | exact ⟨rfl, rfl⟩ | exact ⟨by decide, rfl⟩ | (simp []; done) | (constructor <;> simp [] <;> omega))) (by first | rfl | simp [List.all_append, one_all]) rfl ?_) | (refine aLay H _ _ rfl rfl rfl (by (first | exact ⟨rfl, rfl⟩ | exact ⟨by decide, rfl⟩ | (simp []; done) | (constructor <;> simp [] <;> omega))) (by first | rfl | simp [List.all_append, one_all]) (by simp only [lay, List.take_succ_cons, List.take_zero, List.drop_succ_cons, List.drop_zero, List.nil_append, List.cons_append, List.length_cons, List.length_nil, Nat.zero_add, Nat.reduceAdd]; rfl) rfl ?_)); clear H; intro w' H; try dsimp only at H))
                  go_ret
                  exact ⟨rfl, H.below⟩
                · skip
                  have hf0 : (fE = 0) = False := eq_false (fun h => hs (HFX.out.1 h))
                  have hf0b : (fE == 0) = false := beq_eq_false_iff_ne.2 (fun h => hs (HFX.out.1 h))
                  have hse : (shaL Wo == p.hash) = false := beq_eq_false_iff_ne.2 hs
                  rw [hse] at HEQ
                  clear hse hs HFX
                  go_wp2_with (first
                    | ((with_reducible refine gDst 4 ?_); refine aBox H _ rfl rfl rfl ?_; clear H; intro b4 w4 H)
                    | ((with_reducible refine gDst 9 ?_); refine aAlloc H rfl rfl ?_; clear H; intro b9 w9 H)
                    | ((with_reducible refine gDst 12 ?_); refine aAlloc H rfl rfl ?_; clear H; intro b12 w12 H)
                    | ((with_reducible refine gDst 22 ?_); refine aAlloc H rfl rfl ?_; clear H; intro b22 w22 H)
                    | ((with_reducible refine gLoad ?_); first | (refine aLoad1 H _ rfl rfl (by first | exact (rfl : _ = some (Value.int _ _)) | exact (rfl : _ = some (Value.slice _ _ _)) | exact (rfl : _ = some (Value.bool _)) | exact (rfl : _ = some (Value.string _)) | exact (rfl : _ = some (Value.pointer _)) | rfl | (simp [List.getElem?_append]; done)) rfl ?_) | (refine aLoadC _ rfl rfl (by assumption) rfl ?_) | (refine aLoad H _ rfl rfl (by first | exact part_all (by first | rfl | simp []) | (simp only [List.drop_succ_cons, List.drop_zero, List.take_succ_cons, List.take_zero]; rfl) | (simp [List.drop_append, List.take_append]; rfl)) (by first | rfl | simp []) rfl ?_))
                    | ((with_reducible refine gStore ?_); (first | (refine aStore H _ _ rfl rfl rfl (by (first | exact ⟨rfl, rfl⟩ | exact ⟨by decide, rfl⟩ | (simp []; done) | (constructor <;> simp [] <;> omega))) (by first | rfl | simp [List.all_append, one_all]) rfl ?_) | (refine aLay H _ _ rfl rfl rfl (by (first | exact ⟨rfl, rfl⟩ | exact ⟨by decide, rfl⟩ | (simp []; done) | (constructor <;> simp [] <;> omega))) (by first | rfl | simp [List.all_append, one_all]) (by simp only [lay, List.take_succ_cons, List.take_zero, List.drop_succ_cons, List.drop_zero, List.nil_append, List.cons_append, List.length_cons, List.length_nil, Nat.zero_add, Nat.reduceAdd]; rfl) rfl ?_)); clear H; intro w' H; try dsimp only at H))
                  refine startA (fun i => i == 4) (by kernel_rfl) (fun wS hS => ?_)
                  replace H := H.drew
                  rw [← hS] at H
                  have HH := H.hold
                  have HS0 : Below wS.heap.size wS wS := Below.refl _ _
                  clear hS
                  refine takeP 0 rfl (by kernel_rfl) (by kernel_rfl) (by kernel_rfl) (by kernel_rfl) (fun _ _ _ h => h) rfl (v := ?_) ?_ ?_
                  rotate_left
                  · intro w'; go_simp; (try with_reducible rfl)
                  (try simp only [Act.put, List.setIfInBounds_toArray, List.set_cons_zero, List.set_cons_succ])
                  refine takeL 1 HS0 rfl (by kernel_rfl) (by kernel_rfl) (by kernel_rfl) (by kernel_rfl) (by kernel_rfl) (fun _ _ _ h => h) rfl (v := ?_) ?_ ?_
                  rotate_left
                  · intro w' hw'; refine Eq.trans (xLoad (HH.below hw') _ rfl rfl (part_all HPL.out) HPL.out) ?_; with_reducible rfl
                  (try simp only [Act.put, List.setIfInBounds_toArray, List.set_cons_zero, List.set_cons_succ])
                  refine takeP 2 rfl (by kernel_rfl) (by kernel_rfl) (by kernel_rfl) (by kernel_rfl) (fun _ _ _ h => h) rfl (v := ?_) ?_ ?_
                  rotate_left
                  · intro w'; go_simp; (try with_reducible rfl)
                  (try simp only [Act.put, List.setIfInBounds_toArray, List.set_cons_zero, List.set_cons_succ])
                  refine stepL 3 rfl (by kernel_rfl) rfl (fun K hK => ?_)
                  (go_simp; (with_reducible refine ((HWO.out _ _ (HO.out.below H.below))).mono ?_); rintro e w' ⟨A128, c128, rfl, ho, hb⟩; replace H := H.pushRow hb ho; clear ho; first | (replace HS0 := below_two HS0 HS0.size hb; clear hb; refine hK.out _ _ (fun _ _ => HS0) ?_; clear K hK) | (refine hK.out _ _ (fun _ h => below_two h h.size hb) ?_; clear hb K hK))
                  (try simp only [Act.put, List.setIfInBounds_toArray, List.set_cons_zero, List.set_cons_succ])
                  refine stepL 4 rfl (by kernel_rfl) rfl (fun K hK => ?_)
                  (go_simp; have q := HF1.out bk bd bo bm vw5 ss5 (.slice A128 256 c128) _ (H.subS (D := bankL bk bd bo bm vw5 ss5 7 s5 (uN 32 6))) (fun w2 hc2 => OR.reads (H.keepHd (D := bankL bk bd bo bm vw5 ss5 7 s5 (uN 32 6)) hc2)); (with_reducible refine q.mono ?_); rintro e w' ⟨rfl, vw6, ss6, kk⟩; replace H := H.viaS kk; (try dsimp only at H); clear kk; refine hK.out _ _ (fun h => by cases h) ?_; clear K hK HS0)
                  (try simp only [Act.put, List.setIfInBounds_toArray, List.set_cons_zero, List.set_cons_succ])
                  refine takeP 5 rfl (by kernel_rfl) (by kernel_rfl) (by kernel_rfl) (by kernel_rfl) (fun _ _ _ h => h) rfl (v := ?_) ?_ ?_
                  rotate_left
                  · intro w'; go_simp; (try with_reducible rfl)
                  (try simp only [Act.put, List.setIfInBounds_toArray, List.set_cons_zero, List.set_cons_succ])
                  refine takeP 6 rfl (by kernel_rfl) (by kernel_rfl) (by kernel_rfl) (by kernel_rfl) (fun _ _ _ h => h) rfl (v := ?_) ?_ ?_
                  rotate_left
                  · intro w'; go_simp; (try with_reducible rfl)
                  (try simp only [Act.put, List.setIfInBounds_toArray, List.set_cons_zero, List.set_cons_succ])
                  refine takeP 7 rfl (by kernel_rfl) (by kernel_rfl) (by kernel_rfl) (by kernel_rfl) (fun _ _ _ h => h) rfl (v := ?_) ?_ ?_
                  rotate_left
                  · intro w'; go_simp; (try with_reducible rfl)
                  (try simp only [Act.put, List.setIfInBounds_toArray, List.set_cons_zero, List.set_cons_succ])
                  refine takeP 8 rfl (by kernel_rfl) (by kernel_rfl) (by kernel_rfl) (by kernel_rfl) (fun _ _ _ h => h) rfl (v := ?_) ?_ ?_
                  rotate_left
                  · intro w'; go_simp; (try with_reducible rfl)
                  (try simp only [Act.put, List.setIfInBounds_toArray, List.set_cons_zero, List.set_cons_succ])
                  refine takeP 9 rfl (by kernel_rfl) (by kernel_rfl) (by kernel_rfl) (by kernel_rfl) (fun _ _ _ h => h) rfl (v := ?_) ?_ ?_
                  rotate_left
                  · intro w'; go_simp; (try with_reducible rfl)
                  (try simp only [Act.put, List.setIfInBounds_toArray, List.set_cons_zero, List.set_cons_succ])
                  refine doneL (by kernel_rfl) ?_
                  clear HH
                  go_wp2
                  refine startA (fun i => false) (by kernel_rfl) (fun wS hS => ?_)
                  replace H := H.drew
                  rw [← hS] at H
                  have HH := H.hold
                  have HS0 : Below wS.heap.size wS wS := Below.refl _ _
                  clear hS
                  refine takeP 0 rfl (by kernel_rfl) (by kernel_rfl) (by kernel_rfl) (by kernel_rfl) (fun _ _ _ h => h) rfl (v := ?_) ?_ ?_
                  rotate_left
                  · intro w'; go_simp; (try with_reducible rfl)
                  (try simp only [Act.put, List.setIfInBounds_toArray, List.set_cons_zero, List.set_cons_succ])
                  refine takeP 1 rfl (by kernel_rfl) (by kernel_rfl) (by kernel_rfl) (by kernel_rfl) (fun _ _ _ h => h) rfl (v := ?_) ?_ ?_
                  rotate_left
                  · intro w'; go_simp; (try with_reducible rfl)
                  (try simp only [Act.put, List.setIfInBounds_toArray, List.set_cons_zero, List.set_cons_succ])
                  refine takeP 2 rfl (by kernel_rfl) (by kernel_rfl) (by kernel_rfl) (by kernel_rfl) (fun _ _ _ h => h) rfl (v := ?_) ?_ ?_
                  rotate_left
                  · intro w'; go_simp; (try with_reducible rfl)
                  (try simp only [Act.put, List.setIfInBounds_toArray, List.set_cons_zero, List.set_cons_succ])
                  refine takeP 5 rfl (by kernel_rfl) (by kernel_rfl) (by kernel_rfl) (by kernel_rfl) (fun _ _ _ h => h) rfl (v := ?_) ?_ ?_
                  rotate_left
                  · intro w'; go_simp; (try with_reducible rfl)
                  (try simp only [Act.put, List.setIfInBounds_toArray, List.set_cons_zero, List.set_cons_succ])
                  refine takeL 6 HS0 rfl (by kernel_rfl) (by kernel_rfl) (by kernel_rfl) (by kernel_rfl) (by kernel_rfl) (fun _ _ _ h => h) rfl (v := ?_) ?_ ?_
                  rotate_left
                  · intro w' hw'; refine Eq.trans (xLoad (HH.below hw') _ rfl rfl HDR.out HHL2.out) ?_; with_reducible rfl
                  (try simp only [Act.put, List.setIfInBounds_toArray, List.set_cons_zero, List.set_cons_succ])
                  refine stepL 3 rfl (by kernel_rfl) rfl (fun K hK => ?_)
                  (go_simp; (with_reducible refine ((HWO.out _ _ (HO.out.below H.below))).mono ?_); rintro e w' ⟨A135, c135, rfl, ho, hb⟩; replace H := H.pushRow hb ho; clear ho; first | (replace HS0 := below_two HS0 HS0.size hb; clear hb; refine hK.out _ _ (fun _ _ => HS0) ?_; clear K hK) | (refine hK.out _ _ (fun _ h => below_two h h.size hb) ?_; clear hb K hK))
                  (try simp only [Act.put, List.setIfInBounds_toArray, List.set_cons_zero, List.set_cons_succ])
                  refine stepL 4 rfl (by kernel_rfl) rfl (fun K hK => ?_)
                  (go_simp; (with_reducible refine ((HSUM.out _ _ (H.hold.rr (.slice A135 256 c135)))).mono ?_); rintro e w' ⟨rfl, hb⟩; replace H := H.step hb; first | (replace HS0 := below_two HS0 HS0.size hb; clear hb; refine hK.out _ _ (fun _ _ => HS0) ?_; clear K hK) | (refine hK.out _ _ (fun _ h => below_two h h.size hb) ?_; clear hb K hK))
                  (try simp only [Act.put, List.setIfInBounds_toArray, List.set_cons_zero, List.set_cons_succ])
                  refine takeL 7 HS0 rfl (by kernel_rfl) (by kernel_rfl) (by kernel_rfl) (by kernel_rfl) (by kernel_rfl) (fun _ _ _ h => h) rfl (v := ?_) ?_ ?_
                  rotate_left
                  · intro w' hw'; refine Eq.trans (exec_eql 29 _ _ _ rfl _ _ rfl rfl bh32_guard _ (HEQ.out _)) ?_; with_reducible rfl
                  (try simp only [Act.put, List.setIfInBounds_toArray, List.set_cons_zero, List.set_cons_succ])
                  refine takeP 8 rfl (by kernel_rfl) (by kernel_rfl) (by kernel_rfl) (by kernel_rfl) (fun _ _ _ h => h) rfl (v := ?_) ?_ ?_
                  rotate_left
                  · intro w'; go_simp; (try with_reducible rfl)
                  (try simp only [Act.put, List.setIfInBounds_toArray, List.set_cons_zero, List.set_cons_succ])
                  refine doneL (by kernel_rfl) ?_
                  clear HH
                  go_wp2
                  refine startA (fun i => i == 4) (by kernel_rfl) (fun wS hS => ?_)
                  replace H := H.drew
                  rw [← hS] at H
                  have HH := H.hold
                  have HS0 : Below wS.heap.size wS wS := Below.refl _ _
                  clear hS
                  refine takeP 0 rfl (by kernel_rfl) (by kernel_rfl) (by kernel_rfl) (by kernel_rfl) (fun _ _ _ h => h) rfl (v := ?_) ?_ ?_
                  rotate_left
                  · intro w'; go_simp; (try with_reducible rfl)
                  (try simp only [Act.put, List.setIfInBounds_toArray, List.set_cons_zero, List.set_cons_succ])
                  refine takeL 1 HS0 rfl (by kernel_rfl) (by kernel_rfl) (by kernel_rfl) (by kernel_rfl) (by kernel_rfl) (fun _ _ _ h => h) rfl (v := ?_) ?_ ?_
                  rotate_left
                  · intro w' hw'; refine Eq.trans (xLoad (HH.below hw') _ rfl rfl (part_all HPL.out) HPL.out) ?_; with_reducible rfl
                  (try simp only [Act.put, List.setIfInBounds_toArray, List.set_cons_zero, List.set_cons_succ])
                  refine takeP 2 rfl (by kernel_rfl) (by kernel_rfl) (by kernel_rfl) (by kernel_rfl) (fun _ _ _ h => h) rfl (v := ?_) ?_ ?_
                  rotate_left
                  · intro w'; go_simp; (try with_reducible rfl)
                  (try simp only [Act.put, List.setIfInBounds_toArray, List.set_cons_zero, List.set_cons_succ])
                  refine stepL 3 rfl (by kernel_rfl) rfl (fun K hK => ?_)
                  (go_simp; (with_reducible refine ((HWB.out _ _ (HB.out.below H.below))).mono ?_); rintro e w' ⟨A145, c145, rfl, ho, hb⟩; replace H := H.pushRow hb ho; clear ho; first | (replace HS0 := below_two HS0 HS0.size hb; clear hb; refine hK.out _ _ (fun _ _ => HS0) ?_; clear K hK) | (refine hK.out _ _ (fun _ h => below_two h h.size hb) ?_; clear hb K hK))
                  (try simp only [Act.put, List.setIfInBounds_toArray, List.set_cons_zero, List.set_cons_succ])
                  refine stepL 4 rfl (by kernel_rfl) rfl (fun K hK => ?_)
                  (go_simp; have q := HF2.out bk bd bo bm vw6 ss6 (.slice A145 256 c145) _ (H.subS (D := bankL bk bd bo bm vw6 ss6 7 s6 (uN 32 6))) (fun w2 hc2 => OR.reads (H.keepHd (D := bankL bk bd bo bm vw6 ss6 7 s6 (uN 32 6)) hc2)); (with_reducible refine q.mono ?_); rintro e w' ⟨rfl, vw7, ss7, kk⟩; replace H := H.viaS kk; (try dsimp only at H); clear kk; refine hK.out _ _ (fun h => by cases h) ?_; clear K hK HS0)
                  (try simp only [Act.put, List.setIfInBounds_toArray, List.set_cons_zero, List.set_cons_succ])
                  refine takeP 5 rfl (by kernel_rfl) (by kernel_rfl) (by kernel_rfl) (by kernel_rfl) (fun _ _ _ h => h) rfl (v := ?_) ?_ ?_
                  rotate_left
                  · intro w'; go_simp; (try with_reducible rfl)
                  (try simp only [Act.put, List.setIfInBounds_toArray, List.set_cons_zero, List.set_cons_succ])
                  refine takeP 6 rfl (by kernel_rfl) (by kernel_rfl) (by kernel_rfl) (by kernel_rfl) (fun _ _ _ h => h) rfl (v := ?_) ?_ ?_
                  rotate_left
                  · intro w'; go_simp; (try with_reducible rfl)
                  (try simp only [Act.put, List.setIfInBounds_toArray, List.set_cons_zero, List.set_cons_succ])
                  refine takeP 7 rfl (by kernel_rfl) (by kernel_rfl) (by kernel_rfl) (by kernel_rfl) (fun _ _ _ h => h) rfl (v := ?_) ?_ ?_
                  rotate_left
                  · intro w'; go_simp; (try with_reducible rfl)
                  (try simp only [Act.put, List.setIfInBounds_toArray, List.set_cons_zero, List.set_cons_succ])
                  refine takeP 8 rfl (by kernel_rfl) (by kernel_rfl) (by kernel_rfl) (by kernel_rfl) (fun _ _ _ h => h) rfl (v := ?_) ?_ ?_
                  rotate_left
                  · intro w'; go_simp; (try with_reducible rfl)
                  (try simp only [Act.put, List.setIfInBounds_toArray, List.set_cons_zero, List.set_cons_succ])
                  refine takeP 9 rfl (by kernel_rfl) (by kernel_rfl) (by kernel_rfl) (by kernel_rfl) (fun _ _ _ h => h) rfl (v := ?_) ?_ ?_
                  rotate_left
                  · intro w'; go_simp; (try with_reducible rfl)
                  (try simp only [Act.put, List.setIfInBounds_toArray, List.set_cons_zero, List.set_cons_succ])
                  refine doneL (by kernel_rfl) ?_
                  clear HH
                  go_wp2_with (first
                    | ((with_reducible refine gDst 151 ?_); refine aLoad H _ rfl rfl (part_all HPL.out) HPL.out rfl ?_)
                    | (go_at_call 21; refine (HL2.out bk bd bo bm vw7 ss7 _ (HOLD.suf (D := bankL bk bd bo bm vw7 ss7 7 s7 (uN 32 6)) H.hold)).mono ?_; rintro e w' ⟨rfl, hb⟩; replace H := H.step hb; clear hb)
                    | (go_at_call 15; refine (alive08_any _ (HT.out _ H.below)).mono ?_; rintro e w' ⟨rfl, hb⟩; replace H := H.step hb; clear hb)
                    | ((with_reducible refine gDst 166 ?_); refine stepV (exec_buildL 44 [(0, .const (.bool true)), (1, .const (.bool true))] rfl [(0, .bool true), (1, .bool true)] rfl [.bool true, .bool true] (by kernel_rfl)) rfl ?_)
                    | ((with_reducible refine gDst 167 ?_); refine stepV (exec_eql 44 _ _ _ rfl _ _ rfl rfl b2_guard _ (HTT.out _)) rfl ?_)
                    | ((with_reducible refine gDst 4 ?_); refine aBox H _ rfl rfl rfl ?_; clear H; intro b4 w4 H)
                    | ((with_reducible refine gDst 9 ?_); refine aAlloc H rfl rfl ?_; clear H; intro b9 w9 H)
                    | ((with_reducible refine gDst 12 ?_); refine aAlloc H rfl rfl ?_; clear H; intro b12 w12 H)
                    | ((with_reducible refine gDst 22 ?_); refine aAlloc H rfl rfl ?_; clear H; intro b22 w22 H)
                    | ((with_reducible refine gLoad ?_); first | (refine aLoad1 H _ rfl rfl (by first | exact (rfl : _ = some (Value.int _ _)) | exact (rfl : _ = some (Value.slice _ _ _)) | exact (rfl : _ = some (Value.bool _)) | exact (rfl : _ = some (Value.string _)) | exact (rfl : _ = some (Value.pointer _)) | rfl | (simp [List.getElem?_append]; done)) rfl ?_) | (refine aLoadC _ rfl rfl (by assumption) rfl ?_) | (refine aLoad H _ rfl rfl (by first | exact part_all (by first | rfl | simp []) | (simp only [List.drop_succ_cons, List.drop_zero, List.take_succ_cons, List.take_zero]; rfl) | (simp [List.drop_append, List.take_append]; rfl)) (by first | rfl | simp []) rfl ?_))
                    | ((with_reducible refine gStore ?_); (first | (refine aStore H _ _ rfl rfl rfl (by (first | exact ⟨rfl, rfl⟩ | exact ⟨by decide, rfl⟩ | (simp []; done) | (constructor <;> simp [] <;> omega))) (by first | rfl | simp [List.all_append, one_all]) rfl ?_) | (refine aLay H _ _ rfl rfl rfl (by (first | exact ⟨rfl, rfl⟩ | exact ⟨by decide, rfl⟩ | (simp []; done) | (constructor <;> simp [] <;> omega))) (by first | rfl | simp [List.all_append, one_all]) (by simp only [lay, List.take_succ_cons, List.take_zero, List.drop_succ_cons, List.drop_zero, List.nil_append, List.cons_append, List.length_cons, List.length_nil, Nat.zero_add, Nat.reduceAdd]; rfl) rfl ?_)); clear H; intro w' H; try dsimp only at H))
                  go_ret
                  exact ⟨rfl, H.below⟩
end Go.Proofs.YticfcelbnkiopaaDoor

namespace Go.Proofs.YticfcelbnkiopaaDoor
set_option maxRecDepth 100000
open Go.RowKit Go.ChangeShapes Go.WideShapes

theorem wf_u8 {a : Int} (h : (Lit.int .u8 a).wf = true) : ∃ x : UInt8, a = (x.toNat : Int) := by
  simp [Lit.wf, IntKind.min, IntKind.max, IntKind.bits, IntKind.signed] at h
  refine ⟨UInt8.ofNat a.toNat, ?_⟩
  rw [UInt8.toNat_ofNat']
  omega
theorem wf_u32 {a : Int} (h : (Lit.int .u32 a).wf = true) : ∃ n : Nat, a = (n : Int) ∧ n < 4294967296 := by
  simp [Lit.wf, IntKind.min, IntKind.max, IntKind.bits, IntKind.signed] at h
  exact ⟨a.toNat, by omega, by omega⟩
theorem wf_u64 {a : Int} (h : (Lit.int .u64 a).wf = true) : ∃ n : Nat, a = (n : Int) ∧ n < 18446744073709551616 := by
  simp [Lit.wf, IntKind.min, IntKind.max, IntKind.bits, IntKind.signed] at h
  exact ⟨a.toNat, by omega, by omega⟩
theorem wf_i64 {a : Int} (h : (Lit.int .i64 a).wf = true) : -9223372036854775808 ≤ a ∧ a ≤ 9223372036854775807 := by
  simp [Lit.wf, IntKind.min, IntKind.max, IntKind.bits, IntKind.signed] at h
  omega

/-- A slice of bytes that came in. -/
theorem open_bytes {H : Type} {enc : TypeId × Value → H} {P : Program} {W : World} {base : Nat} {spare : Nat → Bool} {held : Bool} {t e : TypeId} {a : Option Addr} {len cap : Nat} {d : DataW H} {ps : List MemPlace}
    (hu : P.underlying t = some (.slice e)) (he : P.underlying e = some (.int .u8)) (hc : P.cellsOf e = 1)
    (h : DataW.Trod enc P W base spare held t (.slice a len cap) d ps) : ∃ xs : List UInt8, RR (U8 e) W (.slice a len cap) xs := by
  obtain ⟨fuel, hf⟩ := h
  rcases open_ints hu he hc hf with ⟨hcs, _⟩ | ⟨x, l, c, zs, hcs, _, hl, hm, hz, _, hcell, hwz⟩
  · simp [Value.cells] at hcs
    obtain ⟨rfl, rfl, rfl⟩ := hcs
    exact ⟨[], RR.nil W⟩
  · simp [Value.cells] at hcs
    obtain ⟨rfl, rfl, rfl⟩ := hcs
    have hlz : len ≤ zs.length := by
      rw [hz]
      split
      · exact hl
      · exact Nat.le_refl _
    have hz2 : ((zs.take len).map fun n => UInt8.ofNat n.toNat).length = len := by simp; omega
    refine ⟨(zs.take len).map fun n => UInt8.ofNat n.toNat, some x, cap, by rw [hz2], by omega, by simp only [maxLen] at hm; omega, fun _ => ⟨x, rfl, fun j u hj => ?_⟩⟩
    rw [U8_all] at hj
    have hjl : j < len := by have := (List.getElem?_eq_some_iff.1 hj).1; simp at this; omega
    rw [hcell j (by omega), ← hj]
    simp only [List.map_map, List.getElem?_map, List.getElem?_take, hjl, if_true, List.getElem?_eq_getElem (show j < zs.length by omega), Option.map_some, Function.comp_apply, cb, List.getD_eq_getElem?_getD, Option.getD_some]
    obtain ⟨b, hb⟩ := wf_u8 (hwz zs[j] (List.getElem_mem _))
    rw [hb]
    simp
end Go.Proofs.YticfcelbnkiopaaDoor

namespace Go.Proofs.YticfcelbnkiopaaDoor
set_option maxRecDepth 100000
open Go.RowKit Go.ChangeShapes Go.WideShapes

theorem trod_leaf {H : Type} {enc : TypeId × Value → H} {P : Program} {W : World} {base : Nat} {spare : Nat → Bool} {held : Bool} {t : TypeId} {k : IntKind} {cs : List Value} {x : DataW H × List MemPlace} {fuel : Nat}
    (hu : P.underlying t = some (.int k)) (h : DataW.trod enc P W base spare held fuel t cs = some x) : ∃ n, cs = [.int k n] ∧ (Lit.int k n).wf = true := by
  cases fuel with
  | zero => simp [DataW.trod] at h
  | succ fuel =>
    rcases cs with _ | ⟨v, _ | ⟨u, r⟩⟩
    · simp [DataW.trod, hu] at h
    · cases v <;> simp [DataW.trod, hu] at h
      rename_i k' n
      obtain ⟨⟨rfl, h1⟩, _⟩ := h
      exact ⟨n, rfl, h1⟩
    · simp [DataW.trod, hu] at h
theorem mapM_each {β γ : Type} (f : β → Option γ) : ∀ (l : List β) (r : List γ), l.mapM f = some r → ∀ x ∈ l, ∃ y, f x = some y
  | [], _, _, x, hx => by simp at hx
  | b :: l, r, h, x, hx => by
    simp only [List.mapM_cons, Option.bind_eq_bind, Option.pure_def] at h
    cases hb : f b with
    | none => simp [hb] at h
    | some y =>
      cases hl : l.mapM f with
      | none => simp [hb, hl] at h
      | some ys =>
        rcases List.mem_cons.mp hx with rfl | hx
        · exact ⟨y, hb⟩
        · exact mapM_each f l ys hl x hx
/-- A row of m elements, each one of which reads. -/
theorem trod_array {H : Type} {enc : TypeId × Value → H} {P : Program} {W : World} {base : Nat} {spare : Nat → Bool} {held : Bool} {t e : TypeId} {m : Nat} {cs : List Value} {x : DataW H × List MemPlace} {fuel : Nat}
    (hu : P.underlying t = some (.array m e)) (h : DataW.trod enc P W base spare held (fuel + 1) t cs = some x) :
    cs.length = P.cellsOf t ∧ ∀ i, i < m → ∃ y, DataW.trod enc P W base spare held fuel e ((cs.drop (i * P.cellsOf e)).take (P.cellsOf e)) = some y := by
  unfold DataW.trod at h
  rw [hu] at h
  simp only at h
  split at h
  · rename_i hl
    refine ⟨hl, fun i hi => ?_⟩
    cases hm : (List.range m).mapM fun i => DataW.trod enc P W base spare held fuel e ((cs.drop (i * P.cellsOf e)).take (P.cellsOf e)) with
    | none => simp [hm] at h
    | some r => exact mapM_each _ _ _ hm i (by simpa using hi)
  · cases h
theorem trod_fields {H : Type} {enc : TypeId × Value → H} {P : Program} {W : World} {base : Nat} {spare : Nat → Bool} {held : Bool} {t : TypeId} {fs : Array Field} {cs : List Value} {x : DataW H × List MemPlace} {fuel : Nat}
    (hu : P.underlying t = some (.struct fs)) (h : DataW.trod enc P W base spare held (fuel + 1) t cs = some x) :
    cs.length = P.cellsOf t ∧ ∀ f ∈ fs.toList, ∃ y, DataW.trod enc P W base spare held fuel f.type ((cs.drop f.offset).take (P.cellsOf f.type)) = some y := by
  unfold DataW.trod at h
  rw [hu] at h
  simp only at h
  split at h
  · rename_i hl
    refine ⟨hl, fun f hf => ?_⟩
    cases hm : fs.toList.mapM fun f => DataW.trod enc P W base spare held fuel f.type ((cs.drop f.offset).take (P.cellsOf f.type)) with
    | none => simp [hm] at h
    | some r => exact mapM_each _ _ _ hm f hf
  · cases h

/-- A list, each cell of which is told. -/
theorem list_of {α : Type} (f : α → Value) (cs : List Value) (h : ∀ i, i < cs.length → ∃ x, cs[i]? = some (f x)) : ∃ l : List α, l.length = cs.length ∧ cs = l.map f := by
  induction cs with
  | nil => exact ⟨[], rfl, rfl⟩
  | cons c cs ih =>
    obtain ⟨x, hx⟩ := h 0 (by simp)
    obtain ⟨l, hl, he⟩ := ih (fun i hi => by
      obtain ⟨y, hy⟩ := h (i + 1) (by simpa using hi)
      exact ⟨y, by simpa using hy⟩)
    refine ⟨x :: l, by simp [hl], ?_⟩
    rw [List.map_cons, ← he]
    simp at hx
    rw [hx]
theorem wf_u32' {a : Int} (h : (Lit.int .u32 a).wf = true) : ∃ x : UInt32, a = (x.toNat : Int) := by
  obtain ⟨n, rfl, hn⟩ := wf_u32 h
  exact ⟨UInt32.ofNat n, by rw [UInt32.toNat_ofNat', Nat.mod_eq_of_lt hn]⟩
theorem take_one {cs : List Value} {i : Nat} {v : Value} (h : (cs.drop i).take 1 = [v]) : cs[i]? = some v := by
  have := congrArg (fun l => l[0]?) h
  simp only [List.getElem?_take, List.getElem?_drop, Nat.add_zero] at this
  simpa using this

theorem open_pt {H : Type} {enc : TypeId × Value → H} {W : World} {base : Nat} {spare : Nat → Bool} {held : Bool} {cs : List Value} {x : DataW H × List MemPlace} {fuel : Nat}
    (h : DataW.trod enc Tryd.prog W base spare held fuel 33 cs = some x) : ∃ p : PT, cs = p.cells := by
  cases fuel with
  | zero => simp [DataW.trod] at h
  | succ fuel =>
    have hc35 : Tryd.prog.cellsOf 33 = 35 := by kernel_rfl
    have hc32 : Tryd.prog.cellsOf 29 = 32 := by kernel_rfl
    have hc2 : Tryd.prog.cellsOf 31 = 2 := by kernel_rfl
    have hc1 : Tryd.prog.cellsOf 5 = 1 := by kernel_rfl
    have hc4 : Tryd.prog.cellsOf 30 = 1 := by kernel_rfl
    obtain ⟨hl, hf⟩ := trod_fields Tryd.underlying33 h
    rw [hc35] at hl
    simp only [List.mem_cons, List.not_mem_nil, or_false, forall_eq_or_imp, forall_eq] at hf
    obtain ⟨⟨y0, h0⟩, ⟨y1, h1⟩, ⟨y2, h2⟩⟩ := hf
    rw [hc32, List.drop_zero] at h0
    rw [hc4] at h1
    rw [hc2] at h2
    cases fuel with
    | zero => simp [DataW.trod] at h0
    | succ fuel =>
      obtain ⟨hl0, ha0⟩ := trod_array Tryd.underlying29 h0
      obtain ⟨hl2, ha2⟩ := trod_array Tryd.underlying31 h2
      obtain ⟨nb, eb, wb⟩ := trod_leaf Tryd.underlying30 h1
      obtain ⟨b, rfl⟩ := wf_u32' wb
      have hu8 : ∀ i, i < 32 → ∃ x : UInt8, (cs.take 32)[i]? = some (cb x) := fun i hi => by
        obtain ⟨y, hy⟩ := ha0 i hi
        rw [hc1] at hy
        obtain ⟨n, en, wn⟩ := trod_leaf Tryd.underlying5 hy
        obtain ⟨z, rfl⟩ := wf_u8 wn
        rw [Nat.mul_one] at en
        exact ⟨z, take_one en⟩
      have hu32 : ∀ i, i < 2 → ∃ x : UInt32, ((cs.drop 33).take 2)[i]? = some (u32 x) := fun i hi => by
        obtain ⟨y, hy⟩ := ha2 i hi
        rw [hc4] at hy
        obtain ⟨n, en, wn⟩ := trod_leaf Tryd.underlying30 hy
        obtain ⟨z, rfl⟩ := wf_u32' wn
        rw [Nat.mul_one] at en
        exact ⟨z, take_one en⟩
      have hlt : (cs.take 32).length = 32 := by rw [List.length_take]; omega
      obtain ⟨hh, hhl, hhe⟩ := list_of cb (cs.take 32) (fun i hi => hu8 i (by omega))
      obtain ⟨z0, hz0⟩ := hu32 0 (by omega)
      obtain ⟨z1, hz1⟩ := hu32 1 (by omega)
      refine ⟨⟨hh, by rw [hhl, hlt], b, z0, z1⟩, ?_⟩
      have e1 := take_one eb
      rw [List.getElem?_take, List.getElem?_drop] at hz0 hz1
      simp only [Nat.add_zero, Nat.reduceAdd] at hz0 hz1
      rw [if_pos (by omega)] at hz0 hz1
      obtain ⟨k0, g0⟩ := List.getElem?_eq_some_iff.1 e1
      obtain ⟨k1, g1⟩ := List.getElem?_eq_some_iff.1 hz0
      obtain ⟨k2, g2⟩ := List.getElem?_eq_some_iff.1 hz1
      have hd : cs.drop 32 = [u32 b, u32 z0, u32 z1] := by
        rw [List.drop_eq_getElem_cons k0, List.drop_eq_getElem_cons k1, List.drop_eq_getElem_cons k2, g0, g1, g2, List.drop_of_length_le (by omega)]
        rfl
      unfold PT.cells
      rw [← hhe, ← hd, List.take_append_drop]

theorem open_ptr {H : Type} {enc : TypeId × Value → H} {W : World} {base : Nat} {spare : Nat → Bool} {held : Bool} {v : Value} {d : DataW H} {ps : List MemPlace} {r : Reach} {b2 : Nat} {W2 : World}
    (h : DataW.Trod enc Tryd.prog W base spare held 33 v d ps) (hv : Value.okWide Tryd.prog W2 r b2 33 v) : ∃ p : PT, v = p.val := by
  obtain ⟨cs, rfl, _⟩ := okWide_struct Tryd.underlying33 hv
  obtain ⟨fuel, hf⟩ := h
  obtain ⟨p, hp⟩ := open_pt hf
  refine ⟨p, ?_⟩
  unfold PT.val
  rw [← hp]
  simp [Value.cells]

theorem open_pts : ∀ (n : Nat) (cs : List Value), cs.length = n * 35 → (∀ i, i < n → ∃ p : PT, (cs.drop (i * 35)).take 35 = p.cells) → ∃ l : List PT, l.length = n ∧ cs = l.flatMap PT.cells
  | 0, cs, hl, _ => ⟨[], rfl, by simpa using List.length_eq_zero_iff.mp (by omega)⟩
  | n + 1, cs, hl, h => by
    obtain ⟨p, hp⟩ := h 0 (by omega)
    obtain ⟨l, h1, h2⟩ := open_pts n (cs.drop 35) (by rw [List.length_drop]; omega) (fun i hi => by
      obtain ⟨q, hq⟩ := h (i + 1) (by omega)
      exact ⟨q, by rw [List.drop_drop, ← hq]; congr 2; omega⟩)
    refine ⟨p :: l, by simp [h1], ?_⟩
    rw [List.flatMap_cons, ← hp, ← h2]
    simp
theorem open_ptr4 {H : Type} {enc : TypeId × Value → H} {W : World} {base : Nat} {spare : Nat → Bool} {held : Bool} {v : Value} {d : DataW H} {ps : List MemPlace} {r : Reach} {b2 : Nat} {W2 : World}
    (h : DataW.Trod enc Tryd.prog W base spare held 188 v d ps) (hv : Value.okWide Tryd.prog W2 r b2 188 v) : ∃ l : PL, v = l.val := by
  have hw : ∃ cs, v = .agg cs := by
    simp only [Value.okWide, Tryd.underlying188] at hv
    obtain ⟨cs, h1, _⟩ := hv
    exact ⟨cs, h1⟩
  obtain ⟨cs, rfl⟩ := hw
  obtain ⟨fuel, hf⟩ := h
  cases fuel with
  | zero => simp [DataW.trod] at hf
  | succ fuel =>
    have hc : Tryd.prog.cellsOf 188 = 140 := by kernel_rfl
    have hc35 : Tryd.prog.cellsOf 33 = 35 := by kernel_rfl
    obtain ⟨hl, ha⟩ := trod_array Tryd.underlying188 hf
    rw [hc] at hl
    obtain ⟨l, h1, h2⟩ := open_pts 4 (Value.agg cs).cells.toList (by rw [hl]) (fun i hi => by
      obtain ⟨y, hy⟩ := ha i hi
      rw [hc35] at hy
      exact open_pt hy)
    refine ⟨⟨l, h1⟩, ?_⟩
    unfold PL.val PL.cells
    rw [← h2]
    simp [Value.cells]
end Go.Proofs.YticfcelbnkiopaaDoor

namespace Go.Proofs.YticfcelbnkiopaaDoor
set_option maxRecDepth 100000
open Go.RowKit Go.ChangeShapes Go.WideShapes

set_option linter.unusedSimpArgs false
set_option linter.unusedVariables false
theorem addr_addadd (a : Addr) (i j : Nat) : (a.add i).add j = a.add (i + j) := by
  unfold Addr.add
  by_cases h1 : i = 0
  · subst h1; simp
  · by_cases h2 : j = 0
    · subst h2; simp
    · simp [h1, h2, Nat.add_assoc]
/-- A slice of any elements. -/
theorem open_row {α : Type} {H : Type} {enc : TypeId × Value → H} {P : Program} {W : World} {base : Nat} {spare : Nat → Bool} {held : Bool} {t : TypeId} {cs : List Value} {x : DataW H × List MemPlace} {fuel : Nat}
    (T : Ty α) (R : α → Prop) (e : TypeId) (hu : P.underlying t = some (.slice e)) (hsz : P.cellsOf e = T.sz)
    (hel : ∀ (n : Nat) (ecs : List Value) (y : DataW H × List MemPlace), DataW.trod enc P W base spare held n e ecs = some y → ∃ x : α, ecs = T.enc x ∧ R x)
    (h : DataW.trod enc P W base spare held fuel t cs = some x) : ∃ (A : Option Addr) (xs : List α) (cap : Nat), cs = [.slice A xs.length cap] ∧ RR T W (.slice A xs.length cap) xs ∧ xs.length ≤ cap ∧ cap ≤ 9223372036854775807 ∧ ∀ x ∈ xs, R x := by
  rcases DataW.trod_slice hu h with ⟨rfl, -⟩ | ⟨a, len, cap, elems, rest, n, rfl, rfl, -, hb, hl, hm, hlen, hel2, -, -⟩
  · exact ⟨none, [], 0, rfl, RR.nil W, by simp, by simp, by simp⟩
  · have hm' : cap ≤ 9223372036854775807 := by simpa [maxLen] using hm
    have each : ∀ i, i < len → ∃ x : α, R x ∧ ∀ j u, (T.enc x)[j]? = some u → W.cell? (a.add (i * T.sz + j)) = some u := fun i hi => by
      have h1 := hel2 i hi
      rw [List.getElem?_eq_getElem (by omega)] at h1
      obtain ⟨ecs, h2, h3⟩ := Option.bind_eq_some_iff.1 h1
      obtain ⟨x, rfl, hx⟩ := hel n ecs _ h3
      refine ⟨x, hx, fun j u hj => ?_⟩
      have h4 := (World.cells?_some h2).2.2 j
      rw [hsz] at h4
      have hjl : j < T.sz := by have := (List.getElem?_eq_some_iff.1 hj).1; rwa [T.hlen] at this
      have := h4 hjl
      rw [addr_addadd] at this
      rw [this]; exact hj
    have build : ∀ k, k ≤ len → ∃ xs : List α, xs.length = k ∧ (∀ x ∈ xs, R x) ∧ ∀ j u, (T.all xs)[j]? = some u → W.cell? (a.add j) = some u := fun k => by
      induction k with
      | zero => exact fun _ => ⟨[], rfl, by simp, fun j u hj => by simp [Ty.all] at hj⟩
      | succ k ih =>
        intro hk
        obtain ⟨xs, h1, h2, h3⟩ := ih (by omega)
        obtain ⟨x, hx, hc⟩ := each k (by omega)
        refine ⟨xs ++ [x], by rw [List.length_append, h1]; rfl, fun y hy => ?_, fun j u hj => ?_⟩
        · rcases List.mem_append.1 hy with hy | hy
          · exact h2 y hy
          · rw [List.mem_singleton.1 hy]; exact hx
        · rw [Ty.all_append] at hj
          by_cases hjl : j < (T.all xs).length
          · rw [List.getElem?_append_left hjl] at hj
            exact h3 j u hj
          · rw [List.getElem?_append_right (by omega)] at hj
            have hal : (T.all xs).length = k * T.sz := by rw [Ty.all_length, h1]
            have e1 : T.all [x] = T.enc x := by simp [Ty.all]
            rw [e1, hal] at hj
            have := hc _ u hj
            rwa [show k * T.sz + (j - k * T.sz) = j by omega] at this
    obtain ⟨xs, h1, h2, h3⟩ := build len (Nat.le_refl _)
    subst h1
    exact ⟨some a, xs, cap, rfl, ⟨_, _, rfl, hl, by omega, fun _ => ⟨a, rfl, h3⟩⟩, hl, hm', h2⟩
/-- Bytes. -/
theorem open_u8s {H : Type} {enc : TypeId × Value → H} {W : World} {base : Nat} {spare : Nat → Bool} {held : Bool} {cs : List Value} {x : DataW H × List MemPlace} {fuel : Nat}
    (h : DataW.trod enc Tryd.prog W base spare held fuel 22 cs = some x) : ∃ (A : Option Addr) (xs : List UInt8) (cap : Nat), cs = [.slice A xs.length cap] ∧ RB W (.slice A xs.length cap) xs ∧ xs.length ≤ cap ∧ cap ≤ 9223372036854775807 := by
  obtain ⟨A, xs, cap, h1, h2, h3, h4, -⟩ := open_row B8 (fun _ => True) 5 Tryd.underlying22 (by kernel_rfl) (fun n ecs y hy => by
    obtain ⟨n', en, wn⟩ := trod_leaf Tryd.underlying5 hy
    obtain ⟨z, rfl⟩ := wf_u8 wn
    exact ⟨z, en, trivial⟩) h
  exact ⟨A, xs, cap, h1, h2, h3, h4⟩
/-- A truth. -/
theorem trod_bool {H : Type} {enc : TypeId × Value → H} {P : Program} {W : World} {base : Nat} {spare : Nat → Bool} {held : Bool} {t : TypeId} {cs : List Value} {x : DataW H × List MemPlace} {fuel : Nat}
    (hu : P.underlying t = some .bool) (h : DataW.trod enc P W base spare held fuel t cs = some x) : ∃ b, cs = [.bool b] := by
  cases fuel with
  | zero => simp [DataW.trod] at h
  | succ fuel =>
    rcases cs with _ | ⟨v, _ | ⟨u, r⟩⟩
    · simp [DataW.trod, hu] at h
    · cases v <;> simp [DataW.trod, hu] at h
      exact ⟨_, rfl⟩
    · simp [DataW.trod, hu] at h
/-- A text. -/
theorem trod_str {H : Type} {enc : TypeId × Value → H} {P : Program} {W : World} {base : Nat} {spare : Nat → Bool} {held : Bool} {t : TypeId} {cs : List Value} {x : DataW H × List MemPlace} {fuel : Nat}
    (hu : P.underlying t = some .string) (h : DataW.trod enc P W base spare held fuel t cs = some x) : ∃ xs : List UInt8, cs = [.string (str xs)] ∧ xs.length ≤ 9223372036854775807 := by
  cases fuel with
  | zero => simp [DataW.trod] at h
  | succ fuel =>
    rcases cs with _ | ⟨v, _ | ⟨u, r⟩⟩
    · simp [DataW.trod, hu] at h
    · cases v <;> simp [DataW.trod, hu] at h
      rename_i s
      refine ⟨s.data.toList, ?_, ?_⟩
      · first | rfl | simp [str]
      · have := h.1
        simpa [maxLen] using this
    · simp [DataW.trod, hu] at h
end Go.Proofs.YticfcelbnkiopaaDoor

namespace Go.Proofs.YticfcelbnkiopaaDoor
set_option maxRecDepth 100000
open Go.RowKit Go.ChangeShapes Go.WideShapes

set_option linter.unusedSimpArgs false
set_option linter.unusedVariables false
theorem open_bb {H : Type} {enc : TypeId × Value → H} {W : World} {base : Nat} {spare : Nat → Bool} {held : Bool} {v : Value} {d : DataW H} {ps : List MemPlace} {r : Reach} {b2 : Nat} {W2 : World}
    (h : DataW.Trod enc Tryd.prog W base spare held 41 v d ps) (hv : Value.okWide Tryd.prog W2 r b2 41 v) : ∃ (v1 v2 : Value) (s1 s2 : List UInt8), v = .agg #[v1, v2] ∧ RB W v1 s1 ∧ RB W v2 s2 := by
  have hw : ∃ cs, v = .agg cs := by
    simp only [Value.okWide, Tryd.underlying41] at hv
    obtain ⟨cs, h1, _⟩ := hv
    exact ⟨cs, h1⟩
  obtain ⟨cs, rfl⟩ := hw
  obtain ⟨fuel, hf⟩ := h
  cases fuel with
  | zero => simp [DataW.trod] at hf
  | succ fuel =>
    have hc : Tryd.prog.cellsOf 41 = 2 := by kernel_rfl
    have hc1 : Tryd.prog.cellsOf 22 = 1 := by kernel_rfl
    obtain ⟨hl, ha⟩ := trod_array Tryd.underlying41 hf
    rw [hc] at hl
    obtain ⟨y0, h0⟩ := ha 0 (by omega)
    obtain ⟨y1, h1⟩ := ha 1 (by omega)
    rw [hc1] at h0 h1
    obtain ⟨A1, s1, c1, e1, r1, -, -⟩ := open_u8s h0
    obtain ⟨A2, s2, c2, e2, r2, -, -⟩ := open_u8s h1
    refine ⟨_, _, s1, s2, ?_, r1, r2⟩
    have g1 := take_one e1
    have g2 := take_one e2
    have hcs : (Value.agg cs).cells.toList = cs.toList := by simp [Value.cells]
    rw [hcs] at g1 g2 hl
    rcases hq : cs.toList with _ | ⟨a, _ | ⟨b, _ | ⟨c, l⟩⟩⟩
    · rw [hq] at hl; simp at hl
    · rw [hq] at hl; simp at hl
    · rw [hq] at g1 g2
      simp at g1 g2
      have : cs = cs.toList.toArray := by simp
      rw [this, hq, g1, g2]
    · rw [hq] at hl; simp at hl
end Go.Proofs.YticfcelbnkiopaaDoor

namespace Go.Proofs.YticfcelbnkiopaaDoor
set_option maxRecDepth 100000
open Go.RowKit
set_option linter.unusedSimpArgs false
set_option linter.unusedVariables false

theorem mapM_get {β γ : Type} (f : β → Option γ) : ∀ (l : List β) (r : List γ), l.mapM f = some r → ∀ i (hi : i < l.length), ∃ y, r[i]? = some y ∧ f l[i] = some y
  | [], _, _, i, hi => by simp at hi
  | b :: l, r, h, i, hi => by
    simp only [List.mapM_cons, Option.bind_eq_bind, Option.pure_def] at h
    cases hb : f b with
    | none => simp [hb] at h
    | some c =>
      cases hl : l.mapM f with
      | none => simp [hb, hl] at h
      | some r' =>
        simp [hb, hl] at h
        subst h
        cases i with
        | zero => exact ⟨c, rfl, hb⟩
        | succ i => exact mapM_get f l r' hl i (by simpa using hi)
theorem trod_agg {H : Type} {enc : TypeId × Value → H} {P : Program} {W : World} {base : Nat} {spare : Nat → Bool} {held : Bool} {t e : TypeId} {m : Nat} {cs : List Value} {x : DataW H × List MemPlace} {fuel : Nat}
    (hu : P.underlying t = some (.array m e)) (h : DataW.trod enc P W base spare held (fuel + 1) t cs = some x) :
    ∃ ys, ((List.range m).mapM fun i => DataW.trod enc P W base spare held fuel e ((cs.drop (i * P.cellsOf e)).take (P.cellsOf e))) = some ys ∧ x.1 = .agg (ys.map (·.1)) := by
  unfold DataW.trod at h
  rw [hu] at h
  simp only at h
  split at h
  · cases hm : (List.range m).mapM fun i => DataW.trod enc P W base spare held fuel e ((cs.drop (i * P.cellsOf e)).take (P.cellsOf e)) with
    | none => simp [hm] at h
    | some r =>
      simp [hm] at h
      subst h
      exact ⟨r, rfl, rfl⟩
  · cases h
theorem trod_leafL {H : Type} {enc : TypeId × Value → H} {P : Program} {W : World} {base : Nat} {spare : Nat → Bool} {held : Bool} {t : TypeId} {k : IntKind} {cs : List Value} {x : DataW H × List MemPlace} {fuel : Nat}
    (hu : P.underlying t = some (.int k)) (h : DataW.trod enc P W base spare held fuel t cs = some x) : ∃ n, cs = [.int k n] ∧ x.1 = .lit (.int k n) := by
  cases fuel with
  | zero => simp [DataW.trod] at h
  | succ fuel =>
    rcases cs with _ | ⟨v, _ | ⟨u, r⟩⟩
    · simp [DataW.trod, hu] at h
    · cases v <;> simp [DataW.trod, hu] at h
      rename_i k' n
      obtain ⟨⟨rfl, h1⟩, h2⟩ := h
      exact ⟨n, rfl, by rw [← h2]⟩
    · simp [DataW.trod, hu] at h
theorem tab_lits : Rows.laid_math_bits_deBruijn64tab (H := Unit) = .agg (tabL.map fun n => .lit (.int .u8 ((n : Nat) : Int))) := by rfl
theorem open_tab {W : World} (h : laidMetH Tryd.prog [("math/bits.deBruijn64tab", Rows.laid_math_bits_deBruijn64tab)] W) : TabAt W := by
  rw [MakeChecks.laidMetH_plain _ _ _ (by kernel_rfl)] at h
  obtain ⟨ps, ⟨g, t, cs, fuel, p, q, hg, ht, hv, htr, -, -⟩, -, -⟩ := h
  obtain rfl : 0 = g := Option.some.inj ((show Tryd.prog.globalNamed "math/bits.deBruijn64tab" = some 0 by kernel_rfl).symm.trans hg)
  obtain rfl : 220 = t := Option.some.inj ((show (Tryd.prog.globals[0]?).map (·.type) = some 220 by kernel_rfl).symm.trans ht)
  rw [tab_lits] at htr
  rw [World.var?, hg, Option.bind_some] at hv
  cases fuel with
  | zero => simp [DataW.trod] at htr
  | succ fuel =>
    obtain ⟨ys, hm, hy⟩ := trod_agg Tryd.underlying220 htr
    have hy2 : (tabL.map fun n => (.lit (.int .u8 ((n : Nat) : Int)) : DataW Unit)) = ys.map (·.1) := by injection hy
    intro r hr
    obtain ⟨y, h1, h2⟩ := mapM_get _ _ _ hm r (by simpa using hr)
    obtain ⟨n, h3, h4⟩ := trod_leafL Tryd.underlying5 h2
    have h5 : (ys.map (·.1))[r]? = some (.lit (.int .u8 n)) := by rw [List.getElem?_map, h1, ← h4]; rfl
    rw [← hy2, List.getElem?_map] at h5
    have hlt : r < tabL.length := hr
    rw [List.getElem?_eq_getElem hlt] at h5
    injection h5 with h5
    injection h5 with h5
    injection h5 with _ h5
    have hc1 : Tryd.prog.cellsOf 5 = 1 := by kernel_rfl
    rw [hc1, Nat.mul_one, List.getElem_range] at h3
    have h6 : cs.toList[r]? = some (.int .u8 n) := by
      have := congrArg (·[0]?) h3
      rw [List.getElem?_take_of_lt (by omega), List.getElem?_drop] at this
      exact this
    have e : tabL.getD r 0 = tabL[r] := by rw [List.getD_eq_getElem?_getD, List.getElem?_eq_getElem hlt]; rfl
    rw [e, h5]
    split at hv
    · rename_i cs' _ _ hh
      injection hv with hv
      subst hv
      simp only [World.cell?, hh]
      simpa using h6
    · cases hv
end Go.Proofs.YticfcelbnkiopaaDoor

namespace Go.Proofs.YticfcelbnkiopaaDoor
set_option maxRecDepth 100000
open Go.RowKit
set_option linter.unusedSimpArgs false
set_option linter.unusedVariables false

def DS.crash0 (st : DS) : DS := { st with ws := [], lets := -1, off := false }
set_option maxHeartbeats 3200000 in
theorem diskCrash0 (bd bo n : Nat) (vw : Value) (ss : List SVV) (st : DS) (hs : st.ok n) (w : World) (hD : SH (feet (diskL bd bo vw ss st)) w w (diskL bd bo vw ss st)) :
    Calls Tryd.prog 51 #[.pointer (some ⟨bd, 0, none⟩), .slice none 0 0] w fun e w' => e = .returned (.tuple #[]) ∧ SH (feet (diskL bd bo vw ss st)) w w' (diskL bd bo (.slice none 0 0) [] st.crash0) := by
  obtain ⟨F, hF⟩ : ∃ F, F = feet (diskL bd bo vw ss st) := ⟨_, rfl⟩
  rw [← hF] at hD ⊢
  have H := hD
  have hlb : LB w ss (st.ws.map (·.2)) := by
    have h : (Own.rdAll ss (st.ws.map fun x : Nat × List UInt8 => x.2)).holds w := hD.holds _ (by simp [diskL])
    exact h
  have hsl : ss.length = st.ws.length := by rw [hlb.1, List.length_map]
  obtain ⟨m, hm⟩ : ∃ m, m = (st.pairs ss).length := ⟨_, rfl⟩
  have hmw : m = st.ws.length := by rw [hm, DS.pairs_len hsl]
  obtain ⟨A, cp, rfl, -⟩ : ∃ A c, vw = .slice A (st.pairs ss).length c ∧ _ := by
    unfold diskL at H
    exact (H.hold.rr vw).len
  rw [← hm] at H
  have HS := Lib.hid hs
  have HSL := Lib.hid hsl
  have HM := Lib.hid hm
  have HMW := Lib.hid hmw
  have hml : m ≤ 1000000 := by have := hs.wl; omega
  have hn2 := hs.n2
  have HC0 := Lib.hid (fun (W : World) (vs : List Value) (h : VA W bd 142 (.slice (some ⟨bo, 0, none⟩) st.on.length st.on.length :: vs)) => (show W.cell? ⟨bd, 0, none⟩ = some (.slice (some ⟨bo, 0, none⟩) (n * 256) (n * 256)) by rw [h.cell 0, hs.ol]; rfl))
  clear hD hF hlb hsl hm hmw hs
  unfold diskL at H
  go_enter Tryd.func51, Tryd.ntmps51
  go_wp2_with (first
    | ((with_reducible refine gDst 5 ?_); refine aAlloc H rfl rfl ?_; clear H; intro b5 w5 H)
    | ((with_reducible refine gLoad ?_); first | (refine aLoad1 H _ rfl rfl (by first | exact (rfl : _ = some (Value.int _ _)) | exact (rfl : _ = some (Value.slice _ _ _)) | exact (rfl : _ = some (Value.bool _)) | exact (rfl : _ = some (Value.string _)) | exact (rfl : _ = some (Value.pointer _)) | rfl | (simp [List.getElem?_append]; done)) rfl ?_) | (refine aLoadC _ rfl rfl (by assumption) rfl ?_) | (refine aLoad H _ rfl rfl (by first | exact part_all (by first | rfl | simp []) | (simp only [List.drop_succ_cons, List.drop_zero, List.take_succ_cons, List.take_zero]; rfl) | (simp [List.drop_append, List.take_append]; rfl)) (by first | rfl | simp []) rfl ?_))
    | ((with_reducible refine gStore ?_); (first | (refine aCell H _ _ rfl rfl (by first | exact (rfl : _ = Value.int _ _) | exact (rfl : _ = Value.bool _) | exact (rfl : _ = Value.slice _ _ _) | exact (rfl : _ = Value.string _) | exact (rfl : _ = Value.pointer _) | exact (rfl : _ = Value.func _ _ _) | rfl) (by rfl) (by rfl) (by first | exact of_decide_eq_true rfl | (simp []; done) | (simp []; omega)) (by first | (simp only [List.set_cons_zero, List.set_cons_succ]; rfl) | (simp [List.set_append]; rfl)) rfl ?_) | (refine aStore H _ _ rfl rfl rfl (by (first | exact ⟨rfl, rfl⟩ | exact ⟨by decide, rfl⟩ | (simp []; done) | (constructor <;> simp [] <;> omega))) (by first | rfl | simp [List.all_append, one_all]) rfl ?_) | (refine aLay H _ _ rfl rfl rfl (by (first | exact ⟨rfl, rfl⟩ | exact ⟨by decide, rfl⟩ | (simp []; done) | (constructor <;> simp [] <;> omega))) (by first | rfl | simp [List.all_append, one_all]) (by simp only [lay, List.take_succ_cons, List.take_zero, List.drop_succ_cons, List.drop_zero, List.nil_append, List.cons_append, List.length_cons, List.length_nil, Nat.zero_add, Nat.reduceAdd]; rfl) rfl ?_)); clear H; intro w' H; try dsimp only at H))
  go_loopw [14] (fun v14 wr => ∃ k : Nat, v14 = .int .i64 (k : Int) ∧ k ≤ m ∧ SH F w wr [.blk bd 142 [.slice (some ⟨bo, 0, none⟩) st.on.length st.on.length, .slice A m cp, .int .i64 st.lets, .bool st.off], .blk bo 5 (st.on.map cb), .row WT (.slice A m cp) (st.pairs ss), .rdAll ss (st.ws.map (·.2))]) (fun v _ => m - (intOf v).toNat)
  case atStart => exact ⟨0, rfl, by omega, H⟩
  case round =>
    obtain ⟨k, rfl, hk, H0⟩ := hrel
    clear H
    have H := H0
    clear H0
    by_cases hkm : k < m
    · have hki : (k : Int) < (m : Int) := by omega
      have hk0 : ((k : Int) < 0) = False := eq_false (by omega)
      have hkw : k < st.ws.length := by rw [← HMW.out]; exact hkm
      have hget := DS.pairs_get HSL.out k hkw
      obtain ⟨hw1, hw2⟩ := HS.out.ws k hkw
      have hnm : (st.ws.map (·.2)).getD k [] = (st.ws.getD k (0, [])).2 := by
        rw [List.getD_eq_getElem?_getD, List.getElem?_map, List.getD_eq_getElem?_getD]
        cases st.ws[k]? <;> rfl
      have hrbs : ∀ W, LB W ss (st.ws.map (·.2)) → RB W (ss.getD k sv0).val (st.ws.getD k (0, [])).2 := fun W h => by
        have := h.2 k (by rw [List.length_map]; exact hkw)
        rw [hnm] at this
        exact this
      have hrr := H.hold.rr (.slice A m cp)
      obtain ⟨ad, rfl, hcell⟩ := hrr.at_ k (by rw [← HM.out]; exact hkm)
      have hpk : (st.pairs ss)[k]'(by rw [← HM.out]; exact hkm) = (st.pairs ss).getD k wv0 := by rw [List.getD_eq_getElem?_getD, List.getElem?_eq_getElem (by rw [← HM.out]; exact hkm)]; rfl
      rw [hpk, hget] at hcell
      have h0 := hrbs wr (H.at_ 3 rfl)
      generalize ss.getD k sv0 = sv at *
      obtain ⟨As, ns, cs⟩ := sv
      obtain ⟨_, _, hsv, hcs⟩ := h0.len
      rw [hw2] at hsv
      obtain ⟨rfl, rfl, rfl⟩ : As = _ ∧ ns = 256 ∧ cs = _ := by injection hsv with e1 e2 e3; exact ⟨e1, e2, e3⟩
      obtain ⟨ads, rfl, -⟩ := RB.at0 (A := As) (n := 256) (c := cs) h0 (by omega)
      have hcs2 : 256 ≤ cs := by omega
      generalize (st.ws.getD k (0, [])).2 = bs at *
      generalize (st.ws.getD k (0, [])).1 = at_ at *
      have HCELL := Lib.hid (fun (j : Nat) (v : Value) (h : (WT.enc (((at_ : Int)), (some ads, 256, cs)))[j]? = some v) => (show wr.cell? ((ad.add (k * 2)).add j) = some v by
        rw [← hcell j v h]
        congr 1
        show (ad.add (k * 2)).add j = ad.add (k * 2 + j)
        unfold Addr.add
        by_cases h1 : k * 2 = 0 <;> by_cases h2 : j = 0 <;> simp [h1, h2, Nat.add_assoc]))
      have HFIT := Lib.hid (show at_ * 256 + ([] : List UInt8).length ≤ (st.on.map cb).length by rw [List.length_map, HS.out.ol]; show at_ * 256 + 0 ≤ _; omega)
      have HLAY := Lib.hid (show lay (st.on.map cb) (at_ * 256) (([] : List UInt8).map cb) = st.on.map cb by rw [lay]; simp)
      have hat : (at_ : Int) < 1000 := by omega
      clear hcell hrbs hpk hget hnm hsv hcs h0 hrr hkw hw2
      go_wp2_with (first
        | ((with_reducible refine gDst 18 ?_); refine stepV (exec_loadA 144 _ rfl (ad.add (k * 2)) rfl (WT.enc ((at_ : Int), (some ads, 256, cs))) _ (fun j v h => HCELL.out j v h) Tryd.underlying144 rfl (by kernel_rfl)) rfl ?_)
        | ((with_reducible refine gSto (.tmp 5) (.tmp 18) ?_); refine aStore (vs := [.int .i64 (at_ : Int), .slice (some ads) 256 cs]) H _ _ rfl rfl rfl ⟨by rfl, by rfl⟩ (by rfl) rfl ?_; clear H; intro w' H; (try dsimp only at H))
        | ((with_reducible refine gDst 5 ?_); refine aAlloc H rfl rfl ?_; clear H; intro b5 w5 H)
        | ((with_reducible refine gLoad ?_); first | (refine aLoad1 H _ rfl rfl (by first | exact (rfl : _ = some (Value.int _ _)) | exact (rfl : _ = some (Value.slice _ _ _)) | exact (rfl : _ = some (Value.bool _)) | exact (rfl : _ = some (Value.string _)) | exact (rfl : _ = some (Value.pointer _)) | rfl | (simp [List.getElem?_append]; done)) rfl ?_) | (refine aLoadC _ rfl rfl (by assumption) rfl ?_) | (refine aLoad H _ rfl rfl (by first | exact part_all (by first | rfl | simp []) | (simp only [List.drop_succ_cons, List.drop_zero, List.take_succ_cons, List.take_zero]; rfl) | (simp [List.drop_append, List.take_append]; rfl)) (by first | rfl | simp []) rfl ?_))
        | ((with_reducible refine gStore ?_); (first | (refine aCell H _ _ rfl rfl (by first | exact (rfl : _ = Value.int _ _) | exact (rfl : _ = Value.bool _) | exact (rfl : _ = Value.slice _ _ _) | exact (rfl : _ = Value.string _) | exact (rfl : _ = Value.pointer _) | exact (rfl : _ = Value.func _ _ _) | rfl) (by rfl) (by rfl) (by first | exact of_decide_eq_true rfl | (simp []; done) | (simp []; omega)) (by first | (simp only [List.set_cons_zero, List.set_cons_succ]; rfl) | (simp [List.set_append]; rfl)) rfl ?_) | (refine aStore H _ _ rfl rfl rfl (by (first | exact ⟨rfl, rfl⟩ | exact ⟨by decide, rfl⟩ | (simp []; done) | (constructor <;> simp [] <;> omega))) (by first | rfl | simp [List.all_append, one_all]) rfl ?_) | (refine aLay H _ _ rfl rfl rfl (by (first | exact ⟨rfl, rfl⟩ | exact ⟨by decide, rfl⟩ | (simp []; done) | (constructor <;> simp [] <;> omega))) (by first | rfl | simp [List.all_append, one_all]) (by simp only [lay, List.take_succ_cons, List.take_zero, List.drop_succ_cons, List.drop_zero, List.nil_append, List.cons_append, List.length_cons, List.length_nil, Nat.zero_add, Nat.reduceAdd]; rfl) rfl ?_)); clear H; intro w' H; try dsimp only at H))
      refine startA (fun i => i == 8) (by kernel_rfl) (fun wS hS => ?_)
      replace H := H.drew
      rw [← hS] at H
      have HH := H.hold
      have HS0 : Below wS.heap.size wS wS := Below.refl _ _
      clear hS
      refine takeP 0 rfl (by kernel_rfl) (by kernel_rfl) (by kernel_rfl) (by kernel_rfl) (fun _ _ _ h => h) rfl (v := ?_) ?_ ?_
      rotate_left
      · intro w'; go_simp; (try with_reducible rfl)
      (try simp only [Act.put, List.setIfInBounds_toArray, List.set_cons_zero, List.set_cons_succ])
      refine takeP 1 rfl (by kernel_rfl) (by kernel_rfl) (by kernel_rfl) (by kernel_rfl) (fun _ _ _ h => h) rfl (v := ?_) ?_ ?_
      rotate_left
      · intro w'; go_simp; (try with_reducible rfl)
      (try simp only [Act.put, List.setIfInBounds_toArray, List.set_cons_zero, List.set_cons_succ])
      refine takeL 2 HS0 rfl (by kernel_rfl) (by kernel_rfl) (by kernel_rfl) (by kernel_rfl) (by kernel_rfl) (fun _ _ _ h => h) rfl (v := ?_) ?_ ?_
      rotate_left
      · intro w' hw'; first | (refine Eq.trans (xLoad1 (HH.below hw') _ rfl rfl (by first | exact (rfl : _ = some (Value.int _ _)) | exact (rfl : _ = some (Value.slice _ _ _)) | exact (rfl : _ = some (Value.bool _)) | exact (rfl : _ = some (Value.string _)) | exact (rfl : _ = some (Value.pointer _)) | rfl | (simp [List.getElem?_append]; done))) ?_; with_reducible rfl) | (refine Eq.trans (xLoadC _ rfl rfl (cell_below hw' (by assumption))) ?_; with_reducible rfl)
      (try simp only [Act.put, List.setIfInBounds_toArray, List.set_cons_zero, List.set_cons_succ])
      refine takeP 4 rfl (by kernel_rfl) (by kernel_rfl) (by kernel_rfl) (by kernel_rfl) (fun _ _ _ h => h) rfl (v := ?_) ?_ ?_
      rotate_left
      · intro w'; go_simp; (try with_reducible rfl)
      (try simp only [Act.put, List.setIfInBounds_toArray, List.set_cons_zero, List.set_cons_succ])
      refine takeL 5 HS0 rfl (by kernel_rfl) (by kernel_rfl) (by kernel_rfl) (by kernel_rfl) (by kernel_rfl) (fun _ _ _ h => h) rfl (v := ?_) ?_ ?_
      rotate_left
      · intro w' hw'; first | (refine Eq.trans (xLoad1 (HH.below hw') _ rfl rfl (by first | exact (rfl : _ = some (Value.int _ _)) | exact (rfl : _ = some (Value.slice _ _ _)) | exact (rfl : _ = some (Value.bool _)) | exact (rfl : _ = some (Value.string _)) | exact (rfl : _ = some (Value.pointer _)) | rfl | (simp [List.getElem?_append]; done))) ?_; with_reducible rfl) | (refine Eq.trans (xLoadC _ rfl rfl (cell_below hw' (by assumption))) ?_; with_reducible rfl)
      (try simp only [Act.put, List.setIfInBounds_toArray, List.set_cons_zero, List.set_cons_succ])
      refine takeP 6 rfl (by kernel_rfl) (by kernel_rfl) (by kernel_rfl) (by kernel_rfl) (fun _ _ _ h => h) rfl (v := ?_) ?_ ?_
      rotate_left
      · intro w'; go_simp; (try with_reducible rfl)
      (try simp only [Act.put, List.setIfInBounds_toArray, List.set_cons_zero, List.set_cons_succ])
      refine takeP 7 rfl (by kernel_rfl) (by kernel_rfl) (by kernel_rfl) (by kernel_rfl) (fun _ _ _ h => h) rfl (v := ?_) ?_ ?_
      rotate_left
      · intro w'; go_simp; (try with_reducible rfl)
      (try simp only [Act.put, List.setIfInBounds_toArray, List.set_cons_zero, List.set_cons_succ])
      refine stepL 3 rfl (by kernel_rfl) rfl (fun K hK => ?_)
      (go_simp; (with_reducible refine ((diskSector_at bd bo n (n * 256) rfl hn2 at_ hw1 _ (HC0.out _ _ (H.hold.va (b := bd))))).mono ?_); rintro e w' ⟨rfl, hb⟩; replace H := H.step hb; replace HS0 := below_two HS0 HS0.size hb; clear hb; refine hK.out _ _ (fun _ _ => HS0) ?_; clear K hK)
      (try simp only [Act.put, List.setIfInBounds_toArray, List.set_cons_zero, List.set_cons_succ])
      refine stepL 8 rfl (by kernel_rfl) rfl (fun K hK => ?_)
      (refine oCopyB H _ _ rfl rfl rfl [] (by rfl) (fun j u hu => by simp at hu) HFIT.out HLAY.out ?_; intro w' hch H'; clear H hch; have H := H'; clear H'; (try dsimp only at H); refine hK.out _ _ (fun h => by cases h) ?_; clear K hK)
      (try simp only [Act.put, List.setIfInBounds_toArray, List.set_cons_zero, List.set_cons_succ])
      refine doneL (by kernel_rfl) ?_
      replace H := H.tail
      go_wp2
      go_roundw
      case rel => first | exact ⟨k + 1, by go_num, by omega, H⟩ | exact ⟨_, ⟨k + 1, by go_num, by omega, H⟩, rfl⟩ | exact ⟨_, _, ⟨k + 1, by go_num, by omega, H⟩, rfl, rfl⟩ | exact ⟨_, _, _, ⟨k + 1, by go_num, by omega, H⟩, rfl, rfl, rfl⟩ | exact ⟨_, _, _, _, ⟨k + 1, by go_num, by omega, H⟩, rfl, rfl, rfl, rfl⟩ | exact ⟨_, _, _, _, _, ⟨k + 1, by go_num, by omega, H⟩, rfl, rfl, rfl, rfl, rfl⟩ | ((repeat (apply Exists.intro)); exact ⟨⟨k + 1, by go_num, by omega, H⟩, rfl⟩)
      case measure => simp [intOf] <;> omega
    · obtain rfl : m = k := by omega
      go_wp2_with (first
        | ((with_reducible refine gDst 5 ?_); refine aAlloc H rfl rfl ?_; clear H; intro b5 w5 H)
        | ((with_reducible refine gLoad ?_); first | (refine aLoad1 H _ rfl rfl (by first | exact (rfl : _ = some (Value.int _ _)) | exact (rfl : _ = some (Value.slice _ _ _)) | exact (rfl : _ = some (Value.bool _)) | exact (rfl : _ = some (Value.string _)) | exact (rfl : _ = some (Value.pointer _)) | rfl | (simp [List.getElem?_append]; done)) rfl ?_) | (refine aLoadC _ rfl rfl (by assumption) rfl ?_) | (refine aLoad H _ rfl rfl (by first | exact part_all (by first | rfl | simp []) | (simp only [List.drop_succ_cons, List.drop_zero, List.take_succ_cons, List.take_zero]; rfl) | (simp [List.drop_append, List.take_append]; rfl)) (by first | rfl | simp []) rfl ?_))
        | ((with_reducible refine gStore ?_); (first | (refine aCell H _ _ rfl rfl (by first | exact (rfl : _ = Value.int _ _) | exact (rfl : _ = Value.bool _) | exact (rfl : _ = Value.slice _ _ _) | exact (rfl : _ = Value.string _) | exact (rfl : _ = Value.pointer _) | exact (rfl : _ = Value.func _ _ _) | rfl) (by rfl) (by rfl) (by first | exact of_decide_eq_true rfl | (simp []; done) | (simp []; omega)) (by first | (simp only [List.set_cons_zero, List.set_cons_succ]; rfl) | (simp [List.set_append]; rfl)) rfl ?_) | (refine aStore H _ _ rfl rfl rfl (by (first | exact ⟨rfl, rfl⟩ | exact ⟨by decide, rfl⟩ | (simp []; done) | (constructor <;> simp [] <;> omega))) (by first | rfl | simp [List.all_append, one_all]) rfl ?_) | (refine aLay H _ _ rfl rfl rfl (by (first | exact ⟨rfl, rfl⟩ | exact ⟨by decide, rfl⟩ | (simp []; done) | (constructor <;> simp [] <;> omega))) (by first | rfl | simp [List.all_append, one_all]) (by simp only [lay, List.take_succ_cons, List.take_zero, List.drop_succ_cons, List.drop_zero, List.nil_append, List.cons_append, List.length_cons, List.length_nil, Nat.zero_add, Nat.reduceAdd]; rfl) rfl ?_)); clear H; intro w' H; try dsimp only at H))
      go_end0
      have H2 := ((((H.sub (.cons_cons _ (.cons_cons _ (.cons _ (.cons _ .slnil))))).nilRow WT).rdNil.bring 1 rfl).bring 3 rfl).bring 3 rfl
      exact ⟨rfl, H2⟩
end Go.Proofs.YticfcelbnkiopaaDoor

namespace Go.Proofs.YticfcelbnkiopaaDoor
set_option maxRecDepth 100000
open Go.RowKit
set_option linter.unusedSimpArgs false
set_option linter.unusedVariables false

/-- What is asked of a disk that is written: it stays so. -/
structure DSw (st : DS) (n k : Nat) : Prop where
  ok : st.ok n
  lets : -1 ≤ st.lets ∧ st.lets ≤ 9223372036854775807
  ws : st.ws.length ≤ k
theorem DSw.le {st : DS} {n k l : Nat} (h : DSw st n k) (hl : k ≤ l) : DSw st n l := ⟨h.ok, h.lets, Nat.le_trans h.ws hl⟩
theorem DSw.writeE {st : DS} {n k : Nat} (h : DSw st n k) (hk : k < 1000000) (i : Int) (b : List UInt8) : DSw (st.writeE n i b).2 n (k + 1) :=
  ⟨DS.ok_writeE h.ok (Nat.lt_of_le_of_lt h.ws hk) i b, DS.lets_writeE h.lets i b, Nat.le_trans (DS.len_writeE st n i b) (Nat.succ_le_succ h.ws)⟩
theorem DSw.wrs {n : Nat} (b : List UInt8) : ∀ (l : List Nat) (st : DS) (k : Nat), DSw st n k → k + l.length ≤ 1000000 → DSw (Proofs.YticfcelbnkiopaaDoor.wrs n b st l).2 n (k + l.length)
  | [], _, _, h, _ => h
  | i :: l, st, k, h, hw => by
    rw [List.length_cons] at hw ⊢
    have h1 := h.writeE (by omega) (i : Int) b
    rw [Proofs.YticfcelbnkiopaaDoor.wrs]
    split
    · exact (DSw.wrs b l _ _ h1 (by omega)).le (by omega)
    · exact h1.le (by omega)
theorem DSw.ovr {n : Nat} (b : List UInt8) : ∀ (l : List (Bool × UInt32)) (st : DS) (k c : Nat), DSw st n k → k + l.length ≤ 1000000 → DSw (Proofs.YticfcelbnkiopaaDoor.ovr n b st l c).2.2 n (k + l.length)
  | [], _, _, _, h, _ => h
  | (g, a) :: l, st, k, c, h, hw => by
    rw [List.length_cons] at hw ⊢
    have h1 := h.writeE (by omega) (a.toNat : Int) b
    rw [Proofs.YticfcelbnkiopaaDoor.ovr]
    split
    · exact (DSw.ovr b l _ _ _ h (by omega)).le (by omega)
    · split
      · exact (DSw.ovr b l _ _ _ h1 (by omega)).le (by omega)
      · split
        · exact (DSw.ovr b l _ _ _ h1 (by omega)).le (by omega)
        · exact h1.le (by omega)
/-- A bank that is well, of so many sectors, with so many writes that wait, at most. -/
structure BKw (st : DS) (u : List Bool) (n k : Nat) : Prop where
  d : DSw st n k
  len : u.length = n
  lab : ∀ j, j < 4 → u.getD j false = true
section
variable {st : DS} {u : List Bool} {n k : Nat}
theorem BKw.le {l : Nat} (h : BKw st u n k) (hl : k ≤ l) : BKw st u n l := ⟨h.d.le hl, h.len, h.lab⟩
theorem BKw.ok (h : BKw st u n k) : BKok st u := ⟨by rw [h.len]; exact h.d.ok, h.d.lets, h.lab⟩
theorem BKw.put (h : BKw st u n k) (hk : k + 2 ≤ 1000000) (t : UInt32) (b : List UInt8) (c : Int) : BKw (putR t st u b c).2.2.1 (putR t st u b c).2.2.2 n (k + 2) := by
  unfold putR
  split
  · exact h.le (by omega)
  · split
    · exact h.le (by omega)
    · rename_i hc
      split
      · exact h.le (by omega)
      · rename_i hf
        have hl : (tkL u c.toNat).length ≤ 2 := by rw [tkL_len]; omega
        have hd := DSw.wrs b (tkL u c.toNat) st k h.d (by omega)
        split
        · refine ⟨by rw [h.len]; exact hd.le (by omega), by rw [tkU_len, h.len], fun j hj => ?_⟩
          rw [(tk_spec u c.toNat (by omega)).2.2 j, h.lab j hj]; rfl
        · exact ⟨by rw [h.len]; exact hd.le (by omega), h.len, h.lab⟩
theorem BKw.heal (h : BKw st u n k) (hk : k + 2 ≤ 1000000) (p : PT) : BKw (healR n st p).2.2 u n (k + 2) := by
  unfold healR
  split
  · exact h.le (by omega)
  · exact ⟨DSw.ovr _ (ovG st n p) st k 0 h.d hk, h.len, h.lab⟩
theorem BKw.fix (h : BKw st u n k) (hk : k + 2 ≤ 1000000) (p : PT) (b : List UInt8) : BKw (fixR n st p b).2.2 u n (k + 2) := by
  unfold fixR
  split
  · exact h.le (by omega)
  · split
    · exact h.le (by omega)
    · split
      · exact h.le (by omega)
      · exact ⟨DSw.ovr _ (ovG st n p) st k 0 h.d hk, h.len, h.lab⟩
theorem BKw.rot (h : BKw st u n k) (i : Int) (m : List UInt8) : BKw (st.rotE n i m).2 u n k := by
  unfold DS.rotE
  split
  · exact h
  · exact ⟨⟨DS.ok_rot h.d.ok _ m, h.d.lets, h.d.ws⟩, h.len, h.lab⟩
theorem BKw.flush (h : BKw st u n k) : BKw st.flushE.2 u n k := by
  have h1 : DSw st.spend.2 n k := ⟨DS.ok_spend h.d.ok, DS.lets_spend h.d.lets, by rw [st.spend_ws]; exact h.d.ws⟩
  unfold DS.flushE
  split
  · exact h
  · split
    · exact ⟨⟨DS.ok_flush h1.ok, h1.lets, Nat.zero_le _⟩, h.len, h.lab⟩
    · exact ⟨h1, h.len, h.lab⟩
theorem BKw.fuse (h : BKw st u n k) (f : Int) (hf : f ≤ 9223372036854775807) : BKw (st.fuse f) u n k := by
  refine ⟨⟨⟨h.d.ok.n1, h.d.ok.n2, h.d.ok.ol, h.d.ok.ws, h.d.ok.wl⟩, ?_, h.d.ws⟩, h.len, h.lab⟩
  show -1 ≤ (if f < 0 then 0 else f) ∧ (if f < 0 then 0 else f) ≤ _
  split <;> omega
theorem BKw.crash (h : BKw st u n k) : BKw st.crash0 u n k := by
  refine ⟨⟨⟨h.d.ok.n1, h.d.ok.n2, h.d.ok.ol, fun j hj => absurd hj (Nat.not_lt_zero _), Nat.zero_le _⟩, ?_, Nat.zero_le _⟩, h.len, h.lab⟩
  show (-1 : Int) ≤ -1 ∧ (-1 : Int) ≤ _
  omega
/-- What is read is right. -/
theorem brB_right {p : PT} (hE : brE st n p = 0) : shaL (brB st n p) = p.hash ∨ p = PT.hole := by
  by_cases hh : (p == PT.hole) = true
  · exact .inr (beq_iff_eq.1 hh)
  · refine .inl ?_
    have cp : ∀ i, cpB st n p i = true → shaL (st.read (p.at_ i).toNat) = p.hash := fun i h => by
      unfold cpB rightB at h
      rw [Bool.and_eq_true] at h
      exact beq_iff_eq.1 h.2
    unfold brB
    rw [if_neg hh]
    split
    · rename_i q; exact cp 0 q
    · rename_i q
      refine cp 1 ?_
      unfold brE at hE
      split at hE
      · rename_i e; exact absurd hE e
      · (try rw [if_neg hh, if_neg q] at hE)
        split at hE
        · rename_i r; exact r
        · exact absurd hE (by decide)
end
/-- An act. -/
structure AC where
  kind : Int
  copies : Int
  which : Int
  at_ : Int
  p : PT
  b : List UInt8
/-- What an act tells. -/
structure TD where
  p : PT
  b : List UInt8
  g0 : Bool
  g1 : Bool
  n : Int
  e : Int
def TD.nil : TD := ⟨PT.hole, [], false, false, 0, 0⟩
def blockR (a : AC) : List UInt8 := if 5 < a.copies then a.b else wholeL a.b
/-- What an act on a bank tells and leaves. -/
def doR (t : UInt32) (st : DS) (u : List Bool) (a : AC) (p : PT) : TD × DS × List Bool :=
  if a.kind = 1 then ({ TD.nil with p := (putR t st u (blockR a) a.copies).1, e := (putR t st u (blockR a) a.copies).2.1 }, (putR t st u (blockR a) a.copies).2.2.1, (putR t st u (blockR a) a.copies).2.2.2)
  else if a.kind = 2 then ({ TD.nil with b := if brE st u.length p = 0 then brB st u.length p else [], e := brE st u.length p }, st, u)
  else if a.kind = 3 then ({ TD.nil with g0 := lkG st u.length p 0, g1 := lkG st u.length p 1, e := ckE st p }, st, u)
  else if a.kind = 4 then ({ TD.nil with n := ((healR u.length st p).1 : Int), e := (healR u.length st p).2.1 }, (healR u.length st p).2.2, u)
  else if a.kind = 5 then ({ TD.nil with n := ((fixR u.length st p (blockR a)).1 : Int), e := (fixR u.length st p (blockR a)).2.1 }, (fixR u.length st p (blockR a)).2.2, u)
  else if a.kind = 6 then ({ TD.nil with e := (st.rotE u.length a.at_ a.b).1 }, (st.rotE u.length a.at_ a.b).2, u)
  else if a.kind = 7 then (TD.nil, st.fuse a.at_, u)
  else if a.kind = 8 then (TD.nil, st.crash0, u)
  else if a.kind = 9 then ({ TD.nil with e := st.flushE.1 }, st.flushE.2, u)
  else (TD.nil, st, u)
theorem BKw.act {st : DS} {u : List Bool} {n k : Nat} (h : BKw st u n k) (hk : k + 2 ≤ 1000000) (t : UInt32) (a : AC) (p : PT) (ha : a.at_ ≤ 9223372036854775807) : BKw (doR t st u a p).2.1 (doR t st u a p).2.2 n (k + 2) := by
  have hl := h.len
  unfold doR
  split
  · exact h.put hk t _ _
  split
  · exact h.le (by omega)
  split
  · exact h.le (by omega)
  split
  · rw [hl]; exact h.heal hk p
  split
  · rw [hl]; exact h.fix hk p _
  split
  · rw [hl]; exact (h.rot _ _).le (by omega)
  split
  · exact (h.fuse _ ha).le (by omega)
  split
  · exact h.crash.le (by omega)
  split
  · exact h.flush.le (by omega)
  · exact h.le (by omega)
end Go.Proofs.YticfcelbnkiopaaDoor

namespace Go.Proofs.YticfcelbnkiopaaDoor
set_option maxRecDepth 100000
open Go.RowKit
set_option linter.unusedSimpArgs false
set_option linter.unusedVariables false

/-- An act's cells. -/
def acC (kd cp wh a : Int) (pp : PT) (vb : Value) : List Value := [.int .i64 kd, .int .i64 cp, .int .i64 wh, .int .i64 a] ++ (pp.cells ++ [vb])
theorem acC_len (kd cp wh a : Int) (pp : PT) (vb : Value) : (acC kd cp wh a pp vb).length = 40 := by simp [acC, PT.len]
theorem acC_39 (kd cp wh a : Int) (pp : PT) (vb : Value) : (acC kd cp wh a pp vb)[39]? = some vb := by
  rw [acC, List.getElem?_append_right (by show 4 ≤ 39; decide), List.getElem?_append_right (by rw [PT.len]; show 35 ≤ 39 - 4; decide), PT.len]
  rfl
/-- What an act tells, as cells. -/
def TD.cells (t : TD) : List Value := t.p.cells ++ [.string (str t.b), .bool t.g0, .bool t.g1, .int .i64 t.n, .int .i64 t.e]
theorem TD.len (t : TD) : t.cells.length = 40 := by simp [TD.cells, PT.len]
theorem TD.one (t : TD) : (t.cells.all fun u => u.oneCell') = true := by
  rw [TD.cells, List.all_append, List.all_eq_true.2 t.p.one]
  rfl
theorem TD.setP (t : TD) (p : PT) : lay t.cells 0 p.cells = { t with p := p }.cells := by
  show List.take 0 t.cells ++ p.cells ++ t.cells.drop (0 + p.cells.length) = _
  rw [PT.len, TD.cells, List.drop_append_of_le_length (by rw [PT.len]; decide), List.drop_of_length_le (by rw [PT.len]; decide)]
  rfl
theorem TD.set_ (t : TD) (i : Nat) (v : Value) : t.cells.set (35 + i) v = t.p.cells ++ [.string (str t.b), .bool t.g0, .bool t.g1, .int .i64 t.n, .int .i64 t.e].set i v := by
  rw [TD.cells, List.set_append_right _ _ (by rw [PT.len]; omega), PT.len]
  congr 2
  omega
theorem TD.setB (t : TD) (b : List UInt8) : t.cells.set 35 (.string (str b)) = { t with b := b }.cells := t.set_ 0 _
theorem TD.setN (t : TD) (n : Int) : t.cells.set 38 (.int .i64 n) = { t with n := n }.cells := t.set_ 3 _
theorem TD.setE (t : TD) (e : Int) : t.cells.set 39 (.int .i64 e) = { t with e := e }.cells := t.set_ 4 _
theorem TD.setG (t : TD) (a b : Bool) : lay t.cells 36 [.bool a, .bool b] = { t with g0 := a, g1 := b }.cells := by
  have e : ∀ (x y : List Value), x.length = 35 → lay (x ++ y) 36 [.bool a, .bool b] = x ++ (y.take 1 ++ [.bool a, .bool b] ++ y.drop 3) := fun x y h => by
    show (x ++ y).take 36 ++ [.bool a, .bool b] ++ (x ++ y).drop 38 = _
    rw [show 36 = x.length + 1 by omega, List.take_length_add_append, show 38 = x.length + 3 by omega, List.drop_length_add_append]
    simp
  rw [TD.cells, e _ _ t.p.len]
  rfl
/-- The law's block: bytes as they are. -/
theorem block_raw (kd cp wh a : Int) (pp : PT) (A : Option Addr) (n c : Nat) (hcp : 5 < cp) (w : World) :
    Calls Tryd.prog 76 #[.agg (acC kd cp wh a pp (.slice A n c)).toArray] w fun e w' => e = .returned (.slice A n c) ∧ Below w.heap.size w w' := by
  have H := SH.start Nil w
  have H39 := Lib.hid (acC_39 kd cp wh a pp (.slice A n c))
  have H1 := Lib.hid (show (acC kd cp wh a pp (.slice A n c))[1]? = some (.int .i64 cp) from rfl)
  generalize acC kd cp wh a pp (.slice A n c) = X at *
  go_enter Tryd.func76, Tryd.ntmps76
  go_wp2_with (first
    | ((with_reducible refine gDst 4 ?_); refine aLoad1 H _ rfl rfl H1.out rfl ?_)
    | ((with_reducible refine gDst 7 ?_); refine aLoad1 H _ rfl rfl H39.out rfl ?_)
    | ((with_reducible refine gDst 1 ?_); refine aBox H _ rfl rfl rfl ?_; clear H; intro b1 w1 H)
    | ((with_reducible refine gLoad ?_); first | (refine aLoad1 H _ rfl rfl (by first | exact (rfl : _ = some (Value.int _ _)) | exact (rfl : _ = some (Value.slice _ _ _)) | exact (rfl : _ = some (Value.bool _)) | exact (rfl : _ = some (Value.string _)) | exact (rfl : _ = some (Value.pointer _)) | rfl | (simp [List.getElem?_append]; done)) rfl ?_) | (refine aLoadC _ rfl rfl (by assumption) rfl ?_)))
  go_ret
  exact ⟨rfl, H.below⟩
/-- .. or as a block. -/
theorem block_whole (kd cp wh a : Int) (pp : PT) (A : Option Addr) (c : Nat) (b : List UInt8) (hcp : ¬ 5 < cp) (hl : b.length ≤ 100000) (w : World) (hv : RB w (.slice A b.length c) b) :
    Calls Tryd.prog 76 #[.agg (acC kd cp wh a pp (.slice A b.length c)).toArray] w fun e w' => ∃ A c, e = .returned (.slice A (wholeL b).length c) ∧ OB w' w.heap.size (.slice A (wholeL b).length c) (wholeL b) ∧ Below w.heap.size w w' := by
  have H := SH.start Nil w
  have HW := Lib.hid (fun W (h : RB W (.slice A b.length c) b) => whole_any (.slice A b.length c) b W h hl)
  have HV := Lib.hid hv
  clear hv
  generalize b.length = n at *
  generalize (wholeL b).length = m at *
  have H39 := Lib.hid (acC_39 kd cp wh a pp (.slice A n c))
  have H1 := Lib.hid (show (acC kd cp wh a pp (.slice A n c))[1]? = some (.int .i64 cp) from rfl)
  generalize acC kd cp wh a pp (.slice A n c) = X at *
  have hcp' : (5 < cp) = False := eq_false hcp
  clear hcp
  go_enter Tryd.func76, Tryd.ntmps76
  go_wp2_with (first
    | ((with_reducible refine gDst 4 ?_); refine aLoad1 H _ rfl rfl H1.out rfl ?_)
    | ((with_reducible refine gDst 9 ?_); refine aLoad1 H _ rfl rfl H39.out rfl ?_)
    | (go_at_call 17; refine (HW.out _ (HV.out.below H.below)).mono ?_; rintro e w' ⟨A10, c10, rfl, ho, hb⟩; replace H := H.pushRow hb ho; clear hb ho)
    | ((with_reducible refine gDst 1 ?_); refine aBox H _ rfl rfl rfl ?_; clear H; intro b1 w1 H)
    | ((with_reducible refine gLoad ?_); first | (refine aLoad1 H _ rfl rfl (by first | exact (rfl : _ = some (Value.int _ _)) | exact (rfl : _ = some (Value.slice _ _ _)) | exact (rfl : _ = some (Value.bool _)) | exact (rfl : _ = some (Value.string _)) | exact (rfl : _ = some (Value.pointer _)) | rfl | (simp [List.getElem?_append]; done)) rfl ?_) | (refine aLoadC _ rfl rfl (by assumption) rfl ?_)))
  go_ret
  exact ⟨A10, c10, rfl, H.ow _, H.below⟩
end Go.Proofs.YticfcelbnkiopaaDoor
