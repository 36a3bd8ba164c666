/- Ground of the statements BankHealed, part 7: BkF, RowKit, RowPtr, RowGen, RowBB, RowTab. -/
import Derived.WalkKit
import Derived.ProofKit
import Derived.OpenShut
import Derived.ShutString
import Derived.ChangeOld
import Derived.Below
import Derived.SizedLaws
import Derived.ChangeSlices
import Derived.Test.YticfcelbnkiopaaDoorRows
import Derived.MakeChecks
import Derived.Test.YticfcelbnkiopaaDoorBBC6
namespace Go.Proofs.YticfcelbnkiopaaDoor
set_option maxRecDepth 100000
open Go.RowKit
set_option linter.unusedSimpArgs false
set_option linter.unusedVariables false

section
variable {bk bd bo bm : Nat} {vw : Value} {ss : List SVV} {t : UInt32} {st : DS} {u : List Bool}
theorem bFlush_any (hk : BKok st u) (w : World) (hD : SH (feet (bankL bk bd bo bm vw ss t st u)) w w (bankL bk bd bo bm vw ss t st u)) :
    Calls Tryd.prog 19 #[.pointer (some ⟨bd, 0, none⟩)] w fun e w' => e = .returned (.int .i64 st.flushE.1) ∧ ∃ vw' ss', SH (feet (bankL bk bd bo bm vw ss t st u)) w w' (bankL bk bd bo bm vw' ss' t st.flushE.2 u) := by
  refine (diskFlush_any bd bo u.length vw ss st hk.d hk.lets w (hD.subS (D := diskL bd bo vw ss st))).mono ?_
  rintro e w' ⟨rfl, vw', ss', k⟩
  exact ⟨rfl, vw', ss', hD.viaS (D := diskL bd bo vw ss st) k⟩
theorem bRot_any (i : Int) (vm : Value) (mask : List UInt8) (hk : BKok st u) (w : World) (hD : SH (feet (bankL bk bd bo bm vw ss t st u)) w w (bankL bk bd bo bm vw ss t st u)) (hv : ∀ w', Chg (feet (bankL bk bd bo bm vw ss t st u)) w w' → RB w' vm mask) :
    Calls Tryd.prog 20 #[.pointer (some ⟨bd, 0, none⟩), .int .i64 i, vm] w fun e w' => e = .returned (.int .i64 (st.rotE u.length i mask).1) ∧ SH (feet (bankL bk bd bo bm vw ss t st u)) w w' (bankL bk bd bo bm vw ss t (st.rotE u.length i mask).2 u) := by
  refine (diskRot_any bd bo u.length i vw vm ss st mask hk.d w (hD.subS (D := diskL bd bo vw ss st)) fun w' hc => hv w' (hD.chgS (D := diskL bd bo vw ss st) hc)).mono ?_
  rintro e w' ⟨rfl, k⟩
  exact ⟨rfl, hD.viaS (D := diskL bd bo vw ss st) k⟩
theorem bFuse_any (f : Int) (w : World) (hD : SH (feet (bankL bk bd bo bm vw ss t st u)) w w (bankL bk bd bo bm vw ss t st u)) :
    Calls Tryd.prog 45 #[.pointer (some ⟨bd, 0, none⟩), .int .i64 f] w fun e w' => e = .returned (.tuple #[]) ∧ SH (feet (bankL bk bd bo bm vw ss t st u)) w w' (bankL bk bd bo bm vw ss t (st.fuse f) u) := by
  refine (diskFuse_any bd bo f vw ss st w (hD.subS (D := diskL bd bo vw ss st))).mono ?_
  rintro e w' ⟨rfl, k⟩
  exact ⟨rfl, hD.viaS (D := diskL bd bo vw ss st) k⟩
theorem Calm.bank (h : Calm st u.length) (hl : ∀ j, j < 4 → u.getD j false = true) : BKok st u := ⟨h.ok, by rw [h.lets]; exact ⟨by decide, by decide⟩, hl⟩
theorem Calm.flush {n : Nat} (h : Calm st n) : st.spend.2.flush = st.flush ∧ st.spend.1 = true ∧ Calm st.flush n := by
  have hs : st.spend = (true, st) := by rw [DS.spend, h.lets, if_neg (by decide), if_neg (by decide)]
  rw [hs]
  exact ⟨rfl, rfl, DS.ok_flush h.ok, h.off, h.lets⟩
theorem Calm.rot {n : Nat} (h : Calm st n) (i : Nat) (m : List UInt8) : Calm (st.rot i m) n := ⟨DS.ok_rot h.ok i m, h.off, h.lets⟩
end
/-- How many copies of the first i are not right. -/
def wantN (g0 g1 : Bool) (i : Nat) : Nat := (if decide (0 < i) && !g0 then 1 else 0) + (if decide (1 < i) && !g1 then 1 else 0)
set_option maxHeartbeats 6400000 in
theorem BankHealed_any (vb v1 v2 vo : Value) (b m1 m2 o : List UInt8) (w : World) (hb : RB w vb b) (h1 : RB w v1 m1) (h2 : RB w v2 m2) (ho : RB w vo o) (hT : TabAt w) :
    Calls Tryd.prog 4 #[vb, .agg #[v1, v2], vo] w fun e w' => e = .returned (.bool true) ∧ Below w.heap.size w w' := by
  have H := SH.start Nil w
  obtain ⟨A0, c0, rfl, -⟩ := hb.len
  obtain ⟨A1, c1, rfl, -⟩ := h1.len
  obtain ⟨A2, c2, rfl, -⟩ := h2.len
  obtain ⟨A3, c3, rfl, -⟩ := ho.len
  have HT := Lib.hid (fun W (h : Below w.heap.size w W) => hT.below h)
  have HFR := Lib.hid (fun W => fresh08_any 32 (by decide) (by decide) W)
  change Hid (∀ W, Calls Tryd.prog 14 #[.int .i64 32] W _) at HFR
  have HB := Lib.hid hb
  have HM1 := Lib.hid h1
  have HM2 := Lib.hid h2
  have HO := Lib.hid ho
  clear hb h1 h2 ho hT
  by_cases hbl : (256 : Int) < (b.length : Int)
  · skip
    generalize b.length = bn at *
    clear HB HM1 HM2 HO
    generalize m1.length = mn1 at *
    generalize m2.length = mn2 at *
    generalize o.length = on at *
    go_enter Tryd.func4, Tryd.ntmps4
    go_wp2_with (first
      | (go_at_call 14; refine (HFR.out _).mono ?_; rintro e w' ⟨bk, bd, bo, bm, rfl, H1⟩; replace H1 := (H.join H1).perm List.perm_append_comm; (try dsimp only [List.cons_append, List.nil_append] at H1); clear H; have H := H1; clear H1)
      | (go_at_call 15; refine (alive08_any _ (HT.out _ H.below)).mono ?_; rintro e w' ⟨rfl, hb⟩; replace H := H.step hb; clear hb)
      | ((with_reducible refine gDst 4 ?_); refine aBox H _ rfl rfl rfl ?_; clear H; intro b4 w4 H)
      | ((with_reducible refine gDst 9 ?_); refine aAlloc H rfl rfl ?_; clear H; intro b9 w9 H)
      | ((with_reducible refine gDst 12 ?_); refine aAlloc H rfl rfl ?_; clear H; intro b12 w12 H)
      | ((with_reducible refine gDst 22 ?_); refine aAlloc H rfl rfl ?_; clear H; intro b22 w22 H)
      | ((with_reducible refine gLoad ?_); first | (refine aLoad1 H _ rfl rfl (by first | exact (rfl : _ = some (Value.int _ _)) | exact (rfl : _ = some (Value.slice _ _ _)) | exact (rfl : _ = some (Value.bool _)) | exact (rfl : _ = some (Value.string _)) | exact (rfl : _ = some (Value.pointer _)) | rfl | (simp [List.getElem?_append]; done)) rfl ?_) | (refine aLoadC _ rfl rfl (by assumption) rfl ?_) | (refine aLoad H _ rfl rfl (by first | exact part_all (by first | rfl | simp []) | (simp only [List.drop_succ_cons, List.drop_zero, List.take_succ_cons, List.take_zero]; rfl) | (simp [List.drop_append, List.take_append]; rfl)) (by first | rfl | simp []) rfl ?_))
      | ((with_reducible refine gStore ?_); (first | (refine aStore H _ _ rfl rfl rfl (by (first | exact ⟨rfl, rfl⟩ | exact ⟨by decide, rfl⟩ | (simp []; done) | (constructor <;> simp [] <;> omega))) (by first | rfl | simp [List.all_append, one_all]) rfl ?_) | (refine aLay H _ _ rfl rfl rfl (by (first | exact ⟨rfl, rfl⟩ | exact ⟨by decide, rfl⟩ | (simp []; done) | (constructor <;> simp [] <;> omega))) (by first | rfl | simp [List.all_append, one_all]) (by simp only [lay, List.take_succ_cons, List.take_zero, List.drop_succ_cons, List.drop_zero, List.nil_append, List.cons_append, List.length_cons, List.length_nil, Nat.zero_add, Nat.reduceAdd]; rfl) rfl ?_)); clear H; intro w' H; try dsimp only at H))
    go_ret
    exact ⟨rfl, H.below⟩
  · have hbl' : ((256 : Int) < (b.length : Int)) = False := eq_false hbl
    by_cases hol : (256 : Int) < (o.length : Int)
    · clear hbl
      generalize b.length = bn at *
      clear HB HM1 HM2 HO
      generalize m1.length = mn1 at *
      generalize m2.length = mn2 at *
      generalize o.length = on at *
      go_enter Tryd.func4, Tryd.ntmps4
      go_wp2_with (first
        | (go_at_call 14; refine (HFR.out _).mono ?_; rintro e w' ⟨bk, bd, bo, bm, rfl, H1⟩; replace H1 := (H.join H1).perm List.perm_append_comm; (try dsimp only [List.cons_append, List.nil_append] at H1); clear H; have H := H1; clear H1)
        | (go_at_call 15; refine (alive08_any _ (HT.out _ H.below)).mono ?_; rintro e w' ⟨rfl, hb⟩; replace H := H.step hb; clear hb)
        | ((with_reducible refine gDst 4 ?_); refine aBox H _ rfl rfl rfl ?_; clear H; intro b4 w4 H)
        | ((with_reducible refine gDst 9 ?_); refine aAlloc H rfl rfl ?_; clear H; intro b9 w9 H)
        | ((with_reducible refine gDst 12 ?_); refine aAlloc H rfl rfl ?_; clear H; intro b12 w12 H)
        | ((with_reducible refine gDst 22 ?_); refine aAlloc H rfl rfl ?_; clear H; intro b22 w22 H)
        | ((with_reducible refine gLoad ?_); first | (refine aLoad1 H _ rfl rfl (by first | exact (rfl : _ = some (Value.int _ _)) | exact (rfl : _ = some (Value.slice _ _ _)) | exact (rfl : _ = some (Value.bool _)) | exact (rfl : _ = some (Value.string _)) | exact (rfl : _ = some (Value.pointer _)) | rfl | (simp [List.getElem?_append]; done)) rfl ?_) | (refine aLoadC _ rfl rfl (by assumption) rfl ?_) | (refine aLoad H _ rfl rfl (by first | exact part_all (by first | rfl | simp []) | (simp only [List.drop_succ_cons, List.drop_zero, List.take_succ_cons, List.take_zero]; rfl) | (simp [List.drop_append, List.take_append]; rfl)) (by first | rfl | simp []) rfl ?_))
        | ((with_reducible refine gStore ?_); (first | (refine aStore H _ _ rfl rfl rfl (by (first | exact ⟨rfl, rfl⟩ | exact ⟨by decide, rfl⟩ | (simp []; done) | (constructor <;> simp [] <;> omega))) (by first | rfl | simp [List.all_append, one_all]) rfl ?_) | (refine aLay H _ _ rfl rfl rfl (by (first | exact ⟨rfl, rfl⟩ | exact ⟨by decide, rfl⟩ | (simp []; done) | (constructor <;> simp [] <;> omega))) (by first | rfl | simp [List.all_append, one_all]) (by simp only [lay, List.take_succ_cons, List.take_zero, List.drop_succ_cons, List.drop_zero, List.nil_append, List.cons_append, List.length_cons, List.length_nil, Nat.zero_add, Nat.reduceAdd]; rfl) rfl ?_)); clear H; intro w' H; try dsimp only at H))
      go_ret
      exact ⟨rfl, H.below⟩
    · have hol' : ((256 : Int) < (o.length : Int)) = False := eq_false hol
      by_cases hm1 : (256 : Int) < (m1.length : Int)
      · clear hbl hol
        generalize b.length = bn at *
        clear HB HM1 HM2 HO
        generalize m1.length = mn1 at *
        generalize m2.length = mn2 at *
        generalize o.length = on at *
        go_enter Tryd.func4, Tryd.ntmps4
        go_wp2_with (first
          | (go_at_call 14; refine (HFR.out _).mono ?_; rintro e w' ⟨bk, bd, bo, bm, rfl, H1⟩; replace H1 := (H.join H1).perm List.perm_append_comm; (try dsimp only [List.cons_append, List.nil_append] at H1); clear H; have H := H1; clear H1)
          | (go_at_call 15; refine (alive08_any _ (HT.out _ H.below)).mono ?_; rintro e w' ⟨rfl, hb⟩; replace H := H.step hb; clear hb)
          | ((with_reducible refine gDst 4 ?_); refine aBox H _ rfl rfl rfl ?_; clear H; intro b4 w4 H)
          | ((with_reducible refine gDst 9 ?_); refine aAlloc H rfl rfl ?_; clear H; intro b9 w9 H)
          | ((with_reducible refine gDst 12 ?_); refine aAlloc H rfl rfl ?_; clear H; intro b12 w12 H)
          | ((with_reducible refine gDst 22 ?_); refine aAlloc H rfl rfl ?_; clear H; intro b22 w22 H)
          | ((with_reducible refine gLoad ?_); first | (refine aLoad1 H _ rfl rfl (by first | exact (rfl : _ = some (Value.int _ _)) | exact (rfl : _ = some (Value.slice _ _ _)) | exact (rfl : _ = some (Value.bool _)) | exact (rfl : _ = some (Value.string _)) | exact (rfl : _ = some (Value.pointer _)) | rfl | (simp [List.getElem?_append]; done)) rfl ?_) | (refine aLoadC _ rfl rfl (by assumption) rfl ?_) | (refine aLoad H _ rfl rfl (by first | exact part_all (by first | rfl | simp []) | (simp only [List.drop_succ_cons, List.drop_zero, List.take_succ_cons, List.take_zero]; rfl) | (simp [List.drop_append, List.take_append]; rfl)) (by first | rfl | simp []) rfl ?_))
          | ((with_reducible refine gStore ?_); (first | (refine aStore H _ _ rfl rfl rfl (by (first | exact ⟨rfl, rfl⟩ | exact ⟨by decide, rfl⟩ | (simp []; done) | (constructor <;> simp [] <;> omega))) (by first | rfl | simp [List.all_append, one_all]) rfl ?_) | (refine aLay H _ _ rfl rfl rfl (by (first | exact ⟨rfl, rfl⟩ | exact ⟨by decide, rfl⟩ | (simp []; done) | (constructor <;> simp [] <;> omega))) (by first | rfl | simp [List.all_append, one_all]) (by simp only [lay, List.take_succ_cons, List.take_zero, List.drop_succ_cons, List.drop_zero, List.nil_append, List.cons_append, List.length_cons, List.length_nil, Nat.zero_add, Nat.reduceAdd]; rfl) rfl ?_)); clear H; intro w' H; try dsimp only at H))
        go_ret
        exact ⟨rfl, H.below⟩
      · have hm1' : ((256 : Int) < (m1.length : Int)) = False := eq_false hm1
        by_cases hm2 : (256 : Int) < (m2.length : Int)
        · clear hbl hol hm1
          generalize b.length = bn at *
          clear HB HM1 HM2 HO
          generalize m1.length = mn1 at *
          generalize m2.length = mn2 at *
          generalize o.length = on at *
          go_enter Tryd.func4, Tryd.ntmps4
          go_wp2_with (first
            | (go_at_call 14; refine (HFR.out _).mono ?_; rintro e w' ⟨bk, bd, bo, bm, rfl, H1⟩; replace H1 := (H.join H1).perm List.perm_append_comm; (try dsimp only [List.cons_append, List.nil_append] at H1); clear H; have H := H1; clear H1)
            | (go_at_call 15; refine (alive08_any _ (HT.out _ H.below)).mono ?_; rintro e w' ⟨rfl, hb⟩; replace H := H.step hb; clear hb)
            | ((with_reducible refine gDst 4 ?_); refine aBox H _ rfl rfl rfl ?_; clear H; intro b4 w4 H)
            | ((with_reducible refine gDst 9 ?_); refine aAlloc H rfl rfl ?_; clear H; intro b9 w9 H)
            | ((with_reducible refine gDst 12 ?_); refine aAlloc H rfl rfl ?_; clear H; intro b12 w12 H)
            | ((with_reducible refine gDst 22 ?_); refine aAlloc H rfl rfl ?_; clear H; intro b22 w22 H)
            | ((with_reducible refine gLoad ?_); first | (refine aLoad1 H _ rfl rfl (by first | exact (rfl : _ = some (Value.int _ _)) | exact (rfl : _ = some (Value.slice _ _ _)) | exact (rfl : _ = some (Value.bool _)) | exact (rfl : _ = some (Value.string _)) | exact (rfl : _ = some (Value.pointer _)) | rfl | (simp [List.getElem?_append]; done)) rfl ?_) | (refine aLoadC _ rfl rfl (by assumption) rfl ?_) | (refine aLoad H _ rfl rfl (by first | exact part_all (by first | rfl | simp []) | (simp only [List.drop_succ_cons, List.drop_zero, List.take_succ_cons, List.take_zero]; rfl) | (simp [List.drop_append, List.take_append]; rfl)) (by first | rfl | simp []) rfl ?_))
            | ((with_reducible refine gStore ?_); (first | (refine aStore H _ _ rfl rfl rfl (by (first | exact ⟨rfl, rfl⟩ | exact ⟨by decide, rfl⟩ | (simp []; done) | (constructor <;> simp [] <;> omega))) (by first | rfl | simp [List.all_append, one_all]) rfl ?_) | (refine aLay H _ _ rfl rfl rfl (by (first | exact ⟨rfl, rfl⟩ | exact ⟨by decide, rfl⟩ | (simp []; done) | (constructor <;> simp [] <;> omega))) (by first | rfl | simp [List.all_append, one_all]) (by simp only [lay, List.take_succ_cons, List.take_zero, List.drop_succ_cons, List.drop_zero, List.nil_append, List.cons_append, List.length_cons, List.length_nil, Nat.zero_add, Nat.reduceAdd]; rfl) rfl ?_)); clear H; intro w' H; try dsimp only at H))
          go_ret
          exact ⟨rfl, H.below⟩
        · have hm2' : ((256 : Int) < (m2.length : Int)) = False := eq_false hm2
          have hB : b.length ≤ 256 := by omega
          have hO : o.length ≤ 256 := by omega
          have hM1 : m1.length ≤ 256 := by omega
          have hM2 : m2.length ≤ 256 := by omega
          obtain ⟨Wb, hWb⟩ : ∃ x, x = wholeL b := ⟨_, rfl⟩
          have hWl : Wb.length = 256 := by rw [hWb, wholeL, List.length_append, List.length_replicate]; omega
          obtain ⟨Wo, hWo⟩ : ∃ x, x = wholeL o := ⟨_, rfl⟩
          have hWol : Wo.length = 256 := by rw [hWo, wholeL, List.length_append, List.length_replicate]; omega
          have hpf := putF 32 2 (.inr rfl) (fun _ => Wb) (fun _ => hWl) 0 (by decide)
          have hp2 : TwoP (pF 2 (fun _ => Wb) 0) 32 := by
            refine ⟨by show (4 : UInt32) ≠ 0; decide, by show (5 : UInt32) ≠ 0; decide, by show (4 : UInt32).toNat ≠ (5 : UInt32).toNat; decide, by show (4 : UInt32).toNat < 32; decide, by show (5 : UInt32).toNat < 32; decide⟩
          have hcalm : Calm (dF 32 2 (fun _ => Wb) 2) 32 := by
            refine ⟨⟨by decide, by decide, List.length_replicate, fun k hk => ?_, ?_⟩, rfl, rfl⟩
            · have hk2 : k < 2 := by rw [dF] at hk; simpa using hk
              rcases k with _ | _ | k
              · exact ⟨by show 4 < 32; decide, hWl⟩
              · exact ⟨by show 5 < 32; decide, hWl⟩
              · omega
            · show (List.map _ (List.range 2)).length ≤ _; simp
          obtain ⟨p, hp⟩ : ∃ x, x = pF 2 (fun _ => Wb) 0 := ⟨_, rfl⟩
          have hph : shaL Wb = p.hash := by rw [hp]; rfl
          rw [← hp] at hp2
          obtain ⟨s1, hs1⟩ : ∃ x, x = dF 32 2 (fun _ => Wb) 2 := ⟨_, rfl⟩
          rw [← hs1] at hcalm
          obtain ⟨-, -, hc2⟩ := hcalm.flush
          have hc3 := hc2.rot 4 m1
          have hc4 := hc3.rot 5 m2
          obtain ⟨s4, hs4⟩ : ∃ x, x = (s1.flush.rot 4 m1).rot 5 m2 := ⟨_, rfl⟩
          rw [← hs4] at hc4
          have hl4 : s4.ws.length = 0 := by rw [hs4]; rfl
          obtain ⟨s5, hn, hE, q1, q2, q3, q4, q5⟩ : ∃ (s5 : DS) (hn : Nat) (hE : Int), healR 32 s4 p = (hn, hE, s5) ∧ Calm s5 32 ∧ s5.ws.length ≤ 2 ∧ (hE = 0 ↔ (cpB s4 32 p 0 || cpB s4 32 p 1) = true) ∧ (hE = 0 → hn = (if cpB s4 32 p 0 = true then 0 else 1) + (if cpB s4 32 p 1 = true then 0 else 1)) := by
            cases hg : (cpB s4 32 p 0 || cpB s4 32 p 1) with
            | true =>
              obtain ⟨s5, e, c, l, -, -⟩ := hp2.heal hc4 (by omega) hg
              exact ⟨s5, _, _, e, c, by omega, by simp, fun _ => rfl⟩
            | false => exact ⟨s4, _, _, hp2.noHeal hc4 hg, hc4, by omega, by simp, fun h => absurd h (by decide)⟩
          obtain ⟨s6, fn, fE, r1, r2, r3, r4⟩ : ∃ (s6 : DS) (fn : Nat) (fE : Int), fixR 32 s5 p Wo = (fn, fE, s6) ∧ Calm s6 32 ∧ s6.ws.length ≤ 4 ∧ (fE = 0 ↔ shaL Wo = p.hash) := by
            by_cases hs : shaL Wo = p.hash
            · obtain ⟨s6, e, c, l, -, -⟩ := hp2.fix q2 (by omega) Wo hWol hs
              exact ⟨s6, _, _, e, c, by omega, by simp [hs]⟩
            · exact ⟨s5, _, _, hp2.noFix q2 Wo hWol hs, q2, by omega, by simp [hs]⟩
          obtain ⟨s7, jn, e7, c7, l7, z0, z1⟩ : ∃ (s7 : DS) (jn : Nat), fixR 32 s6 p Wb = (jn, 0, s7) ∧ Calm s7 32 ∧ s7.ws.length ≤ s6.ws.length + 2 ∧ cpB s7 32 p 0 = true ∧ cpB s7 32 p 1 = true := by
            obtain ⟨s7, e7, c7, l7, z0, z1⟩ := hp2.fix r2 (by omega) Wb hWl hph
            exact ⟨s7, _, e7, c7, l7, z0, z1⟩
          have hu : (uN 32 6).length = 32 := uN_len 32 6 (by decide)
          have hlab : ∀ j, j < 4 → (uN 32 6).getD j false = true := fun j hj => by rw [uN_get _ _ _ (by decide)]; exact decide_eq_true (by omega)
          have k1 : BKok s1 (uN 32 6) := Calm.bank (by rw [hu]; exact hcalm) hlab
          have k2 : BKok s1.flush (uN 32 6) := Calm.bank (by rw [hu]; exact hc2) hlab
          have k3 : BKok (s1.flush.rot 4 m1) (uN 32 6) := Calm.bank (by rw [hu]; exact hc3) hlab
          have k4 : BKok s4 (uN 32 6) := Calm.bank (by rw [hu]; exact hc4) hlab
          have k5 : BKok s5 (uN 32 6) := Calm.bank (by rw [hu]; exact q2) hlab
          have k6 : BKok s6 (uN 32 6) := Calm.bank (by rw [hu]; exact r2) hlab
          have k7 : BKok s7 (uN 32 6) := Calm.bank (by rw [hu]; exact c7) hlab
          have hput := fun bk bd bo bm vw ss vb W y1 y2 y3 => bPut_any (bk := bk) (bd := bd) (bo := bo) (bm := bm) (vw := vw) (ss := ss) (t := 7) vb Wb 2 (okF 32 2 (fun _ => Wb) (fun _ => hWl) 0 (by decide) (by decide) (by decide)) (by show 0 + 2 ≤ 1000000; decide) (by decide) W y1 y2 y3
          have hfl := fun bk bd bo bm vw ss W y => bFlush_ok (bk := bk) (bd := bd) (bo := bo) (bm := bm) (vw := vw) (ss := ss) (t := 7) k1 hcalm.off hcalm.flush.2.1 W y
          rw [hcalm.flush.1] at hfl
          have hr1 := fun bk bd bo bm vw ss vm W y y2 => bRot_ok (bk := bk) (bd := bd) (bo := bo) (bm := bm) (vw := vw) (ss := ss) (t := 7) 4 vm m1 k2 (by rw [hu]; decide) hM1 W y y2
          have hr2 := fun bk bd bo bm vw ss vm W y y2 => bRot_ok (bk := bk) (bd := bd) (bo := bo) (bm := bm) (vw := vw) (ss := ss) (t := 7) 5 vm m2 k3 (by rw [hu]; decide) hM2 W y y2
          rw [← hs4] at hr2
          have hlk := fun bk bd bo bm vw ss W y => bLook_any (bk := bk) (bd := bd) (bo := bo) (bm := bm) (vw := vw) (ss := ss) (t := 7) p k4 W y
          have hhl := fun bk bd bo bm vw ss W y => bHeal_any (bk := bk) (bd := bd) (bo := bo) (bm := bm) (vw := vw) (ss := ss) (t := 7) p k4 (by omega) W y
          have hf1 := fun bk bd bo bm vw ss vb W y y2 => bFix_any (bk := bk) (bd := bd) (bo := bo) (bm := bm) (vw := vw) (ss := ss) (t := 7) p Wo vb k5 (by omega) W y y2
          have hf2 := fun bk bd bo bm vw ss vb W y y2 => bFix_any (bk := bk) (bd := bd) (bo := bo) (bm := bm) (vw := vw) (ss := ss) (t := 7) p Wb vb k6 (by omega) W y y2
          have hl2 := fun bk bd bo bm vw ss W y => bLook_any (bk := bk) (bd := bd) (bo := bo) (bm := bm) (vw := vw) (ss := ss) (t := 7) p k7 W y
          rw [hu] at hlk hhl hf1 hf2 hl2
          rw [q1] at hhl
          rw [r1] at hf1
          rw [e7] at hf2
          have hwb := fun v W (h : RB W v b) => whole_any v b W h (by omega)
          have hwo := fun v W (h : RB W v o) => whole_any v o W h (by omega)
          rw [← hWb, hWl] at hwb
          rw [← hWo, hWol] at hwo
          have hfix1 : (fE = 0 ↔ shaL Wo = p.hash) := r4
          have hput2 : putR 7 (dF 32 2 (fun _ => Wb) 0) (uN 32 (4 + 0)) Wb 2 = (p, 0, s1, uN 32 6) := by rw [hp, hs1]; exact hpf
          rw [hput2, show dF 32 2 (fun _ => Wb) 0 = freshD 32 from rfl] at hput
          have hfr0 : freshU 32 = uN 32 (4 + 0) := uN_fresh 32 (by decide)
          rw [hfr0] at HFR
          have ha33 : p.cells[33]? = some (.int .u32 4) := by
            have := p.c33
            rw [List.getElem?_toArray] at this
            rw [this, hp]; rfl
          have ha34 : p.cells[34]? = some (.int .u32 5) := by
            have := p.c34
            rw [List.getElem?_toArray] at this
            rw [this, hp]; rfl
          obtain ⟨g0, hg0⟩ : ∃ x, x = cpB s4 32 p 0 := ⟨_, rfl⟩
          obtain ⟨g1, hg1⟩ : ∃ x, x = cpB s4 32 p 1 := ⟨_, rfl⟩
          have hck4 := hp2.ck hc4
          have hck7 := hp2.ck c7
          rw [show lkG s4 32 p 0 = g0 by rw [lkG, hck4, if_pos rfl, hg0], show lkG s4 32 p 1 = g1 by rw [lkG, hck4, if_pos rfl, hg1], hck4] at hlk
          rw [show lkG s7 32 p 0 = true by rw [lkG, hck7, if_pos rfl, z0], show lkG s7 32 p 1 = true by rw [lkG, hck7, if_pos rfl, z1], hck7] at hl2
          rw [← hg0, ← hg1] at q4 q5
          have hsum := fun v W (h : RB W v Wo) => Sum_any v Wo W h (by rw [hWol]; decide)
          have heq := fun W => bh32_eql (shaL Wo) p.hash (shaL_len _) p.hl W
          have htt := fun W => b2_eql true true true true W
          have hdr : (p.cells.drop 0).take 32 = p.hash.map cb := by
            rw [List.drop_zero, PT.cells, List.take_left' (by rw [List.length_map]; exact p.hl)]
          have HDR := Lib.hid hdr
          have HHL2 := Lib.hid (show (p.hash.map cb).length = 32 by rw [List.length_map]; exact p.hl)
          have HSUM := Lib.hid hsum
          have HEQ := Lib.hid heq
          have HTT := Lib.hid htt
          have HWB := Lib.hid hwb
          have HWO := Lib.hid hwo
          have HPUT := Lib.hid hput
          have HFL := Lib.hid hfl
          have HR1 := Lib.hid hr1
          have HR2 := Lib.hid hr2
          have HLK := Lib.hid hlk
          have HHL := Lib.hid hhl
          have HF1 := Lib.hid hf1
          have HF2 := Lib.hid hf2
          have HL2 := Lib.hid hl2
          have HA33 := Lib.hid ha33
          have HA34 := Lib.hid ha34
          have HPL := Lib.hid p.len
          have HPO := Lib.hid (List.all_eq_true.2 p.one)
          have HQ4 := Lib.hid q4
          have HQ5 := Lib.hid q5
          have HFX := Lib.hid hfix1
          have HPH := Lib.hid hph
          clear hck4 hck7 hg0 hg1 hsum heq htt hdr z0 z1 hbl hol hm1 hm2 hwb hwo hput hfl hr1 hr2 hlk hhl hf1 hf2 hl2 ha33 ha34 q4 q5 hfix1 hph k1 k2 k3 k4 k5 k6 k7 hput2 hfr0 hpf hp2 hcalm hc2 hc3 hc4 hl4 q1 q2 q3 r1 r2 r3 r4 e7 c7 l7 hu hlab hp hs4 hs1 hWl hWol hWb hWo hB hO hM1 hM2
          generalize b.length = bn at *
          generalize m1.length = mn1 at *
          generalize m2.length = mn2 at *
          generalize o.length = on at *
          go_enter Tryd.func4, Tryd.ntmps4
          go_wp2_with (first
            | (go_at_call 14; refine (HFR.out _).mono ?_; rintro e w' ⟨bk, bd, bo, bm, rfl, H1⟩; replace H1 := (H.join H1).perm List.perm_append_comm; (try dsimp only [List.cons_append, List.nil_append] at H1); clear H; have H := H1; clear H1)
            | (go_at_call 15; refine (alive08_any _ (HT.out _ H.below)).mono ?_; rintro e w' ⟨rfl, hb⟩; replace H := H.step hb; clear hb)
            | ((with_reducible refine gDst 4 ?_); refine aBox H _ rfl rfl rfl ?_; clear H; intro b4 w4 H)
            | ((with_reducible refine gDst 9 ?_); refine aAlloc H rfl rfl ?_; clear H; intro b9 w9 H)
            | ((with_reducible refine gDst 12 ?_); refine aAlloc H rfl rfl ?_; clear H; intro b12 w12 H)
            | ((with_reducible refine gDst 22 ?_); refine aAlloc H rfl rfl ?_; clear H; intro b22 w22 H)
            | ((with_reducible refine gLoad ?_); first | (refine aLoad1 H _ rfl rfl (by first | exact (rfl : _ = some (Value.int _ _)) | exact (rfl : _ = some (Value.slice _ _ _)) | exact (rfl : _ = some (Value.bool _)) | exact (rfl : _ = some (Value.string _)) | exact (rfl : _ = some (Value.pointer _)) | rfl | (simp [List.getElem?_append]; done)) rfl ?_) | (refine aLoadC _ rfl rfl (by assumption) rfl ?_) | (refine aLoad H _ rfl rfl (by first | exact part_all (by first | rfl | simp []) | (simp only [List.drop_succ_cons, List.drop_zero, List.take_succ_cons, List.take_zero]; rfl) | (simp [List.drop_append, List.take_append]; rfl)) (by first | rfl | simp []) rfl ?_))
            | ((with_reducible refine gStore ?_); (first | (refine aStore H _ _ rfl rfl rfl (by (first | exact ⟨rfl, rfl⟩ | exact ⟨by decide, rfl⟩ | (simp []; done) | (constructor <;> simp [] <;> omega))) (by first | rfl | simp [List.all_append, one_all]) rfl ?_) | (refine aLay H _ _ rfl rfl rfl (by (first | exact ⟨rfl, rfl⟩ | exact ⟨by decide, rfl⟩ | (simp []; done) | (constructor <;> simp [] <;> omega))) (by first | rfl | simp [List.all_append, one_all]) (by simp only [lay, List.take_succ_cons, List.take_zero, List.drop_succ_cons, List.drop_zero, List.nil_append, List.cons_append, List.length_cons, List.length_nil, Nat.zero_add, Nat.reduceAdd]; rfl) rfl ?_)); clear H; intro w' H; try dsimp only at H))
          go_wp2_with (first
            | (go_at_call 17; refine (HWB.out _ _ (HB.out.below H.below)).mono ?_; rintro e w' ⟨A54, c54, rfl, hoo, hb⟩; replace H := H.pushRow hb hoo; clear hb hoo)
            | (go_at_call 16; have q := HPUT.out bk bd bo bm (.slice none 0 0) [] (.slice A54 256 c54) _ (H.subS (D := bankL bk bd bo bm (.slice none 0 0) [] 7 (freshD 32) (uN 32 (4 + 0)))) (fun w' hc => HT.out _ (H.chgS (D := bankL bk bd bo bm (.slice none 0 0) [] 7 (freshD 32) (uN 32 (4 + 0))) hc).below) (fun w' hc => OR.reads (H.keepHd (D := bankL bk bd bo bm (.slice none 0 0) [] 7 (freshD 32) (uN 32 (4 + 0))) hc)); refine q.mono ?_; clear q; rintro e w' ⟨rfl, vw1, ss1, kk⟩; replace H := H.viaS kk; (try dsimp only at H); clear kk)
            | ((with_reducible refine gSto (.tmp 9) (.tmp 56) ?_); refine aStore H _ _ rfl rfl rfl ⟨by rfl, HPL.out⟩ HPO.out rfl ?_; clear H; intro w' H; (try dsimp only at H))
            | (go_at_call 19; refine (HFL.out bk bd bo bm vw1 ss1 _ (H.subS (D := bankL bk bd bo bm vw1 ss1 7 s1 (uN 32 6)))).mono ?_; rintro e w' ⟨rfl, kk⟩; replace H := H.viaS kk; (try dsimp only at H); clear kk)
            | ((with_reducible refine gDst 63 ?_); refine aLoad1 H _ rfl rfl HA33.out rfl ?_)
            | ((with_reducible refine gDst 71 ?_); refine aLoad1 H _ rfl rfl HA34.out rfl ?_)
            | (go_at_call 20; have q := HR1.out bk bd bo bm (.slice none 0 0) [] (.slice A1 mn1 c1) _ (H.subS (D := bankL bk bd bo bm (.slice none 0 0) [] 7 s1.flush (uN 32 6))) (fun w' hc => HM1.out.below (H.chgS (D := bankL bk bd bo bm (.slice none 0 0) [] 7 s1.flush (uN 32 6)) hc).below); refine q.mono ?_; clear q; rintro e w' ⟨rfl, kk⟩; replace H := H.viaS kk; (try dsimp only at H); clear kk)
            | (go_at_call 20; have q := HR2.out bk bd bo bm (.slice none 0 0) [] (.slice A2 mn2 c2) _ (H.subS (D := bankL bk bd bo bm (.slice none 0 0) [] 7 (s1.flush.rot 4 m1) (uN 32 6))) (fun w' hc => HM2.out.below (H.chgS (D := bankL bk bd bo bm (.slice none 0 0) [] 7 (s1.flush.rot 4 m1) (uN 32 6)) hc).below); refine q.mono ?_; clear q; rintro e w' ⟨rfl, kk⟩; replace H := H.viaS kk; (try dsimp only at H); clear kk)
            | ((with_reducible refine gDst 78 ?_); refine aLoad H _ rfl rfl (part_all HPL.out) HPL.out rfl ?_)
            | (go_at_call 21; refine (HLK.out bk bd bo bm (.slice none 0 0) [] _ (HOLD.suf (D := bankL bk bd bo bm (.slice none 0 0) [] 7 s4 (uN 32 6)) H.hold)).mono ?_; rintro e w' ⟨rfl, hb⟩; replace H := H.step hb; clear hb)
            | ((with_reducible refine gDst 84 ?_); refine aLoad H _ rfl rfl (part_all HPL.out) HPL.out rfl ?_)
            | (go_at_call 22; refine (HHL.out bk bd bo bm (.slice none 0 0) [] _ (H.subS (D := bankL bk bd bo bm (.slice none 0 0) [] 7 s4 (uN 32 6)))).mono ?_; rintro e w' ⟨rfl, vw5, ss5, kk⟩; replace H := H.viaS kk; (try dsimp only at H); clear kk)
            | ((with_reducible refine gDst 4 ?_); refine aBox H _ rfl rfl rfl ?_; clear H; intro b4 w4 H)
            | ((with_reducible refine gDst 9 ?_); refine aAlloc H rfl rfl ?_; clear H; intro b9 w9 H)
            | ((with_reducible refine gDst 12 ?_); refine aAlloc H rfl rfl ?_; clear H; intro b12 w12 H)
            | ((with_reducible refine gDst 22 ?_); refine aAlloc H rfl rfl ?_; clear H; intro b22 w22 H)
            | ((with_reducible refine gLoad ?_); first | (refine aLoad1 H _ rfl rfl (by first | exact (rfl : _ = some (Value.int _ _)) | exact (rfl : _ = some (Value.slice _ _ _)) | exact (rfl : _ = some (Value.bool _)) | exact (rfl : _ = some (Value.string _)) | exact (rfl : _ = some (Value.pointer _)) | rfl | (simp [List.getElem?_append]; done)) rfl ?_) | (refine aLoadC _ rfl rfl (by assumption) rfl ?_) | (refine aLoad H _ rfl rfl (by first | exact part_all (by first | rfl | simp []) | (simp only [List.drop_succ_cons, List.drop_zero, List.take_succ_cons, List.take_zero]; rfl) | (simp [List.drop_append, List.take_append]; rfl)) (by first | rfl | simp []) rfl ?_))
            | ((with_reducible refine gStore ?_); (first | (refine aStore H _ _ rfl rfl rfl (by (first | exact ⟨rfl, rfl⟩ | exact ⟨by decide, rfl⟩ | (simp []; done) | (constructor <;> simp [] <;> omega))) (by first | rfl | simp [List.all_append, one_all]) rfl ?_) | (refine aLay H _ _ rfl rfl rfl (by (first | exact ⟨rfl, rfl⟩ | exact ⟨by decide, rfl⟩ | (simp []; done) | (constructor <;> simp [] <;> omega))) (by first | rfl | simp [List.all_append, one_all]) (by simp only [lay, List.take_succ_cons, List.take_zero, List.drop_succ_cons, List.drop_zero, List.nil_append, List.cons_append, List.length_cons, List.length_nil, Nat.zero_add, Nat.reduceAdd]; rfl) rfl ?_)); clear H; intro w' H; try dsimp only at H))
          have HL := H
          clear H
          go_loopw [16, 17] (fun v16 v17 wr => ∃ i : Nat, v17 = .int .i64 (i : Int) ∧ i ≤ 2 ∧ v16 = .int .i64 ((wantN g0 g1 i : Nat) : Int) ∧ SH Nil w wr (.blk b12 44 [.bool g0, .bool g1] :: .blk b9 33 p.cells :: .row B8 (.slice A54 256 c54) Wb :: .blk b4 41 [.slice A1 mn1 c1, .slice A2 mn2 c2] :: bankL bk bd bo bm vw5 ss5 7 s5 (uN 32 6))) (fun _ v _ => 2 - (intOf v).toNat)
          case atStart => exact ⟨0, rfl, by omega, by simp [wantN], HL⟩
          case round =>
            obtain ⟨i, rfl, hi, rfl, HS⟩ := hrel
            clear HL
            have H := HS
            clear HS
            obtain rfl | rfl | rfl : i = 0 ∨ i = 1 ∨ i = 2 := by omega
            · cases g0 <;> cases g1 <;> (
                go_wp2_with (first
                  | ((with_reducible refine gDst 4 ?_); refine aBox H _ rfl rfl rfl ?_; clear H; intro b4 w4 H)
                  | ((with_reducible refine gDst 9 ?_); refine aAlloc H rfl rfl ?_; clear H; intro b9 w9 H)
                  | ((with_reducible refine gDst 12 ?_); refine aAlloc H rfl rfl ?_; clear H; intro b12 w12 H)
                  | ((with_reducible refine gDst 22 ?_); refine aAlloc H rfl rfl ?_; clear H; intro b22 w22 H)
                  | ((with_reducible refine gLoad ?_); first | (refine aLoad1 H _ rfl rfl (by first | exact (rfl : _ = some (Value.int _ _)) | exact (rfl : _ = some (Value.slice _ _ _)) | exact (rfl : _ = some (Value.bool _)) | exact (rfl : _ = some (Value.string _)) | exact (rfl : _ = some (Value.pointer _)) | rfl | (simp [List.getElem?_append]; done)) rfl ?_) | (refine aLoadC _ rfl rfl (by assumption) rfl ?_) | (refine aLoad H _ rfl rfl (by first | exact part_all (by first | rfl | simp []) | (simp only [List.drop_succ_cons, List.drop_zero, List.take_succ_cons, List.take_zero]; rfl) | (simp [List.drop_append, List.take_append]; rfl)) (by first | rfl | simp []) rfl ?_))
                  | ((with_reducible refine gStore ?_); (first | (refine aStore H _ _ rfl rfl rfl (by (first | exact ⟨rfl, rfl⟩ | exact ⟨by decide, rfl⟩ | (simp []; done) | (constructor <;> simp [] <;> omega))) (by first | rfl | simp [List.all_append, one_all]) rfl ?_) | (refine aLay H _ _ rfl rfl rfl (by (first | exact ⟨rfl, rfl⟩ | exact ⟨by decide, rfl⟩ | (simp []; done) | (constructor <;> simp [] <;> omega))) (by first | rfl | simp [List.all_append, one_all]) (by simp only [lay, List.take_succ_cons, List.take_zero, List.drop_succ_cons, List.drop_zero, List.nil_append, List.cons_append, List.length_cons, List.length_nil, Nat.zero_add, Nat.reduceAdd]; rfl) rfl ?_)); clear H; intro w' H; try dsimp only at H))
                go_roundw
                case rel => exact ⟨1, by go_num, by omega, by simp [wantN] <;> (unfold wrap64; omega), H⟩
                case measure => simp [intOf])
            · cases g0 <;> cases g1 <;> (
                go_wp2_with (first
                  | ((with_reducible refine gDst 4 ?_); refine aBox H _ rfl rfl rfl ?_; clear H; intro b4 w4 H)
                  | ((with_reducible refine gDst 9 ?_); refine aAlloc H rfl rfl ?_; clear H; intro b9 w9 H)
                  | ((with_reducible refine gDst 12 ?_); refine aAlloc H rfl rfl ?_; clear H; intro b12 w12 H)
                  | ((with_reducible refine gDst 22 ?_); refine aAlloc H rfl rfl ?_; clear H; intro b22 w22 H)
                  | ((with_reducible refine gLoad ?_); first | (refine aLoad1 H _ rfl rfl (by first | exact (rfl : _ = some (Value.int _ _)) | exact (rfl : _ = some (Value.slice _ _ _)) | exact (rfl : _ = some (Value.bool _)) | exact (rfl : _ = some (Value.string _)) | exact (rfl : _ = some (Value.pointer _)) | rfl | (simp [List.getElem?_append]; done)) rfl ?_) | (refine aLoadC _ rfl rfl (by assumption) rfl ?_) | (refine aLoad H _ rfl rfl (by first | exact part_all (by first | rfl | simp []) | (simp only [List.drop_succ_cons, List.drop_zero, List.take_succ_cons, List.take_zero]; rfl) | (simp [List.drop_append, List.take_append]; rfl)) (by first | rfl | simp []) rfl ?_))
                  | ((with_reducible refine gStore ?_); (first | (refine aStore H _ _ rfl rfl rfl (by (first | exact ⟨rfl, rfl⟩ | exact ⟨by decide, rfl⟩ | (simp []; done) | (constructor <;> simp [] <;> omega))) (by first | rfl | simp [List.all_append, one_all]) rfl ?_) | (refine aLay H _ _ rfl rfl rfl (by (first | exact ⟨rfl, rfl⟩ | exact ⟨by decide, rfl⟩ | (simp []; done) | (constructor <;> simp [] <;> omega))) (by first | rfl | simp [List.all_append, one_all]) (by simp only [lay, List.take_succ_cons, List.take_zero, List.drop_succ_cons, List.drop_zero, List.nil_append, List.cons_append, List.length_cons, List.length_nil, Nat.zero_add, Nat.reduceAdd]; rfl) rfl ?_)); clear H; intro w' H; try dsimp only at H))
                go_roundw
                case rel => exact ⟨2, by go_num, by omega, by simp [wantN] <;> (unfold wrap64; omega), H⟩
                case measure => simp [intOf])
            · obtain ⟨wn, hwn⟩ : ∃ x, x = wantN g0 g1 2 := ⟨_, rfl⟩
              rw [← hwn]
              have hwt : (hE = 0 ↔ wn < 2) ∧ (hE = 0 → hn = wn) := by
                refine ⟨HQ4.out.trans ?_, fun h => by rw [HQ5.out h, hwn]; cases g0 <;> cases g1 <;> rfl⟩
                rw [hwn]
                cases g0 <;> cases g1 <;> simp [wantN]
              clear HQ4 HQ5 hwn
              by_cases hE0 : hE = 0
              · have hw2 : ((wn : Int) < 2) := by have := hwt.1.1 hE0; omega
                obtain rfl := hwt.2 hE0
                subst hE0
                clear hwt
                by_cases hs : shaL Wo = p.hash
                · skip
                  obtain rfl := HFX.out.2 hs
                  have hse : (shaL Wo == p.hash) = true := beq_iff_eq.2 hs
                  rw [hse] at HEQ
                  clear hse hs HFX
                  go_wp2_with (first
                    | ((with_reducible refine gDst 4 ?_); refine aBox H _ rfl rfl rfl ?_; clear H; intro b4 w4 H)
                    | ((with_reducible refine gDst 9 ?_); refine aAlloc H rfl rfl ?_; clear H; intro b9 w9 H)
                    | ((with_reducible refine gDst 12 ?_); refine aAlloc H rfl rfl ?_; clear H; intro b12 w12 H)
                    | ((with_reducible refine gDst 22 ?_); refine aAlloc H rfl rfl ?_; clear H; intro b22 w22 H)
                    | ((with_reducible refine gLoad ?_); first | (refine aLoad1 H _ rfl rfl (by first | exact (rfl : _ = some (Value.int _ _)) | exact (rfl : _ = some (Value.slice _ _ _)) | exact (rfl : _ = some (Value.bool _)) | exact (rfl : _ = some (Value.string _)) | exact (rfl : _ = some (Value.pointer _)) | rfl | (simp [List.getElem?_append]; done)) rfl ?_) | (refine aLoadC _ rfl rfl (by assumption) rfl ?_) | (refine aLoad H _ rfl rfl (by first | exact part_all (by first | rfl | simp []) | (simp only [List.drop_succ_cons, List.drop_zero, List.take_succ_cons, List.take_zero]; rfl) | (simp [List.drop_append, List.take_append]; rfl)) (by first | rfl | simp []) rfl ?_))
                    | ((with_reducible refine gStore ?_); (first | (refine aStore H _ _ rfl rfl rfl (by (first | exact ⟨rfl, rfl⟩ | exact ⟨by decide, rfl⟩ | (simp []; done) | (constructor <;> simp [] <;> omega))) (by first | rfl | simp [List.all_append, one_all]) rfl ?_) | (refine aLay H _ _ rfl rfl rfl (by (first | exact ⟨rfl, rfl⟩ | exact ⟨by decide, rfl⟩ | (simp []; done) | (constructor <;> simp [] <;> omega))) (by first | rfl | simp [List.all_append, one_all]) (by simp only [lay, List.take_succ_cons, List.take_zero, List.drop_succ_cons, List.drop_zero, List.nil_append, List.cons_append, List.length_cons, List.length_nil, Nat.zero_add, Nat.reduceAdd]; rfl) rfl ?_)); clear H; intro w' H; try dsimp only at H))
                  refine startA (fun i => i == 4) (by kernel_rfl) (fun wS hS => ?_)
                  replace H := H.drew
                  rw [← hS] at H
                  have HH := H.hold
                  have HS0 : Below wS.heap.size wS wS := Below.refl _ _
                  clear hS
                  refine takeP 0 rfl (by kernel_rfl) (by kernel_rfl) (by kernel_rfl) (by kernel_rfl) (fun _ _ _ h => h) rfl (v := ?_) ?_ ?_
                  rotate_left
                  · intro w'; go_simp; (try with_reducible rfl)
                  (try simp only [Act.put, List.setIfInBounds_toArray, List.set_cons_zero, List.set_cons_succ])
                  refine takeL 1 HS0 rfl (by kernel_rfl) (by kernel_rfl) (by kernel_rfl) (by kernel_rfl) (by kernel_rfl) (fun _ _ _ h => h) rfl (v := ?_) ?_ ?_
                  rotate_left
                  · intro w' hw'; refine Eq.trans (xLoad (HH.below hw') _ rfl rfl (part_all HPL.out) HPL.out) ?_; with_reducible rfl
                  (try simp only [Act.put, List.setIfInBounds_toArray, List.set_cons_zero, List.set_cons_succ])
                  refine takeP 2 rfl (by kernel_rfl) (by kernel_rfl) (by kernel_rfl) (by kernel_rfl) (fun _ _ _ h => h) rfl (v := ?_) ?_ ?_
                  rotate_left
                  · intro w'; go_simp; (try with_reducible rfl)
                  (try simp only [Act.put, List.setIfInBounds_toArray, List.set_cons_zero, List.set_cons_succ])
                  refine stepL 3 rfl (by kernel_rfl) rfl (fun K hK => ?_)
                  (go_simp; (with_reducible refine ((HWO.out _ _ (HO.out.below H.below))).mono ?_); rintro e w' ⟨A128, c128, rfl, ho, hb⟩; replace H := H.pushRow hb ho; clear ho; first | (replace HS0 := below_two HS0 HS0.size hb; clear hb; refine hK.out _ _ (fun _ _ => HS0) ?_; clear K hK) | (refine hK.out _ _ (fun _ h => below_two h h.size hb) ?_; clear hb K hK))
                  (try simp only [Act.put, List.setIfInBounds_toArray, List.set_cons_zero, List.set_cons_succ])
                  refine stepL 4 rfl (by kernel_rfl) rfl (fun K hK => ?_)
                  (go_simp; have q := HF1.out bk bd bo bm vw5 ss5 (.slice A128 256 c128) _ (H.subS (D := bankL bk bd bo bm vw5 ss5 7 s5 (uN 32 6))) (fun w2 hc2 => OR.reads (H.keepHd (D := bankL bk bd bo bm vw5 ss5 7 s5 (uN 32 6)) hc2)); (with_reducible refine q.mono ?_); rintro e w' ⟨rfl, vw6, ss6, kk⟩; replace H := H.viaS kk; (try dsimp only at H); clear kk; refine hK.out _ _ (fun h => by cases h) ?_; clear K hK HS0)
                  (try simp only [Act.put, List.setIfInBounds_toArray, List.set_cons_zero, List.set_cons_succ])
                  refine takeP 5 rfl (by kernel_rfl) (by kernel_rfl) (by kernel_rfl) (by kernel_rfl) (fun _ _ _ h => h) rfl (v := ?_) ?_ ?_
                  rotate_left
                  · intro w'; go_simp; (try with_reducible rfl)
                  (try simp only [Act.put, List.setIfInBounds_toArray, List.set_cons_zero, List.set_cons_succ])
                  refine takeP 6 rfl (by kernel_rfl) (by kernel_rfl) (by kernel_rfl) (by kernel_rfl) (fun _ _ _ h => h) rfl (v := ?_) ?_ ?_
                  rotate_left
                  · intro w'; go_simp; (try with_reducible rfl)
                  (try simp only [Act.put, List.setIfInBounds_toArray, List.set_cons_zero, List.set_cons_succ])
                  refine takeP 7 rfl (by kernel_rfl) (by kernel_rfl) (by kernel_rfl) (by kernel_rfl) (fun _ _ _ h => h) rfl (v := ?_) ?_ ?_
                  rotate_left
                  · intro w'; go_simp; (try with_reducible rfl)
                  (try simp only [Act.put, List.setIfInBounds_toArray, List.set_cons_zero, List.set_cons_succ])
                  refine takeP 8 rfl (by kernel_rfl) (by kernel_rfl) (by kernel_rfl) (by kernel_rfl) (fun _ _ _ h => h) rfl (v := ?_) ?_ ?_
                  rotate_left
                  · intro w'; go_simp; (try with_reducible rfl)
                  (try simp only [Act.put, List.setIfInBounds_toArray, List.set_cons_zero, List.set_cons_succ])
                  refine takeP 9 rfl (by kernel_rfl) (by kernel_rfl) (by kernel_rfl) (by kernel_rfl) (fun _ _ _ h => h) rfl (v := ?_) ?_ ?_
                  rotate_left
                  · intro w'; go_simp; (try with_reducible rfl)
                  (try simp only [Act.put, List.setIfInBounds_toArray, List.set_cons_zero, List.set_cons_succ])
                  refine doneL (by kernel_rfl) ?_
                  clear HH
                  go_wp2
                  refine startA (fun i => false) (by kernel_rfl) (fun wS hS => ?_)
                  replace H := H.drew
                  rw [← hS] at H
                  have HH := H.hold
                  have HS0 : Below wS.heap.size wS wS := Below.refl _ _
                  clear hS
                  refine takeP 0 rfl (by kernel_rfl) (by kernel_rfl) (by kernel_rfl) (by kernel_rfl) (fun _ _ _ h => h) rfl (v := ?_) ?_ ?_
                  rotate_left
                  · intro w'; go_simp; (try with_reducible rfl)
                  (try simp only [Act.put, List.setIfInBounds_toArray, List.set_cons_zero, List.set_cons_succ])
                  refine takeP 1 rfl (by kernel_rfl) (by kernel_rfl) (by kernel_rfl) (by kernel_rfl) (fun _ _ _ h => h) rfl (v := ?_) ?_ ?_
                  rotate_left
                  · intro w'; go_simp; (try with_reducible rfl)
                  (try simp only [Act.put, List.setIfInBounds_toArray, List.set_cons_zero, List.set_cons_succ])
                  refine takeP 2 rfl (by kernel_rfl) (by kernel_rfl) (by kernel_rfl) (by kernel_rfl) (fun _ _ _ h => h) rfl (v := ?_) ?_ ?_
                  rotate_left
                  · intro w'; go_simp; (try with_reducible rfl)
                  (try simp only [Act.put, List.setIfInBounds_toArray, List.set_cons_zero, List.set_cons_succ])
                  refine takeP 5 rfl (by kernel_rfl) (by kernel_rfl) (by kernel_rfl) (by kernel_rfl) (fun _ _ _ h => h) rfl (v := ?_) ?_ ?_
                  rotate_left
                  · intro w'; go_simp; (try with_reducible rfl)
                  (try simp only [Act.put, List.setIfInBounds_toArray, List.set_cons_zero, List.set_cons_succ])
                  refine takeL 6 HS0 rfl (by kernel_rfl) (by kernel_rfl) (by kernel_rfl) (by kernel_rfl) (by kernel_rfl) (fun _ _ _ h => h) rfl (v := ?_) ?_ ?_
                  rotate_left
                  · intro w' hw'; refine Eq.trans (xLoad (HH.below hw') _ rfl rfl HDR.out HHL2.out) ?_; with_reducible rfl
                  (try simp only [Act.put, List.setIfInBounds_toArray, List.set_cons_zero, List.set_cons_succ])
                  refine stepL 3 rfl (by kernel_rfl) rfl (fun K hK => ?_)
                  (go_simp; (with_reducible refine ((HWO.out _ _ (HO.out.below H.below))).mono ?_); rintro e w' ⟨A135, c135, rfl, ho, hb⟩; replace H := H.pushRow hb ho; clear ho; first | (replace HS0 := below_two HS0 HS0.size hb; clear hb; refine hK.out _ _ (fun _ _ => HS0) ?_; clear K hK) | (refine hK.out _ _ (fun _ h => below_two h h.size hb) ?_; clear hb K hK))
                  (try simp only [Act.put, List.setIfInBounds_toArray, List.set_cons_zero, List.set_cons_succ])
                  refine stepL 4 rfl (by kernel_rfl) rfl (fun K hK => ?_)
                  (go_simp; (with_reducible refine ((HSUM.out _ _ (H.hold.rr (.slice A135 256 c135)))).mono ?_); rintro e w' ⟨rfl, hb⟩; replace H := H.step hb; first | (replace HS0 := below_two HS0 HS0.size hb; clear hb; refine hK.out _ _ (fun _ _ => HS0) ?_; clear K hK) | (refine hK.out _ _ (fun _ h => below_two h h.size hb) ?_; clear hb K hK))
                  (try simp only [Act.put, List.setIfInBounds_toArray, List.set_cons_zero, List.set_cons_succ])
                  refine takeL 7 HS0 rfl (by kernel_rfl) (by kernel_rfl) (by kernel_rfl) (by kernel_rfl) (by kernel_rfl) (fun _ _ _ h => h) rfl (v := ?_) ?_ ?_
                  rotate_left
                  · intro w' hw'; refine Eq.trans (exec_eql 29 _ _ _ rfl _ _ rfl rfl bh32_guard _ (HEQ.out _)) ?_; with_reducible rfl
                  (try simp only [Act.put, List.setIfInBounds_toArray, List.set_cons_zero, List.set_cons_succ])
                  refine takeP 8 rfl (by kernel_rfl) (by kernel_rfl) (by kernel_rfl) (by kernel_rfl) (fun _ _ _ h => h) rfl (v := ?_) ?_ ?_
                  rotate_left
                  · intro w'; go_simp; (try with_reducible rfl)
                  (try simp only [Act.put, List.setIfInBounds_toArray, List.set_cons_zero, List.set_cons_succ])
                  refine doneL (by kernel_rfl) ?_
                  clear HH
                  go_wp2
                  refine startA (fun i => i == 4) (by kernel_rfl) (fun wS hS => ?_)
                  replace H := H.drew
                  rw [← hS] at H
                  have HH := H.hold
                  have HS0 : Below wS.heap.size wS wS := Below.refl _ _
                  clear hS
                  refine takeP 0 rfl (by kernel_rfl) (by kernel_rfl) (by kernel_rfl) (by kernel_rfl) (fun _ _ _ h => h) rfl (v := ?_) ?_ ?_
                  rotate_left
                  · intro w'; go_simp; (try with_reducible rfl)
                  (try simp only [Act.put, List.setIfInBounds_toArray, List.set_cons_zero, List.set_cons_succ])
                  refine takeL 1 HS0 rfl (by kernel_rfl) (by kernel_rfl) (by kernel_rfl) (by kernel_rfl) (by kernel_rfl) (fun _ _ _ h => h) rfl (v := ?_) ?_ ?_
                  rotate_left
                  · intro w' hw'; refine Eq.trans (xLoad (HH.below hw') _ rfl rfl (part_all HPL.out) HPL.out) ?_; with_reducible rfl
                  (try simp only [Act.put, List.setIfInBounds_toArray, List.set_cons_zero, List.set_cons_succ])
                  refine takeP 2 rfl (by kernel_rfl) (by kernel_rfl) (by kernel_rfl) (by kernel_rfl) (fun _ _ _ h => h) rfl (v := ?_) ?_ ?_
                  rotate_left
                  · intro w'; go_simp; (try with_reducible rfl)
                  (try simp only [Act.put, List.setIfInBounds_toArray, List.set_cons_zero, List.set_cons_succ])
                  refine stepL 3 rfl (by kernel_rfl) rfl (fun K hK => ?_)
                  (go_simp; (with_reducible refine ((HWB.out _ _ (HB.out.below H.below))).mono ?_); rintro e w' ⟨A145, c145, rfl, ho, hb⟩; replace H := H.pushRow hb ho; clear ho; first | (replace HS0 := below_two HS0 HS0.size hb; clear hb; refine hK.out _ _ (fun _ _ => HS0) ?_; clear K hK) | (refine hK.out _ _ (fun _ h => below_two h h.size hb) ?_; clear hb K hK))
                  (try simp only [Act.put, List.setIfInBounds_toArray, List.set_cons_zero, List.set_cons_succ])
                  refine stepL 4 rfl (by kernel_rfl) rfl (fun K hK => ?_)
                  (go_simp; have q := HF2.out bk bd bo bm vw6 ss6 (.slice A145 256 c145) _ (H.subS (D := bankL bk bd bo bm vw6 ss6 7 s6 (uN 32 6))) (fun w2 hc2 => OR.reads (H.keepHd (D := bankL bk bd bo bm vw6 ss6 7 s6 (uN 32 6)) hc2)); (with_reducible refine q.mono ?_); rintro e w' ⟨rfl, vw7, ss7, kk⟩; replace H := H.viaS kk; (try dsimp only at H); clear kk; refine hK.out _ _ (fun h => by cases h) ?_; clear K hK HS0)
                  (try simp only [Act.put, List.setIfInBounds_toArray, List.set_cons_zero, List.set_cons_succ])
                  refine takeP 5 rfl (by kernel_rfl) (by kernel_rfl) (by kernel_rfl) (by kernel_rfl) (fun _ _ _ h => h) rfl (v := ?_) ?_ ?_
                  rotate_left
                  · intro w'; go_simp; (try with_reducible rfl)
                  (try simp only [Act.put, List.setIfInBounds_toArray, List.set_cons_zero, List.set_cons_succ])
                  refine takeP 6 rfl (by kernel_rfl) (by kernel_rfl) (by kernel_rfl) (by kernel_rfl) (fun _ _ _ h => h) rfl (v := ?_) ?_ ?_
                  rotate_left
                  · intro w'; go_simp; (try with_reducible rfl)
                  (try simp only [Act.put, List.setIfInBounds_toArray, List.set_cons_zero, List.set_cons_succ])
                  refine takeP 7 rfl (by kernel_rfl) (by kernel_rfl) (by kernel_rfl) (by kernel_rfl) (fun _ _ _ h => h) rfl (v := ?_) ?_ ?_
                  rotate_left
                  · intro w'; go_simp; (try with_reducible rfl)
                  (try simp only [Act.put, List.setIfInBounds_toArray, List.set_cons_zero, List.set_cons_succ])
                  refine takeP 8 rfl (by kernel_rfl) (by kernel_rfl) (by kernel_rfl) (by kernel_rfl) (fun _ _ _ h => h) rfl (v := ?_) ?_ ?_
                  rotate_left
                  · intro w'; go_simp; (try with_reducible rfl)
                  (try simp only [Act.put, List.setIfInBounds_toArray, List.set_cons_zero, List.set_cons_succ])
                  refine takeP 9 rfl (by kernel_rfl) (by kernel_rfl) (by kernel_rfl) (by kernel_rfl) (fun _ _ _ h => h) rfl (v := ?_) ?_ ?_
                  rotate_left
                  · intro w'; go_simp; (try with_reducible rfl)
                  (try simp only [Act.put, List.setIfInBounds_toArray, List.set_cons_zero, List.set_cons_succ])
                  refine doneL (by kernel_rfl) ?_
                  clear HH
                  go_wp2_with (first
                    | ((with_reducible refine gDst 151 ?_); refine aLoad H _ rfl rfl (part_all HPL.out) HPL.out rfl ?_)
                    | (go_at_call 21; refine (HL2.out bk bd bo bm vw7 ss7 _ (HOLD.suf (D := bankL bk bd bo bm vw7 ss7 7 s7 (uN 32 6)) H.hold)).mono ?_; rintro e w' ⟨rfl, hb⟩; replace H := H.step hb; clear hb)
                    | (go_at_call 15; refine (alive08_any _ (HT.out _ H.below)).mono ?_; rintro e w' ⟨rfl, hb⟩; replace H := H.step hb; clear hb)
                    | ((with_reducible refine gDst 166 ?_); refine stepV (exec_buildL 44 [(0, .const (.bool true)), (1, .const (.bool true))] rfl [(0, .bool true), (1, .bool true)] rfl [.bool true, .bool true] (by kernel_rfl)) rfl ?_)
                    | ((with_reducible refine gDst 167 ?_); refine stepV (exec_eql 44 _ _ _ rfl _ _ rfl rfl b2_guard _ (HTT.out _)) rfl ?_)
                    | ((with_reducible refine gDst 4 ?_); refine aBox H _ rfl rfl rfl ?_; clear H; intro b4 w4 H)
                    | ((with_reducible refine gDst 9 ?_); refine aAlloc H rfl rfl ?_; clear H; intro b9 w9 H)
                    | ((with_reducible refine gDst 12 ?_); refine aAlloc H rfl rfl ?_; clear H; intro b12 w12 H)
                    | ((with_reducible refine gDst 22 ?_); refine aAlloc H rfl rfl ?_; clear H; intro b22 w22 H)
                    | ((with_reducible refine gLoad ?_); first | (refine aLoad1 H _ rfl rfl (by first | exact (rfl : _ = some (Value.int _ _)) | exact (rfl : _ = some (Value.slice _ _ _)) | exact (rfl : _ = some (Value.bool _)) | exact (rfl : _ = some (Value.string _)) | exact (rfl : _ = some (Value.pointer _)) | rfl | (simp [List.getElem?_append]; done)) rfl ?_) | (refine aLoadC _ rfl rfl (by assumption) rfl ?_) | (refine aLoad H _ rfl rfl (by first | exact part_all (by first | rfl | simp []) | (simp only [List.drop_succ_cons, List.drop_zero, List.take_succ_cons, List.take_zero]; rfl) | (simp [List.drop_append, List.take_append]; rfl)) (by first | rfl | simp []) rfl ?_))
                    | ((with_reducible refine gStore ?_); (first | (refine aStore H _ _ rfl rfl rfl (by (first | exact ⟨rfl, rfl⟩ | exact ⟨by decide, rfl⟩ | (simp []; done) | (constructor <;> simp [] <;> omega))) (by first | rfl | simp [List.all_append, one_all]) rfl ?_) | (refine aLay H _ _ rfl rfl rfl (by (first | exact ⟨rfl, rfl⟩ | exact ⟨by decide, rfl⟩ | (simp []; done) | (constructor <;> simp [] <;> omega))) (by first | rfl | simp [List.all_append, one_all]) (by simp only [lay, List.take_succ_cons, List.take_zero, List.drop_succ_cons, List.drop_zero, List.nil_append, List.cons_append, List.length_cons, List.length_nil, Nat.zero_add, Nat.reduceAdd]; rfl) rfl ?_)); clear H; intro w' H; try dsimp only at H))
                  go_ret
                  exact ⟨rfl, H.below⟩
                · skip
                  have hf0 : (fE = 0) = False := eq_false (fun h => hs (HFX.out.1 h))
                  have hf0b : (fE == 0) = false := beq_eq_false_iff_ne.2 (fun h => hs (HFX.out.1 h))
                  have hse : (shaL Wo == p.hash) = false := beq_eq_false_iff_ne.2 hs
                  rw [hse] at HEQ
                  clear hse hs HFX
                  go_wp2_with (first
                    | ((with_reducible refine gDst 4 ?_); refine aBox H _ rfl rfl rfl ?_; clear H; intro b4 w4 H)
                    | ((with_reducible refine gDst 9 ?_); refine aAlloc H rfl rfl ?_; clear H; intro b9 w9 H)
                    | ((with_reducible refine gDst 12 ?_); refine aAlloc H rfl rfl ?_; clear H; intro b12 w12 H)
                    | ((with_reducible refine gDst 22 ?_); refine aAlloc H rfl rfl ?_; clear H; intro b22 w22 H)
                    | ((with_reducible refine gLoad ?_); first | (refine aLoad1 H _ rfl rfl (by first | exact (rfl : _ = some (Value.int _ _)) | exact (rfl : _ = some (Value.slice _ _ _)) | exact (rfl : _ = some (Value.bool _)) | exact (rfl : _ = some (Value.string _)) | exact (rfl : _ = some (Value.pointer _)) | rfl | (simp [List.getElem?_append]; done)) rfl ?_) | (refine aLoadC _ rfl rfl (by assumption) rfl ?_) | (refine aLoad H _ rfl rfl (by first | exact part_all (by first | rfl | simp []) | (simp only [List.drop_succ_cons, List.drop_zero, List.take_succ_cons, List.take_zero]; rfl) | (simp [List.drop_append, List.take_append]; rfl)) (by first | rfl | simp []) rfl ?_))
                    | ((with_reducible refine gStore ?_); (first | (refine aStore H _ _ rfl rfl rfl (by (first | exact ⟨rfl, rfl⟩ | exact ⟨by decide, rfl⟩ | (simp []; done) | (constructor <;> simp [] <;> omega))) (by first | rfl | simp [List.all_append, one_all]) rfl ?_) | (refine aLay H _ _ rfl rfl rfl (by (first | exact ⟨rfl, rfl⟩ | exact ⟨by decide, rfl⟩ | (simp []; done) | (constructor <;> simp [] <;> omega))) (by first | rfl | simp [List.all_append, one_all]) (by simp only [lay, List.take_succ_cons, List.take_zero, List.drop_succ_cons, List.drop_zero, List.nil_append, List.cons_append, List.length_cons, List.length_nil, Nat.zero_add, Nat.reduceAdd]; rfl) rfl ?_)); clear H; intro w' H; try dsimp only at H))
                  refine startA (fun i => i == 4) (by kernel_rfl) (fun wS hS => ?_)
                  replace H := H.drew
                  rw [← hS] at H
                  have HH := H.hold
                  have HS0 : Below wS.heap.size wS wS := Below.refl _ _
                  clear hS
                  refine takeP 0 rfl (by kernel_rfl) (by kernel_rfl) (by kernel_rfl) (by kernel_rfl) (fun _ _ _ h => h) rfl (v := ?_) ?_ ?_
                  rotate_left
                  · intro w'; go_simp; (try with_reducible rfl)
                  (try simp only [Act.put, List.setIfInBounds_toArray, List.set_cons_zero, List.set_cons_succ])
                  refine takeL 1 HS0 rfl (by kernel_rfl) (by kernel_rfl) (by kernel_rfl) (by kernel_rfl) (by kernel_rfl) (fun _ _ _ h => h) rfl (v := ?_) ?_ ?_
                  rotate_left
                  · intro w' hw'; refine Eq.trans (xLoad (HH.below hw') _ rfl rfl (part_all HPL.out) HPL.out) ?_; with_reducible rfl
                  (try simp only [Act.put, List.setIfInBounds_toArray, List.set_cons_zero, List.set_cons_succ])
                  refine takeP 2 rfl (by kernel_rfl) (by kernel_rfl) (by kernel_rfl) (by kernel_rfl) (fun _ _ _ h => h) rfl (v := ?_) ?_ ?_
                  rotate_left
                  · intro w'; go_simp; (try with_reducible rfl)
                  (try simp only [Act.put, List.setIfInBounds_toArray, List.set_cons_zero, List.set_cons_succ])
                  refine stepL 3 rfl (by kernel_rfl) rfl (fun K hK => ?_)
                  (go_simp; (with_reducible refine ((HWO.out _ _ (HO.out.below H.below))).mono ?_); rintro e w' ⟨A128, c128, rfl, ho, hb⟩; replace H := H.pushRow hb ho; clear ho; first | (replace HS0 := below_two HS0 HS0.size hb; clear hb; refine hK.out _ _ (fun _ _ => HS0) ?_; clear K hK) | (refine hK.out _ _ (fun _ h => below_two h h.size hb) ?_; clear hb K hK))
                  (try simp only [Act.put, List.setIfInBounds_toArray, List.set_cons_zero, List.set_cons_succ])
                  refine stepL 4 rfl (by kernel_rfl) rfl (fun K hK => ?_)
                  (go_simp; have q := HF1.out bk bd bo bm vw5 ss5 (.slice A128 256 c128) _ (H.subS (D := bankL bk bd bo bm vw5 ss5 7 s5 (uN 32 6))) (fun w2 hc2 => OR.reads (H.keepHd (D := bankL bk bd bo bm vw5 ss5 7 s5 (uN 32 6)) hc2)); (with_reducible refine q.mono ?_); rintro e w' ⟨rfl, vw6, ss6, kk⟩; replace H := H.viaS kk; (try dsimp only at H); clear kk; refine hK.out _ _ (fun h => by cases h) ?_; clear K hK HS0)
                  (try simp only [Act.put, List.setIfInBounds_toArray, List.set_cons_zero, List.set_cons_succ])
                  refine takeP 5 rfl (by kernel_rfl) (by kernel_rfl) (by kernel_rfl) (by kernel_rfl) (fun _ _ _ h => h) rfl (v := ?_) ?_ ?_
                  rotate_left
                  · intro w'; go_simp; (try with_reducible rfl)
                  (try simp only [Act.put, List.setIfInBounds_toArray, List.set_cons_zero, List.set_cons_succ])
                  refine takeP 6 rfl (by kernel_rfl) (by kernel_rfl) (by kernel_rfl) (by kernel_rfl) (fun _ _ _ h => h) rfl (v := ?_) ?_ ?_
                  rotate_left
                  · intro w'; go_simp; (try with_reducible rfl)
                  (try simp only [Act.put, List.setIfInBounds_toArray, List.set_cons_zero, List.set_cons_succ])
                  refine takeP 7 rfl (by kernel_rfl) (by kernel_rfl) (by kernel_rfl) (by kernel_rfl) (fun _ _ _ h => h) rfl (v := ?_) ?_ ?_
                  rotate_left
                  · intro w'; go_simp; (try with_reducible rfl)
                  (try simp only [Act.put, List.setIfInBounds_toArray, List.set_cons_zero, List.set_cons_succ])
                  refine takeP 8 rfl (by kernel_rfl) (by kernel_rfl) (by kernel_rfl) (by kernel_rfl) (fun _ _ _ h => h) rfl (v := ?_) ?_ ?_
                  rotate_left
                  · intro w'; go_simp; (try with_reducible rfl)
                  (try simp only [Act.put, List.setIfInBounds_toArray, List.set_cons_zero, List.set_cons_succ])
                  refine takeP 9 rfl (by kernel_rfl) (by kernel_rfl) (by kernel_rfl) (by kernel_rfl) (fun _ _ _ h => h) rfl (v := ?_) ?_ ?_
                  rotate_left
                  · intro w'; go_simp; (try with_reducible rfl)
                  (try simp only [Act.put, List.setIfInBounds_toArray, List.set_cons_zero, List.set_cons_succ])
                  refine doneL (by kernel_rfl) ?_
                  clear HH
                  go_wp2
                  refine startA (fun i => false) (by kernel_rfl) (fun wS hS => ?_)
                  replace H := H.drew
                  rw [← hS] at H
                  have HH := H.hold
                  have HS0 : Below wS.heap.size wS wS := Below.refl _ _
                  clear hS
                  refine takeP 0 rfl (by kernel_rfl) (by kernel_rfl) (by kernel_rfl) (by kernel_rfl) (fun _ _ _ h => h) rfl (v := ?_) ?_ ?_
                  rotate_left
                  · intro w'; go_simp; (try with_reducible rfl)
                  (try simp only [Act.put, List.setIfInBounds_toArray, List.set_cons_zero, List.set_cons_succ])
                  refine takeP 1 rfl (by kernel_rfl) (by kernel_rfl) (by kernel_rfl) (by kernel_rfl) (fun _ _ _ h => h) rfl (v := ?_) ?_ ?_
                  rotate_left
                  · intro w'; go_simp; (try with_reducible rfl)
                  (try simp only [Act.put, List.setIfInBounds_toArray, List.set_cons_zero, List.set_cons_succ])
                  refine takeP 2 rfl (by kernel_rfl) (by kernel_rfl) (by kernel_rfl) (by kernel_rfl) (fun _ _ _ h => h) rfl (v := ?_) ?_ ?_
                  rotate_left
                  · intro w'; go_simp; (try with_reducible rfl)
                  (try simp only [Act.put, List.setIfInBounds_toArray, List.set_cons_zero, List.set_cons_succ])
                  refine takeP 5 rfl (by kernel_rfl) (by kernel_rfl) (by kernel_rfl) (by kernel_rfl) (fun _ _ _ h => h) rfl (v := ?_) ?_ ?_
                  rotate_left
                  · intro w'; go_simp; (try with_reducible rfl)
                  (try simp only [Act.put, List.setIfInBounds_toArray, List.set_cons_zero, List.set_cons_succ])
                  refine takeL 6 HS0 rfl (by kernel_rfl) (by kernel_rfl) (by kernel_rfl) (by kernel_rfl) (by kernel_rfl) (fun _ _ _ h => h) rfl (v := ?_) ?_ ?_
                  rotate_left
                  · intro w' hw'; refine Eq.trans (xLoad (HH.below hw') _ rfl rfl HDR.out HHL2.out) ?_; with_reducible rfl
                  (try simp only [Act.put, List.setIfInBounds_toArray, List.set_cons_zero, List.set_cons_succ])
                  refine stepL 3 rfl (by kernel_rfl) rfl (fun K hK => ?_)
                  (go_simp; (with_reducible refine ((HWO.out _ _ (HO.out.below H.below))).mono ?_); rintro e w' ⟨A135, c135, rfl, ho, hb⟩; replace H := H.pushRow hb ho; clear ho; first | (replace HS0 := below_two HS0 HS0.size hb; clear hb; refine hK.out _ _ (fun _ _ => HS0) ?_; clear K hK) | (refine hK.out _ _ (fun _ h => below_two h h.size hb) ?_; clear hb K hK))
                  (try simp only [Act.put, List.setIfInBounds_toArray, List.set_cons_zero, List.set_cons_succ])
                  refine stepL 4 rfl (by kernel_rfl) rfl (fun K hK => ?_)
                  (go_simp; (with_reducible refine ((HSUM.out _ _ (H.hold.rr (.slice A135 256 c135)))).mono ?_); rintro e w' ⟨rfl, hb⟩; replace H := H.step hb; first | (replace HS0 := below_two HS0 HS0.size hb; clear hb; refine hK.out _ _ (fun _ _ => HS0) ?_; clear K hK) | (refine hK.out _ _ (fun _ h => below_two h h.size hb) ?_; clear hb K hK))
                  (try simp only [Act.put, List.setIfInBounds_toArray, List.set_cons_zero, List.set_cons_succ])
                  refine takeL 7 HS0 rfl (by kernel_rfl) (by kernel_rfl) (by kernel_rfl) (by kernel_rfl) (by kernel_rfl) (fun _ _ _ h => h) rfl (v := ?_) ?_ ?_
                  rotate_left
                  · intro w' hw'; refine Eq.trans (exec_eql 29 _ _ _ rfl _ _ rfl rfl bh32_guard _ (HEQ.out _)) ?_; with_reducible rfl
                  (try simp only [Act.put, List.setIfInBounds_toArray, List.set_cons_zero, List.set_cons_succ])
                  refine takeP 8 rfl (by kernel_rfl) (by kernel_rfl) (by kernel_rfl) (by kernel_rfl) (fun _ _ _ h => h) rfl (v := ?_) ?_ ?_
                  rotate_left
                  · intro w'; go_simp; (try with_reducible rfl)
                  (try simp only [Act.put, List.setIfInBounds_toArray, List.set_cons_zero, List.set_cons_succ])
                  refine doneL (by kernel_rfl) ?_
                  clear HH
                  go_wp2
                  refine startA (fun i => i == 4) (by kernel_rfl) (fun wS hS => ?_)
                  replace H := H.drew
                  rw [← hS] at H
                  have HH := H.hold
                  have HS0 : Below wS.heap.size wS wS := Below.refl _ _
                  clear hS
                  refine takeP 0 rfl (by kernel_rfl) (by kernel_rfl) (by kernel_rfl) (by kernel_rfl) (fun _ _ _ h => h) rfl (v := ?_) ?_ ?_
                  rotate_left
                  · intro w'; go_simp; (try with_reducible rfl)
                  (try simp only [Act.put, List.setIfInBounds_toArray, List.set_cons_zero, List.set_cons_succ])
                  refine takeL 1 HS0 rfl (by kernel_rfl) (by kernel_rfl) (by kernel_rfl) (by kernel_rfl) (by kernel_rfl) (fun _ _ _ h => h) rfl (v := ?_) ?_ ?_
                  rotate_left
                  · intro w' hw'; refine Eq.trans (xLoad (HH.below hw') _ rfl rfl (part_all HPL.out) HPL.out) ?_; with_reducible rfl
                  (try simp only [Act.put, List.setIfInBounds_toArray, List.set_cons_zero, List.set_cons_succ])
                  refine takeP 2 rfl (by kernel_rfl) (by kernel_rfl) (by kernel_rfl) (by kernel_rfl) (fun _ _ _ h => h) rfl (v := ?_) ?_ ?_
                  rotate_left
                  · intro w'; go_simp; (try with_reducible rfl)
                  (try simp only [Act.put, List.setIfInBounds_toArray, List.set_cons_zero, List.set_cons_succ])
                  refine stepL 3 rfl (by kernel_rfl) rfl (fun K hK => ?_)
                  (go_simp; (with_reducible refine ((HWB.out _ _ (HB.out.below H.below))).mono ?_); rintro e w' ⟨A145, c145, rfl, ho, hb⟩; replace H := H.pushRow hb ho; clear ho; first | (replace HS0 := below_two HS0 HS0.size hb; clear hb; refine hK.out _ _ (fun _ _ => HS0) ?_; clear K hK) | (refine hK.out _ _ (fun _ h => below_two h h.size hb) ?_; clear hb K hK))
                  (try simp only [Act.put, List.setIfInBounds_toArray, List.set_cons_zero, List.set_cons_succ])
                  refine stepL 4 rfl (by kernel_rfl) rfl (fun K hK => ?_)
                  (go_simp; have q := HF2.out bk bd bo bm vw6 ss6 (.slice A145 256 c145) _ (H.subS (D := bankL bk bd bo bm vw6 ss6 7 s6 (uN 32 6))) (fun w2 hc2 => OR.reads (H.keepHd (D := bankL bk bd bo bm vw6 ss6 7 s6 (uN 32 6)) hc2)); (with_reducible refine q.mono ?_); rintro e w' ⟨rfl, vw7, ss7, kk⟩; replace H := H.viaS kk; (try dsimp only at H); clear kk; refine hK.out _ _ (fun h => by cases h) ?_; clear K hK HS0)
                  (try simp only [Act.put, List.setIfInBounds_toArray, List.set_cons_zero, List.set_cons_succ])
                  refine takeP 5 rfl (by kernel_rfl) (by kernel_rfl) (by kernel_rfl) (by kernel_rfl) (fun _ _ _ h => h) rfl (v := ?_) ?_ ?_
                  rotate_left
                  · intro w'; go_simp; (try with_reducible rfl)
                  (try simp only [Act.put, List.setIfInBounds_toArray, List.set_cons_zero, List.set_cons_succ])
                  refine takeP 6 rfl (by kernel_rfl) (by kernel_rfl) (by kernel_rfl) (by kernel_rfl) (fun _ _ _ h => h) rfl (v := ?_) ?_ ?_
                  rotate_left
                  · intro w'; go_simp; (try with_reducible rfl)
                  (try simp only [Act.put, List.setIfInBounds_toArray, List.set_cons_zero, List.set_cons_succ])
                  refine takeP 7 rfl (by kernel_rfl) (by kernel_rfl) (by kernel_rfl) (by kernel_rfl) (fun _ _ _ h => h) rfl (v := ?_) ?_ ?_
                  rotate_left
                  · intro w'; go_simp; (try with_reducible rfl)
                  (try simp only [Act.put, List.setIfInBounds_toArray, List.set_cons_zero, List.set_cons_succ])
                  refine takeP 8 rfl (by kernel_rfl) (by kernel_rfl) (by kernel_rfl) (by kernel_rfl) (fun _ _ _ h => h) rfl (v := ?_) ?_ ?_
                  rotate_left
                  · intro w'; go_simp; (try with_reducible rfl)
                  (try simp only [Act.put, List.setIfInBounds_toArray, List.set_cons_zero, List.set_cons_succ])
                  refine takeP 9 rfl (by kernel_rfl) (by kernel_rfl) (by kernel_rfl) (by kernel_rfl) (fun _ _ _ h => h) rfl (v := ?_) ?_ ?_
                  rotate_left
                  · intro w'; go_simp; (try with_reducible rfl)
                  (try simp only [Act.put, List.setIfInBounds_toArray, List.set_cons_zero, List.set_cons_succ])
                  refine doneL (by kernel_rfl) ?_
                  clear HH
                  go_wp2_with (first
                    | ((with_reducible refine gDst 151 ?_); refine aLoad H _ rfl rfl (part_all HPL.out) HPL.out rfl ?_)
                    | (go_at_call 21; refine (HL2.out bk bd bo bm vw7 ss7 _ (HOLD.suf (D := bankL bk bd bo bm vw7 ss7 7 s7 (uN 32 6)) H.hold)).mono ?_; rintro e w' ⟨rfl, hb⟩; replace H := H.step hb; clear hb)
                    | (go_at_call 15; refine (alive08_any _ (HT.out _ H.below)).mono ?_; rintro e w' ⟨rfl, hb⟩; replace H := H.step hb; clear hb)
                    | ((with_reducible refine gDst 166 ?_); refine stepV (exec_buildL 44 [(0, .const (.bool true)), (1, .const (.bool true))] rfl [(0, .bool true), (1, .bool true)] rfl [.bool true, .bool true] (by kernel_rfl)) rfl ?_)
                    | ((with_reducible refine gDst 167 ?_); refine stepV (exec_eql 44 _ _ _ rfl _ _ rfl rfl b2_guard _ (HTT.out _)) rfl ?_)
                    | ((with_reducible refine gDst 4 ?_); refine aBox H _ rfl rfl rfl ?_; clear H; intro b4 w4 H)
                    | ((with_reducible refine gDst 9 ?_); refine aAlloc H rfl rfl ?_; clear H; intro b9 w9 H)
                    | ((with_reducible refine gDst 12 ?_); refine aAlloc H rfl rfl ?_; clear H; intro b12 w12 H)
                    | ((with_reducible refine gDst 22 ?_); refine aAlloc H rfl rfl ?_; clear H; intro b22 w22 H)
                    | ((with_reducible refine gLoad ?_); first | (refine aLoad1 H _ rfl rfl (by first | exact (rfl : _ = some (Value.int _ _)) | exact (rfl : _ = some (Value.slice _ _ _)) | exact (rfl : _ = some (Value.bool _)) | exact (rfl : _ = some (Value.string _)) | exact (rfl : _ = some (Value.pointer _)) | rfl | (simp [List.getElem?_append]; done)) rfl ?_) | (refine aLoadC _ rfl rfl (by assumption) rfl ?_) | (refine aLoad H _ rfl rfl (by first | exact part_all (by first | rfl | simp []) | (simp only [List.drop_succ_cons, List.drop_zero, List.take_succ_cons, List.take_zero]; rfl) | (simp [List.drop_append, List.take_append]; rfl)) (by first | rfl | simp []) rfl ?_))
                    | ((with_reducible refine gStore ?_); (first | (refine aStore H _ _ rfl rfl rfl (by (first | exact ⟨rfl, rfl⟩ | exact ⟨by decide, rfl⟩ | (simp []; done) | (constructor <;> simp [] <;> omega))) (by first | rfl | simp [List.all_append, one_all]) rfl ?_) | (refine aLay H _ _ rfl rfl rfl (by (first | exact ⟨rfl, rfl⟩ | exact ⟨by decide, rfl⟩ | (simp []; done) | (constructor <;> simp [] <;> omega))) (by first | rfl | simp [List.all_append, one_all]) (by simp only [lay, List.take_succ_cons, List.take_zero, List.drop_succ_cons, List.drop_zero, List.nil_append, List.cons_append, List.length_cons, List.length_nil, Nat.zero_add, Nat.reduceAdd]; rfl) rfl ?_)); clear H; intro w' H; try dsimp only at H))
                  go_ret
                  exact ⟨rfl, H.below⟩
              · have hE0' : (hE = 0) = False := eq_false hE0
                have hE0b : (hE == 0) = false := beq_eq_false_iff_ne.2 hE0
                have hw3 : (wn < 2) = False := eq_false (fun h => hE0 (hwt.1.2 h))
                have hw2 : ((wn : Int) < 2) = False := eq_false (by have := fun h => hE0 (hwt.1.2 h); omega)
                clear hE0 hwt
                by_cases hs : shaL Wo = p.hash
                · skip
                  obtain rfl := HFX.out.2 hs
                  have hse : (shaL Wo == p.hash) = true := beq_iff_eq.2 hs
                  rw [hse] at HEQ
                  clear hse hs HFX
                  go_wp2_with (first
                    | ((with_reducible refine gDst 4 ?_); refine aBox H _ rfl rfl rfl ?_; clear H; intro b4 w4 H)
                    | ((with_reducible refine gDst 9 ?_); refine aAlloc H rfl rfl ?_; clear H; intro b9 w9 H)
                    | ((with_reducible refine gDst 12 ?_); refine aAlloc H rfl rfl ?_; clear H; intro b12 w12 H)
                    | ((with_reducible refine gDst 22 ?_); refine aAlloc H rfl rfl ?_; clear H; intro b22 w22 H)
                    | ((with_reducible refine gLoad ?_); first | (refine aLoad1 H _ rfl rfl (by first | exact (rfl : _ = some (Value.int _ _)) | exact (rfl : _ = some (Value.slice _ _ _)) | exact (rfl : _ = some (Value.bool _)) | exact (rfl : _ = some (Value.string _)) | exact (rfl : _ = some (Value.pointer _)) | rfl | (simp [List.getElem?_append]; done)) rfl ?_) | (refine aLoadC _ rfl rfl (by assumption) rfl ?_) | (refine aLoad H _ rfl rfl (by first | exact part_all (by first | rfl | simp []) | (simp only [List.drop_succ_cons, List.drop_zero, List.take_succ_cons, List.take_zero]; rfl) | (simp [List.drop_append, List.take_append]; rfl)) (by first | rfl | simp []) rfl ?_))
                    | ((with_reducible refine gStore ?_); (first | (refine aStore H _ _ rfl rfl rfl (by (first | exact ⟨rfl, rfl⟩ | exact ⟨by decide, rfl⟩ | (simp []; done) | (constructor <;> simp [] <;> omega))) (by first | rfl | simp [List.all_append, one_all]) rfl ?_) | (refine aLay H _ _ rfl rfl rfl (by (first | exact ⟨rfl, rfl⟩ | exact ⟨by decide, rfl⟩ | (simp []; done) | (constructor <;> simp [] <;> omega))) (by first | rfl | simp [List.all_append, one_all]) (by simp only [lay, List.take_succ_cons, List.take_zero, List.drop_succ_cons, List.drop_zero, List.nil_append, List.cons_append, List.length_cons, List.length_nil, Nat.zero_add, Nat.reduceAdd]; rfl) rfl ?_)); clear H; intro w' H; try dsimp only at H))
                  refine startA (fun i => i == 4) (by kernel_rfl) (fun wS hS => ?_)
                  replace H := H.drew
                  rw [← hS] at H
                  have HH := H.hold
                  have HS0 : Below wS.heap.size wS wS := Below.refl _ _
                  clear hS
                  refine takeP 0 rfl (by kernel_rfl) (by kernel_rfl) (by kernel_rfl) (by kernel_rfl) (fun _ _ _ h => h) rfl (v := ?_) ?_ ?_
                  rotate_left
                  · intro w'; go_simp; (try with_reducible rfl)
                  (try simp only [Act.put, List.setIfInBounds_toArray, List.set_cons_zero, List.set_cons_succ])
                  refine takeL 1 HS0 rfl (by kernel_rfl) (by kernel_rfl) (by kernel_rfl) (by kernel_rfl) (by kernel_rfl) (fun _ _ _ h => h) rfl (v := ?_) ?_ ?_
                  rotate_left
                  · intro w' hw'; refine Eq.trans (xLoad (HH.below hw') _ rfl rfl (part_all HPL.out) HPL.out) ?_; with_reducible rfl
                  (try simp only [Act.put, List.setIfInBounds_toArray, List.set_cons_zero, List.set_cons_succ])
                  refine takeP 2 rfl (by kernel_rfl) (by kernel_rfl) (by kernel_rfl) (by kernel_rfl) (fun _ _ _ h => h) rfl (v := ?_) ?_ ?_
                  rotate_left
                  · intro w'; go_simp; (try with_reducible rfl)
                  (try simp only [Act.put, List.setIfInBounds_toArray, List.set_cons_zero, List.set_cons_succ])
                  refine stepL 3 rfl (by kernel_rfl) rfl (fun K hK => ?_)
                  (go_simp; (with_reducible refine ((HWO.out _ _ (HO.out.below H.below))).mono ?_); rintro e w' ⟨A128, c128, rfl, ho, hb⟩; replace H := H.pushRow hb ho; clear ho; first | (replace HS0 := below_two HS0 HS0.size hb; clear hb; refine hK.out _ _ (fun _ _ => HS0) ?_; clear K hK) | (refine hK.out _ _ (fun _ h => below_two h h.size hb) ?_; clear hb K hK))
                  (try simp only [Act.put, List.setIfInBounds_toArray, List.set_cons_zero, List.set_cons_succ])
                  refine stepL 4 rfl (by kernel_rfl) rfl (fun K hK => ?_)
                  (go_simp; have q := HF1.out bk bd bo bm vw5 ss5 (.slice A128 256 c128) _ (H.subS (D := bankL bk bd bo bm vw5 ss5 7 s5 (uN 32 6))) (fun w2 hc2 => OR.reads (H.keepHd (D := bankL bk bd bo bm vw5 ss5 7 s5 (uN 32 6)) hc2)); (with_reducible refine q.mono ?_); rintro e w' ⟨rfl, vw6, ss6, kk⟩; replace H := H.viaS kk; (try dsimp only at H); clear kk; refine hK.out _ _ (fun h => by cases h) ?_; clear K hK HS0)
                  (try simp only [Act.put, List.setIfInBounds_toArray, List.set_cons_zero, List.set_cons_succ])
                  refine takeP 5 rfl (by kernel_rfl) (by kernel_rfl) (by kernel_rfl) (by kernel_rfl) (fun _ _ _ h => h) rfl (v := ?_) ?_ ?_
                  rotate_left
                  · intro w'; go_simp; (try with_reducible rfl)
                  (try simp only [Act.put, List.setIfInBounds_toArray, List.set_cons_zero, List.set_cons_succ])
                  refine takeP 6 rfl (by kernel_rfl) (by kernel_rfl) (by kernel_rfl) (by kernel_rfl) (fun _ _ _ h => h) rfl (v := ?_) ?_ ?_
                  rotate_left
                  · intro w'; go_simp; (try with_reducible rfl)
                  (try simp only [Act.put, List.setIfInBounds_toArray, List.set_cons_zero, List.set_cons_succ])
                  refine takeP 7 rfl (by kernel_rfl) (by kernel_rfl) (by kernel_rfl) (by kernel_rfl) (fun _ _ _ h => h) rfl (v := ?_) ?_ ?_
                  rotate_left
                  · intro w'; go_simp; (try with_reducible rfl)
                  (try simp only [Act.put, List.setIfInBounds_toArray, List.set_cons_zero, List.set_cons_succ])
                  refine takeP 8 rfl (by kernel_rfl) (by kernel_rfl) (by kernel_rfl) (by kernel_rfl) (fun _ _ _ h => h) rfl (v := ?_) ?_ ?_
                  rotate_left
                  · intro w'; go_simp; (try with_reducible rfl)
                  (try simp only [Act.put, List.setIfInBounds_toArray, List.set_cons_zero, List.set_cons_succ])
                  refine takeP 9 rfl (by kernel_rfl) (by kernel_rfl) (by kernel_rfl) (by kernel_rfl) (fun _ _ _ h => h) rfl (v := ?_) ?_ ?_
                  rotate_left
                  · intro w'; go_simp; (try with_reducible rfl)
                  (try simp only [Act.put, List.setIfInBounds_toArray, List.set_cons_zero, List.set_cons_succ])
                  refine doneL (by kernel_rfl) ?_
                  clear HH
                  go_wp2
                  refine startA (fun i => false) (by kernel_rfl) (fun wS hS => ?_)
                  replace H := H.drew
                  rw [← hS] at H
                  have HH := H.hold
                  have HS0 : Below wS.heap.size wS wS := Below.refl _ _
                  clear hS
                  refine takeP 0 rfl (by kernel_rfl) (by kernel_rfl) (by kernel_rfl) (by kernel_rfl) (fun _ _ _ h => h) rfl (v := ?_) ?_ ?_
                  rotate_left
                  · intro w'; go_simp; (try with_reducible rfl)
                  (try simp only [Act.put, List.setIfInBounds_toArray, List.set_cons_zero, List.set_cons_succ])
                  refine takeP 1 rfl (by kernel_rfl) (by kernel_rfl) (by kernel_rfl) (by kernel_rfl) (fun _ _ _ h => h) rfl (v := ?_) ?_ ?_
                  rotate_left
                  · intro w'; go_simp; (try with_reducible rfl)
                  (try simp only [Act.put, List.setIfInBounds_toArray, List.set_cons_zero, List.set_cons_succ])
                  refine takeP 2 rfl (by kernel_rfl) (by kernel_rfl) (by kernel_rfl) (by kernel_rfl) (fun _ _ _ h => h) rfl (v := ?_) ?_ ?_
                  rotate_left
                  · intro w'; go_simp; (try with_reducible rfl)
                  (try simp only [Act.put, List.setIfInBounds_toArray, List.set_cons_zero, List.set_cons_succ])
                  refine takeP 5 rfl (by kernel_rfl) (by kernel_rfl) (by kernel_rfl) (by kernel_rfl) (fun _ _ _ h => h) rfl (v := ?_) ?_ ?_
                  rotate_left
                  · intro w'; go_simp; (try with_reducible rfl)
                  (try simp only [Act.put, List.setIfInBounds_toArray, List.set_cons_zero, List.set_cons_succ])
                  refine takeL 6 HS0 rfl (by kernel_rfl) (by kernel_rfl) (by kernel_rfl) (by kernel_rfl) (by kernel_rfl) (fun _ _ _ h => h) rfl (v := ?_) ?_ ?_
                  rotate_left
                  · intro w' hw'; refine Eq.trans (xLoad (HH.below hw') _ rfl rfl HDR.out HHL2.out) ?_; with_reducible rfl
                  (try simp only [Act.put, List.setIfInBounds_toArray, List.set_cons_zero, List.set_cons_succ])
                  refine stepL 3 rfl (by kernel_rfl) rfl (fun K hK => ?_)
                  (go_simp; (with_reducible refine ((HWO.out _ _ (HO.out.below H.below))).mono ?_); rintro e w' ⟨A135, c135, rfl, ho, hb⟩; replace H := H.pushRow hb ho; clear ho; first | (replace HS0 := below_two HS0 HS0.size hb; clear hb; refine hK.out _ _ (fun _ _ => HS0) ?_; clear K hK) | (refine hK.out _ _ (fun _ h => below_two h h.size hb) ?_; clear hb K hK))
                  (try simp only [Act.put, List.setIfInBounds_toArray, List.set_cons_zero, List.set_cons_succ])
                  refine stepL 4 rfl (by kernel_rfl) rfl (fun K hK => ?_)
                  (go_simp; (with_reducible refine ((HSUM.out _ _ (H.hold.rr (.slice A135 256 c135)))).mono ?_); rintro e w' ⟨rfl, hb⟩; replace H := H.step hb; first | (replace HS0 := below_two HS0 HS0.size hb; clear hb; refine hK.out _ _ (fun _ _ => HS0) ?_; clear K hK) | (refine hK.out _ _ (fun _ h => below_two h h.size hb) ?_; clear hb K hK))
                  (try simp only [Act.put, List.setIfInBounds_toArray, List.set_cons_zero, List.set_cons_succ])
                  refine takeL 7 HS0 rfl (by kernel_rfl) (by kernel_rfl) (by kernel_rfl) (by kernel_rfl) (by kernel_rfl) (fun _ _ _ h => h) rfl (v := ?_) ?_ ?_
                  rotate_left
                  · intro w' hw'; refine Eq.trans (exec_eql 29 _ _ _ rfl _ _ rfl rfl bh32_guard _ (HEQ.out _)) ?_; with_reducible rfl
                  (try simp only [Act.put, List.setIfInBounds_toArray, List.set_cons_zero, List.set_cons_succ])
                  refine takeP 8 rfl (by kernel_rfl) (by kernel_rfl) (by kernel_rfl) (by kernel_rfl) (fun _ _ _ h => h) rfl (v := ?_) ?_ ?_
                  rotate_left
                  · intro w'; go_simp; (try with_reducible rfl)
                  (try simp only [Act.put, List.setIfInBounds_toArray, List.set_cons_zero, List.set_cons_succ])
                  refine doneL (by kernel_rfl) ?_
                  clear HH
                  go_wp2
                  refine startA (fun i => i == 4) (by kernel_rfl) (fun wS hS => ?_)
                  replace H := H.drew
                  rw [← hS] at H
                  have HH := H.hold
                  have HS0 : Below wS.heap.size wS wS := Below.refl _ _
                  clear hS
                  refine takeP 0 rfl (by kernel_rfl) (by kernel_rfl) (by kernel_rfl) (by kernel_rfl) (fun _ _ _ h => h) rfl (v := ?_) ?_ ?_
                  rotate_left
                  · intro w'; go_simp; (try with_reducible rfl)
                  (try simp only [Act.put, List.setIfInBounds_toArray, List.set_cons_zero, List.set_cons_succ])
                  refine takeL 1 HS0 rfl (by kernel_rfl) (by kernel_rfl) (by kernel_rfl) (by kernel_rfl) (by kernel_rfl) (fun _ _ _ h => h) rfl (v := ?_) ?_ ?_
                  rotate_left
                  · intro w' hw'; refine Eq.trans (xLoad (HH.below hw') _ rfl rfl (part_all HPL.out) HPL.out) ?_; with_reducible rfl
                  (try simp only [Act.put, List.setIfInBounds_toArray, List.set_cons_zero, List.set_cons_succ])
                  refine takeP 2 rfl (by kernel_rfl) (by kernel_rfl) (by kernel_rfl) (by kernel_rfl) (fun _ _ _ h => h) rfl (v := ?_) ?_ ?_
                  rotate_left
                  · intro w'; go_simp; (try with_reducible rfl)
                  (try simp only [Act.put, List.setIfInBounds_toArray, List.set_cons_zero, List.set_cons_succ])
                  refine stepL 3 rfl (by kernel_rfl) rfl (fun K hK => ?_)
                  (go_simp; (with_reducible refine ((HWB.out _ _ (HB.out.below H.below))).mono ?_); rintro e w' ⟨A145, c145, rfl, ho, hb⟩; replace H := H.pushRow hb ho; clear ho; first | (replace HS0 := below_two HS0 HS0.size hb; clear hb; refine hK.out _ _ (fun _ _ => HS0) ?_; clear K hK) | (refine hK.out _ _ (fun _ h => below_two h h.size hb) ?_; clear hb K hK))
                  (try simp only [Act.put, List.setIfInBounds_toArray, List.set_cons_zero, List.set_cons_succ])
                  refine stepL 4 rfl (by kernel_rfl) rfl (fun K hK => ?_)
                  (go_simp; have q := HF2.out bk bd bo bm vw6 ss6 (.slice A145 256 c145) _ (H.subS (D := bankL bk bd bo bm vw6 ss6 7 s6 (uN 32 6))) (fun w2 hc2 => OR.reads (H.keepHd (D := bankL bk bd bo bm vw6 ss6 7 s6 (uN 32 6)) hc2)); (with_reducible refine q.mono ?_); rintro e w' ⟨rfl, vw7, ss7, kk⟩; replace H := H.viaS kk; (try dsimp only at H); clear kk; refine hK.out _ _ (fun h => by cases h) ?_; clear K hK HS0)
                  (try simp only [Act.put, List.setIfInBounds_toArray, List.set_cons_zero, List.set_cons_succ])
                  refine takeP 5 rfl (by kernel_rfl) (by kernel_rfl) (by kernel_rfl) (by kernel_rfl) (fun _ _ _ h => h) rfl (v := ?_) ?_ ?_
                  rotate_left
                  · intro w'; go_simp; (try with_reducible rfl)
                  (try simp only [Act.put, List.setIfInBounds_toArray, List.set_cons_zero, List.set_cons_succ])
                  refine takeP 6 rfl (by kernel_rfl) (by kernel_rfl) (by kernel_rfl) (by kernel_rfl) (fun _ _ _ h => h) rfl (v := ?_) ?_ ?_
                  rotate_left
                  · intro w'; go_simp; (try with_reducible rfl)
                  (try simp only [Act.put, List.setIfInBounds_toArray, List.set_cons_zero, List.set_cons_succ])
                  refine takeP 7 rfl (by kernel_rfl) (by kernel_rfl) (by kernel_rfl) (by kernel_rfl) (fun _ _ _ h => h) rfl (v := ?_) ?_ ?_
                  rotate_left
                  · intro w'; go_simp; (try with_reducible rfl)
                  (try simp only [Act.put, List.setIfInBounds_toArray, List.set_cons_zero, List.set_cons_succ])
                  refine takeP 8 rfl (by kernel_rfl) (by kernel_rfl) (by kernel_rfl) (by kernel_rfl) (fun _ _ _ h => h) rfl (v := ?_) ?_ ?_
                  rotate_left
                  · intro w'; go_simp; (try with_reducible rfl)
                  (try simp only [Act.put, List.setIfInBounds_toArray, List.set_cons_zero, List.set_cons_succ])
                  refine takeP 9 rfl (by kernel_rfl) (by kernel_rfl) (by kernel_rfl) (by kernel_rfl) (fun _ _ _ h => h) rfl (v := ?_) ?_ ?_
                  rotate_left
                  · intro w'; go_simp; (try with_reducible rfl)
                  (try simp only [Act.put, List.setIfInBounds_toArray, List.set_cons_zero, List.set_cons_succ])
                  refine doneL (by kernel_rfl) ?_
                  clear HH
                  go_wp2_with (first
                    | ((with_reducible refine gDst 151 ?_); refine aLoad H _ rfl rfl (part_all HPL.out) HPL.out rfl ?_)
                    | (go_at_call 21; refine (HL2.out bk bd bo bm vw7 ss7 _ (HOLD.suf (D := bankL bk bd bo bm vw7 ss7 7 s7 (uN 32 6)) H.hold)).mono ?_; rintro e w' ⟨rfl, hb⟩; replace H := H.step hb; clear hb)
                    | (go_at_call 15; refine (alive08_any _ (HT.out _ H.below)).mono ?_; rintro e w' ⟨rfl, hb⟩; replace H := H.step hb; clear hb)
                    | ((with_reducible refine gDst 166 ?_); refine stepV (exec_buildL 44 [(0, .const (.bool true)), (1, .const (.bool true))] rfl [(0, .bool true), (1, .bool true)] rfl [.bool true, .bool true] (by kernel_rfl)) rfl ?_)
                    | ((with_reducible refine gDst 167 ?_); refine stepV (exec_eql 44 _ _ _ rfl _ _ rfl rfl b2_guard _ (HTT.out _)) rfl ?_)
                    | ((with_reducible refine gDst 4 ?_); refine aBox H _ rfl rfl rfl ?_; clear H; intro b4 w4 H)
                    | ((with_reducible refine gDst 9 ?_); refine aAlloc H rfl rfl ?_; clear H; intro b9 w9 H)
                    | ((with_reducible refine gDst 12 ?_); refine aAlloc H rfl rfl ?_; clear H; intro b12 w12 H)
                    | ((with_reducible refine gDst 22 ?_); refine aAlloc H rfl rfl ?_; clear H; intro b22 w22 H)
                    | ((with_reducible refine gLoad ?_); first | (refine aLoad1 H _ rfl rfl (by first | exact (rfl : _ = some (Value.int _ _)) | exact (rfl : _ = some (Value.slice _ _ _)) | exact (rfl : _ = some (Value.bool _)) | exact (rfl : _ = some (Value.string _)) | exact (rfl : _ = some (Value.pointer _)) | rfl | (simp [List.getElem?_append]; done)) rfl ?_) | (refine aLoadC _ rfl rfl (by assumption) rfl ?_) | (refine aLoad H _ rfl rfl (by first | exact part_all (by first | rfl | simp []) | (simp only [List.drop_succ_cons, List.drop_zero, List.take_succ_cons, List.take_zero]; rfl) | (simp [List.drop_append, List.take_append]; rfl)) (by first | rfl | simp []) rfl ?_))
                    | ((with_reducible refine gStore ?_); (first | (refine aStore H _ _ rfl rfl rfl (by (first | exact ⟨rfl, rfl⟩ | exact ⟨by decide, rfl⟩ | (simp []; done) | (constructor <;> simp [] <;> omega))) (by first | rfl | simp [List.all_append, one_all]) rfl ?_) | (refine aLay H _ _ rfl rfl rfl (by (first | exact ⟨rfl, rfl⟩ | exact ⟨by decide, rfl⟩ | (simp []; done) | (constructor <;> simp [] <;> omega))) (by first | rfl | simp [List.all_append, one_all]) (by simp only [lay, List.take_succ_cons, List.take_zero, List.drop_succ_cons, List.drop_zero, List.nil_append, List.cons_append, List.length_cons, List.length_nil, Nat.zero_add, Nat.reduceAdd]; rfl) rfl ?_)); clear H; intro w' H; try dsimp only at H))
                  go_ret
                  exact ⟨rfl, H.below⟩
                · skip
                  have hf0 : (fE = 0) = False := eq_false (fun h => hs (HFX.out.1 h))
                  have hf0b : (fE == 0) = false := beq_eq_false_iff_ne.2 (fun h => hs (HFX.out.1 h))
                  have hse : (shaL Wo == p.hash) = false := beq_eq_false_iff_ne.2 hs
                  rw [hse] at HEQ
                  clear hse hs HFX
                  go_wp2_with (first
                    | ((with_reducible refine gDst 4 ?_); refine aBox H _ rfl rfl rfl ?_; clear H; intro b4 w4 H)
                    | ((with_reducible refine gDst 9 ?_); refine aAlloc H rfl rfl ?_; clear H; intro b9 w9 H)
                    | ((with_reducible refine gDst 12 ?_); refine aAlloc H rfl rfl ?_; clear H; intro b12 w12 H)
                    | ((with_reducible refine gDst 22 ?_); refine aAlloc H rfl rfl ?_; clear H; intro b22 w22 H)
                    | ((with_reducible refine gLoad ?_); first | (refine aLoad1 H _ rfl rfl (by first | exact (rfl : _ = some (Value.int _ _)) | exact (rfl : _ = some (Value.slice _ _ _)) | exact (rfl : _ = some (Value.bool _)) | exact (rfl : _ = some (Value.string _)) | exact (rfl : _ = some (Value.pointer _)) | rfl | (simp [List.getElem?_append]; done)) rfl ?_) | (refine aLoadC _ rfl rfl (by assumption) rfl ?_) | (refine aLoad H _ rfl rfl (by first | exact part_all (by first | rfl | simp []) | (simp only [List.drop_succ_cons, List.drop_zero, List.take_succ_cons, List.take_zero]; rfl) | (simp [List.drop_append, List.take_append]; rfl)) (by first | rfl | simp []) rfl ?_))
                    | ((with_reducible refine gStore ?_); (first | (refine aStore H _ _ rfl rfl rfl (by (first | exact ⟨rfl, rfl⟩ | exact ⟨by decide, rfl⟩ | (simp []; done) | (constructor <;> simp [] <;> omega))) (by first | rfl | simp [List.all_append, one_all]) rfl ?_) | (refine aLay H _ _ rfl rfl rfl (by (first | exact ⟨rfl, rfl⟩ | exact ⟨by decide, rfl⟩ | (simp []; done) | (constructor <;> simp [] <;> omega))) (by first | rfl | simp [List.all_append, one_all]) (by simp only [lay, List.take_succ_cons, List.take_zero, List.drop_succ_cons, List.drop_zero, List.nil_append, List.cons_append, List.length_cons, List.length_nil, Nat.zero_add, Nat.reduceAdd]; rfl) rfl ?_)); clear H; intro w' H; try dsimp only at H))
                  refine startA (fun i => i == 4) (by kernel_rfl) (fun wS hS => ?_)
                  replace H := H.drew
                  rw [← hS] at H
                  have HH := H.hold
                  have HS0 : Below wS.heap.size wS wS := Below.refl _ _
                  clear hS
                  refine takeP 0 rfl (by kernel_rfl) (by kernel_rfl) (by kernel_rfl) (by kernel_rfl) (fun _ _ _ h => h) rfl (v := ?_) ?_ ?_
                  rotate_left
                  · intro w'; go_simp; (try with_reducible rfl)
                  (try simp only [Act.put, List.setIfInBounds_toArray, List.set_cons_zero, List.set_cons_succ])
                  refine takeL 1 HS0 rfl (by kernel_rfl) (by kernel_rfl) (by kernel_rfl) (by kernel_rfl) (by kernel_rfl) (fun _ _ _ h => h) rfl (v := ?_) ?_ ?_
                  rotate_left
                  · intro w' hw'; refine Eq.trans (xLoad (HH.below hw') _ rfl rfl (part_all HPL.out) HPL.out) ?_; with_reducible rfl
                  (try simp only [Act.put, List.setIfInBounds_toArray, List.set_cons_zero, List.set_cons_succ])
                  refine takeP 2 rfl (by kernel_rfl) (by kernel_rfl) (by kernel_rfl) (by kernel_rfl) (fun _ _ _ h => h) rfl (v := ?_) ?_ ?_
                  rotate_left
                  · intro w'; go_simp; (try with_reducible rfl)
                  (try simp only [Act.put, List.setIfInBounds_toArray, List.set_cons_zero, List.set_cons_succ])
                  refine stepL 3 rfl (by kernel_rfl) rfl (fun K hK => ?_)
                  (go_simp; (with_reducible refine ((HWO.out _ _ (HO.out.below H.below))).mono ?_); rintro e w' ⟨A128, c128, rfl, ho, hb⟩; replace H := H.pushRow hb ho; clear ho; first | (replace HS0 := below_two HS0 HS0.size hb; clear hb; refine hK.out _ _ (fun _ _ => HS0) ?_; clear K hK) | (refine hK.out _ _ (fun _ h => below_two h h.size hb) ?_; clear hb K hK))
                  (try simp only [Act.put, List.setIfInBounds_toArray, List.set_cons_zero, List.set_cons_succ])
                  refine stepL 4 rfl (by kernel_rfl) rfl (fun K hK => ?_)
                  (go_simp; have q := HF1.out bk bd bo bm vw5 ss5 (.slice A128 256 c128) _ (H.subS (D := bankL bk bd bo bm vw5 ss5 7 s5 (uN 32 6))) (fun w2 hc2 => OR.reads (H.keepHd (D := bankL bk bd bo bm vw5 ss5 7 s5 (uN 32 6)) hc2)); (with_reducible refine q.mono ?_); rintro e w' ⟨rfl, vw6, ss6, kk⟩; replace H := H.viaS kk; (try dsimp only at H); clear kk; refine hK.out _ _ (fun h => by cases h) ?_; clear K hK HS0)
                  (try simp only [Act.put, List.setIfInBounds_toArray, List.set_cons_zero, List.set_cons_succ])
                  refine takeP 5 rfl (by kernel_rfl) (by kernel_rfl) (by kernel_rfl) (by kernel_rfl) (fun _ _ _ h => h) rfl (v := ?_) ?_ ?_
                  rotate_left
                  · intro w'; go_simp; (try with_reducible rfl)
                  (try simp only [Act.put, List.setIfInBounds_toArray, List.set_cons_zero, List.set_cons_succ])
                  refine takeP 6 rfl (by kernel_rfl) (by kernel_rfl) (by kernel_rfl) (by kernel_rfl) (fun _ _ _ h => h) rfl (v := ?_) ?_ ?_
                  rotate_left
                  · intro w'; go_simp; (try with_reducible rfl)
                  (try simp only [Act.put, List.setIfInBounds_toArray, List.set_cons_zero, List.set_cons_succ])
                  refine takeP 7 rfl (by kernel_rfl) (by kernel_rfl) (by kernel_rfl) (by kernel_rfl) (fun _ _ _ h => h) rfl (v := ?_) ?_ ?_
                  rotate_left
                  · intro w'; go_simp; (try with_reducible rfl)
                  (try simp only [Act.put, List.setIfInBounds_toArray, List.set_cons_zero, List.set_cons_succ])
                  refine takeP 8 rfl (by kernel_rfl) (by kernel_rfl) (by kernel_rfl) (by kernel_rfl) (fun _ _ _ h => h) rfl (v := ?_) ?_ ?_
                  rotate_left
                  · intro w'; go_simp; (try with_reducible rfl)
                  (try simp only [Act.put, List.setIfInBounds_toArray, List.set_cons_zero, List.set_cons_succ])
                  refine takeP 9 rfl (by kernel_rfl) (by kernel_rfl) (by kernel_rfl) (by kernel_rfl) (fun _ _ _ h => h) rfl (v := ?_) ?_ ?_
                  rotate_left
                  · intro w'; go_simp; (try with_reducible rfl)
                  (try simp only [Act.put, List.setIfInBounds_toArray, List.set_cons_zero, List.set_cons_succ])
                  refine doneL (by kernel_rfl) ?_
                  clear HH
                  go_wp2
                  refine startA (fun i => false) (by kernel_rfl) (fun wS hS => ?_)
                  replace H := H.drew
                  rw [← hS] at H
                  have HH := H.hold
                  have HS0 : Below wS.heap.size wS wS := Below.refl _ _
                  clear hS
                  refine takeP 0 rfl (by kernel_rfl) (by kernel_rfl) (by kernel_rfl) (by kernel_rfl) (fun _ _ _ h => h) rfl (v := ?_) ?_ ?_
                  rotate_left
                  · intro w'; go_simp; (try with_reducible rfl)
                  (try simp only [Act.put, List.setIfInBounds_toArray, List.set_cons_zero, List.set_cons_succ])
                  refine takeP 1 rfl (by kernel_rfl) (by kernel_rfl) (by kernel_rfl) (by kernel_rfl) (fun _ _ _ h => h) rfl (v := ?_) ?_ ?_
                  rotate_left
                  · intro w'; go_simp; (try with_reducible rfl)
                  (try simp only [Act.put, List.setIfInBounds_toArray, List.set_cons_zero, List.set_cons_succ])
                  refine takeP 2 rfl (by kernel_rfl) (by kernel_rfl) (by kernel_rfl) (by kernel_rfl) (fun _ _ _ h => h) rfl (v := ?_) ?_ ?_
                  rotate_left
                  · intro w'; go_simp; (try with_reducible rfl)
                  (try simp only [Act.put, List.setIfInBounds_toArray, List.set_cons_zero, List.set_cons_succ])
                  refine takeP 5 rfl (by kernel_rfl) (by kernel_rfl) (by kernel_rfl) (by kernel_rfl) (fun _ _ _ h => h) rfl (v := ?_) ?_ ?_
                  rotate_left
                  · intro w'; go_simp; (try with_reducible rfl)
                  (try simp only [Act.put, List.setIfInBounds_toArray, List.set_cons_zero, List.set_cons_succ])
                  refine takeL 6 HS0 rfl (by kernel_rfl) (by kernel_rfl) (by kernel_rfl) (by kernel_rfl) (by kernel_rfl) (fun _ _ _ h => h) rfl (v := ?_) ?_ ?_
                  rotate_left
                  · intro w' hw'; refine Eq.trans (xLoad (HH.below hw') _ rfl rfl HDR.out HHL2.out) ?_; with_reducible rfl
                  (try simp only [Act.put, List.setIfInBounds_toArray, List.set_cons_zero, List.set_cons_succ])
                  refine stepL 3 rfl (by kernel_rfl) rfl (fun K hK => ?_)
                  (go_simp; (with_reducible refine ((HWO.out _ _ (HO.out.below H.below))).mono ?_); rintro e w' ⟨A135, c135, rfl, ho, hb⟩; replace H := H.pushRow hb ho; clear ho; first | (replace HS0 := below_two HS0 HS0.size hb; clear hb; refine hK.out _ _ (fun _ _ => HS0) ?_; clear K hK) | (refine hK.out _ _ (fun _ h => below_two h h.size hb) ?_; clear hb K hK))
                  (try simp only [Act.put, List.setIfInBounds_toArray, List.set_cons_zero, List.set_cons_succ])
                  refine stepL 4 rfl (by kernel_rfl) rfl (fun K hK => ?_)
                  (go_simp; (with_reducible refine ((HSUM.out _ _ (H.hold.rr (.slice A135 256 c135)))).mono ?_); rintro e w' ⟨rfl, hb⟩; replace H := H.step hb; first | (replace HS0 := below_two HS0 HS0.size hb; clear hb; refine hK.out _ _ (fun _ _ => HS0) ?_; clear K hK) | (refine hK.out _ _ (fun _ h => below_two h h.size hb) ?_; clear hb K hK))
                  (try simp only [Act.put, List.setIfInBounds_toArray, List.set_cons_zero, List.set_cons_succ])
                  refine takeL 7 HS0 rfl (by kernel_rfl) (by kernel_rfl) (by kernel_rfl) (by kernel_rfl) (by kernel_rfl) (fun _ _ _ h => h) rfl (v := ?_) ?_ ?_
                  rotate_left
                  · intro w' hw'; refine Eq.trans (exec_eql 29 _ _ _ rfl _ _ rfl rfl bh32_guard _ (HEQ.out _)) ?_; with_reducible rfl
                  (try simp only [Act.put, List.setIfInBounds_toArray, List.set_cons_zero, List.set_cons_succ])
                  refine takeP 8 rfl (by kernel_rfl) (by kernel_rfl) (by kernel_rfl) (by kernel_rfl) (fun _ _ _ h => h) rfl (v := ?_) ?_ ?_
                  rotate_left
                  · intro w'; go_simp; (try with_reducible rfl)
                  (try simp only [Act.put, List.setIfInBounds_toArray, List.set_cons_zero, List.set_cons_succ])
                  refine doneL (by kernel_rfl) ?_
                  clear HH
                  go_wp2
                  refine startA (fun i => i == 4) (by kernel_rfl) (fun wS hS => ?_)
                  replace H := H.drew
                  rw [← hS] at H
                  have HH := H.hold
                  have HS0 : Below wS.heap.size wS wS := Below.refl _ _
                  clear hS
                  refine takeP 0 rfl (by kernel_rfl) (by kernel_rfl) (by kernel_rfl) (by kernel_rfl) (fun _ _ _ h => h) rfl (v := ?_) ?_ ?_
                  rotate_left
                  · intro w'; go_simp; (try with_reducible rfl)
                  (try simp only [Act.put, List.setIfInBounds_toArray, List.set_cons_zero, List.set_cons_succ])
                  refine takeL 1 HS0 rfl (by kernel_rfl) (by kernel_rfl) (by kernel_rfl) (by kernel_rfl) (by kernel_rfl) (fun _ _ _ h => h) rfl (v := ?_) ?_ ?_
                  rotate_left
                  · intro w' hw'; refine Eq.trans (xLoad (HH.below hw') _ rfl rfl (part_all HPL.out) HPL.out) ?_; with_reducible rfl
                  (try simp only [Act.put, List.setIfInBounds_toArray, List.set_cons_zero, List.set_cons_succ])
                  refine takeP 2 rfl (by kernel_rfl) (by kernel_rfl) (by kernel_rfl) (by kernel_rfl) (fun _ _ _ h => h) rfl (v := ?_) ?_ ?_
                  rotate_left
                  · intro w'; go_simp; (try with_reducible rfl)
                  (try simp only [Act.put, List.setIfInBounds_toArray, List.set_cons_zero, List.set_cons_succ])
                  refine stepL 3 rfl (by kernel_rfl) rfl (fun K hK => ?_)
                  (go_simp; (with_reducible refine ((HWB.out _ _ (HB.out.below H.below))).mono ?_); rintro e w' ⟨A145, c145, rfl, ho, hb⟩; replace H := H.pushRow hb ho; clear ho; first | (replace HS0 := below_two HS0 HS0.size hb; clear hb; refine hK.out _ _ (fun _ _ => HS0) ?_; clear K hK) | (refine hK.out _ _ (fun _ h => below_two h h.size hb) ?_; clear hb K hK))
                  (try simp only [Act.put, List.setIfInBounds_toArray, List.set_cons_zero, List.set_cons_succ])
                  refine stepL 4 rfl (by kernel_rfl) rfl (fun K hK => ?_)
                  (go_simp; have q := HF2.out bk bd bo bm vw6 ss6 (.slice A145 256 c145) _ (H.subS (D := bankL bk bd bo bm vw6 ss6 7 s6 (uN 32 6))) (fun w2 hc2 => OR.reads (H.keepHd (D := bankL bk bd bo bm vw6 ss6 7 s6 (uN 32 6)) hc2)); (with_reducible refine q.mono ?_); rintro e w' ⟨rfl, vw7, ss7, kk⟩; replace H := H.viaS kk; (try dsimp only at H); clear kk; refine hK.out _ _ (fun h => by cases h) ?_; clear K hK HS0)
                  (try simp only [Act.put, List.setIfInBounds_toArray, List.set_cons_zero, List.set_cons_succ])
                  refine takeP 5 rfl (by kernel_rfl) (by kernel_rfl) (by kernel_rfl) (by kernel_rfl) (fun _ _ _ h => h) rfl (v := ?_) ?_ ?_
                  rotate_left
                  · intro w'; go_simp; (try with_reducible rfl)
                  (try simp only [Act.put, List.setIfInBounds_toArray, List.set_cons_zero, List.set_cons_succ])
                  refine takeP 6 rfl (by kernel_rfl) (by kernel_rfl) (by kernel_rfl) (by kernel_rfl) (fun _ _ _ h => h) rfl (v := ?_) ?_ ?_
                  rotate_left
                  · intro w'; go_simp; (try with_reducible rfl)
                  (try simp only [Act.put, List.setIfInBounds_toArray, List.set_cons_zero, List.set_cons_succ])
                  refine takeP 7 rfl (by kernel_rfl) (by kernel_rfl) (by kernel_rfl) (by kernel_rfl) (fun _ _ _ h => h) rfl (v := ?_) ?_ ?_
                  rotate_left
                  · intro w'; go_simp; (try with_reducible rfl)
                  (try simp only [Act.put, List.setIfInBounds_toArray, List.set_cons_zero, List.set_cons_succ])
                  refine takeP 8 rfl (by kernel_rfl) (by kernel_rfl) (by kernel_rfl) (by kernel_rfl) (fun _ _ _ h => h) rfl (v := ?_) ?_ ?_
                  rotate_left
                  · intro w'; go_simp; (try with_reducible rfl)
                  (try simp only [Act.put, List.setIfInBounds_toArray, List.set_cons_zero, List.set_cons_succ])
                  refine takeP 9 rfl (by kernel_rfl) (by kernel_rfl) (by kernel_rfl) (by kernel_rfl) (fun _ _ _ h => h) rfl (v := ?_) ?_ ?_
                  rotate_left
                  · intro w'; go_simp; (try with_reducible rfl)
                  (try simp only [Act.put, List.setIfInBounds_toArray, List.set_cons_zero, List.set_cons_succ])
                  refine doneL (by kernel_rfl) ?_
                  clear HH
                  go_wp2_with (first
                    | ((with_reducible refine gDst 151 ?_); refine aLoad H _ rfl rfl (part_all HPL.out) HPL.out rfl ?_)
                    | (go_at_call 21; refine (HL2.out bk bd bo bm vw7 ss7 _ (HOLD.suf (D := bankL bk bd bo bm vw7 ss7 7 s7 (uN 32 6)) H.hold)).mono ?_; rintro e w' ⟨rfl, hb⟩; replace H := H.step hb; clear hb)
                    | (go_at_call 15; refine (alive08_any _ (HT.out _ H.below)).mono ?_; rintro e w' ⟨rfl, hb⟩; replace H := H.step hb; clear hb)
                    | ((with_reducible refine gDst 166 ?_); refine stepV (exec_buildL 44 [(0, .const (.bool true)), (1, .const (.bool true))] rfl [(0, .bool true), (1, .bool true)] rfl [.bool true, .bool true] (by kernel_rfl)) rfl ?_)
                    | ((with_reducible refine gDst 167 ?_); refine stepV (exec_eql 44 _ _ _ rfl _ _ rfl rfl b2_guard _ (HTT.out _)) rfl ?_)
                    | ((with_reducible refine gDst 4 ?_); refine aBox H _ rfl rfl rfl ?_; clear H; intro b4 w4 H)
                    | ((with_reducible refine gDst 9 ?_); refine aAlloc H rfl rfl ?_; clear H; intro b9 w9 H)
                    | ((with_reducible refine gDst 12 ?_); refine aAlloc H rfl rfl ?_; clear H; intro b12 w12 H)
                    | ((with_reducible refine gDst 22 ?_); refine aAlloc H rfl rfl ?_; clear H; intro b22 w22 H)
                    | ((with_reducible refine gLoad ?_); first | (refine aLoad1 H _ rfl rfl (by first | exact (rfl : _ = some (Value.int _ _)) | exact (rfl : _ = some (Value.slice _ _ _)) | exact (rfl : _ = some (Value.bool _)) | exact (rfl : _ = some (Value.string _)) | exact (rfl : _ = some (Value.pointer _)) | rfl | (simp [List.getElem?_append]; done)) rfl ?_) | (refine aLoadC _ rfl rfl (by assumption) rfl ?_) | (refine aLoad H _ rfl rfl (by first | exact part_all (by first | rfl | simp []) | (simp only [List.drop_succ_cons, List.drop_zero, List.take_succ_cons, List.take_zero]; rfl) | (simp [List.drop_append, List.take_append]; rfl)) (by first | rfl | simp []) rfl ?_))
                    | ((with_reducible refine gStore ?_); (first | (refine aStore H _ _ rfl rfl rfl (by (first | exact ⟨rfl, rfl⟩ | exact ⟨by decide, rfl⟩ | (simp []; done) | (constructor <;> simp [] <;> omega))) (by first | rfl | simp [List.all_append, one_all]) rfl ?_) | (refine aLay H _ _ rfl rfl rfl (by (first | exact ⟨rfl, rfl⟩ | exact ⟨by decide, rfl⟩ | (simp []; done) | (constructor <;> simp [] <;> omega))) (by first | rfl | simp [List.all_append, one_all]) (by simp only [lay, List.take_succ_cons, List.take_zero, List.drop_succ_cons, List.drop_zero, List.nil_append, List.cons_append, List.length_cons, List.length_nil, Nat.zero_add, Nat.reduceAdd]; rfl) rfl ?_)); clear H; intro w' H; try dsimp only at H))
                  go_ret
                  exact ⟨rfl, H.below⟩
end Go.Proofs.YticfcelbnkiopaaDoor

namespace Go.Proofs.YticfcelbnkiopaaDoor
set_option maxRecDepth 100000
open Go.RowKit Go.ChangeShapes Go.WideShapes

theorem wf_u8 {a : Int} (h : (Lit.int .u8 a).wf = true) : ∃ x : UInt8, a = (x.toNat : Int) := by
  simp [Lit.wf, IntKind.min, IntKind.max, IntKind.bits, IntKind.signed] at h
  refine ⟨UInt8.ofNat a.toNat, ?_⟩
  rw [UInt8.toNat_ofNat']
  omega
theorem wf_u32 {a : Int} (h : (Lit.int .u32 a).wf = true) : ∃ n : Nat, a = (n : Int) ∧ n < 4294967296 := by
  simp [Lit.wf, IntKind.min, IntKind.max, IntKind.bits, IntKind.signed] at h
  exact ⟨a.toNat, by omega, by omega⟩
theorem wf_u64 {a : Int} (h : (Lit.int .u64 a).wf = true) : ∃ n : Nat, a = (n : Int) ∧ n < 18446744073709551616 := by
  simp [Lit.wf, IntKind.min, IntKind.max, IntKind.bits, IntKind.signed] at h
  exact ⟨a.toNat, by omega, by omega⟩
theorem wf_i64 {a : Int} (h : (Lit.int .i64 a).wf = true) : -9223372036854775808 ≤ a ∧ a ≤ 9223372036854775807 := by
  simp [Lit.wf, IntKind.min, IntKind.max, IntKind.bits, IntKind.signed] at h
  omega

/-- A slice of bytes that came in. -/
theorem open_bytes {H : Type} {enc : TypeId × Value → H} {P : Program} {W : World} {base : Nat} {spare : Nat → Bool} {held : Bool} {t e : TypeId} {a : Option Addr} {len cap : Nat} {d : DataW H} {ps : List MemPlace}
    (hu : P.underlying t = some (.slice e)) (he : P.underlying e = some (.int .u8)) (hc : P.cellsOf e = 1)
    (h : DataW.Trod enc P W base spare held t (.slice a len cap) d ps) : ∃ xs : List UInt8, RR (U8 e) W (.slice a len cap) xs := by
  obtain ⟨fuel, hf⟩ := h
  rcases open_ints hu he hc hf with ⟨hcs, _⟩ | ⟨x, l, c, zs, hcs, _, hl, hm, hz, _, hcell, hwz⟩
  · simp [Value.cells] at hcs
    obtain ⟨rfl, rfl, rfl⟩ := hcs
    exact ⟨[], RR.nil W⟩
  · simp [Value.cells] at hcs
    obtain ⟨rfl, rfl, rfl⟩ := hcs
    have hlz : len ≤ zs.length := by
      rw [hz]
      split
      · exact hl
      · exact Nat.le_refl _
    have hz2 : ((zs.take len).map fun n => UInt8.ofNat n.toNat).length = len := by simp; omega
    refine ⟨(zs.take len).map fun n => UInt8.ofNat n.toNat, some x, cap, by rw [hz2], by omega, by simp only [maxLen] at hm; omega, fun _ => ⟨x, rfl, fun j u hj => ?_⟩⟩
    rw [U8_all] at hj
    have hjl : j < len := by have := (List.getElem?_eq_some_iff.1 hj).1; simp at this; omega
    rw [hcell j (by omega), ← hj]
    simp only [List.map_map, List.getElem?_map, List.getElem?_take, hjl, if_true, List.getElem?_eq_getElem (show j < zs.length by omega), Option.map_some, Function.comp_apply, cb, List.getD_eq_getElem?_getD, Option.getD_some]
    obtain ⟨b, hb⟩ := wf_u8 (hwz zs[j] (List.getElem_mem _))
    rw [hb]
    simp
end Go.Proofs.YticfcelbnkiopaaDoor

namespace Go.Proofs.YticfcelbnkiopaaDoor
set_option maxRecDepth 100000
open Go.RowKit Go.ChangeShapes Go.WideShapes

theorem trod_leaf {H : Type} {enc : TypeId × Value → H} {P : Program} {W : World} {base : Nat} {spare : Nat → Bool} {held : Bool} {t : TypeId} {k : IntKind} {cs : List Value} {x : DataW H × List MemPlace} {fuel : Nat}
    (hu : P.underlying t = some (.int k)) (h : DataW.trod enc P W base spare held fuel t cs = some x) : ∃ n, cs = [.int k n] ∧ (Lit.int k n).wf = true := by
  cases fuel with
  | zero => simp [DataW.trod] at h
  | succ fuel =>
    rcases cs with _ | ⟨v, _ | ⟨u, r⟩⟩
    · simp [DataW.trod, hu] at h
    · cases v <;> simp [DataW.trod, hu] at h
      rename_i k' n
      obtain ⟨⟨rfl, h1⟩, _⟩ := h
      exact ⟨n, rfl, h1⟩
    · simp [DataW.trod, hu] at h
theorem mapM_each {β γ : Type} (f : β → Option γ) : ∀ (l : List β) (r : List γ), l.mapM f = some r → ∀ x ∈ l, ∃ y, f x = some y
  | [], _, _, x, hx => by simp at hx
  | b :: l, r, h, x, hx => by
    simp only [List.mapM_cons, Option.bind_eq_bind, Option.pure_def] at h
    cases hb : f b with
    | none => simp [hb] at h
    | some y =>
      cases hl : l.mapM f with
      | none => simp [hb, hl] at h
      | some ys =>
        rcases List.mem_cons.mp hx with rfl | hx
        · exact ⟨y, hb⟩
        · exact mapM_each f l ys hl x hx
/-- A row of m elements, each one of which reads. -/
theorem trod_array {H : Type} {enc : TypeId × Value → H} {P : Program} {W : World} {base : Nat} {spare : Nat → Bool} {held : Bool} {t e : TypeId} {m : Nat} {cs : List Value} {x : DataW H × List MemPlace} {fuel : Nat}
    (hu : P.underlying t = some (.array m e)) (h : DataW.trod enc P W base spare held (fuel + 1) t cs = some x) :
    cs.length = P.cellsOf t ∧ ∀ i, i < m → ∃ y, DataW.trod enc P W base spare held fuel e ((cs.drop (i * P.cellsOf e)).take (P.cellsOf e)) = some y := by
  unfold DataW.trod at h
  rw [hu] at h
  simp only at h
  split at h
  · rename_i hl
    refine ⟨hl, fun i hi => ?_⟩
    cases hm : (List.range m).mapM fun i => DataW.trod enc P W base spare held fuel e ((cs.drop (i * P.cellsOf e)).take (P.cellsOf e)) with
    | none => simp [hm] at h
    | some r => exact mapM_each _ _ _ hm i (by simpa using hi)
  · cases h
theorem trod_fields {H : Type} {enc : TypeId × Value → H} {P : Program} {W : World} {base : Nat} {spare : Nat → Bool} {held : Bool} {t : TypeId} {fs : Array Field} {cs : List Value} {x : DataW H × List MemPlace} {fuel : Nat}
    (hu : P.underlying t = some (.struct fs)) (h : DataW.trod enc P W base spare held (fuel + 1) t cs = some x) :
    cs.length = P.cellsOf t ∧ ∀ f ∈ fs.toList, ∃ y, DataW.trod enc P W base spare held fuel f.type ((cs.drop f.offset).take (P.cellsOf f.type)) = some y := by
  unfold DataW.trod at h
  rw [hu] at h
  simp only at h
  split at h
  · rename_i hl
    refine ⟨hl, fun f hf => ?_⟩
    cases hm : fs.toList.mapM fun f => DataW.trod enc P W base spare held fuel f.type ((cs.drop f.offset).take (P.cellsOf f.type)) with
    | none => simp [hm] at h
    | some r => exact mapM_each _ _ _ hm f hf
  · cases h

/-- A list, each cell of which is told. -/
theorem list_of {α : Type} (f : α → Value) (cs : List Value) (h : ∀ i, i < cs.length → ∃ x, cs[i]? = some (f x)) : ∃ l : List α, l.length = cs.length ∧ cs = l.map f := by
  induction cs with
  | nil => exact ⟨[], rfl, rfl⟩
  | cons c cs ih =>
    obtain ⟨x, hx⟩ := h 0 (by simp)
    obtain ⟨l, hl, he⟩ := ih (fun i hi => by
      obtain ⟨y, hy⟩ := h (i + 1) (by simpa using hi)
      exact ⟨y, by simpa using hy⟩)
    refine ⟨x :: l, by simp [hl], ?_⟩
    rw [List.map_cons, ← he]
    simp at hx
    rw [hx]
theorem wf_u32' {a : Int} (h : (Lit.int .u32 a).wf = true) : ∃ x : UInt32, a = (x.toNat : Int) := by
  obtain ⟨n, rfl, hn⟩ := wf_u32 h
  exact ⟨UInt32.ofNat n, by rw [UInt32.toNat_ofNat', Nat.mod_eq_of_lt hn]⟩
theorem take_one {cs : List Value} {i : Nat} {v : Value} (h : (cs.drop i).take 1 = [v]) : cs[i]? = some v := by
  have := congrArg (fun l => l[0]?) h
  simp only [List.getElem?_take, List.getElem?_drop, Nat.add_zero] at this
  simpa using this

theorem open_pt {H : Type} {enc : TypeId × Value → H} {W : World} {base : Nat} {spare : Nat → Bool} {held : Bool} {cs : List Value} {x : DataW H × List MemPlace} {fuel : Nat}
    (h : DataW.trod enc Tryd.prog W base spare held fuel 33 cs = some x) : ∃ p : PT, cs = p.cells := by
  cases fuel with
  | zero => simp [DataW.trod] at h
  | succ fuel =>
    have hc35 : Tryd.prog.cellsOf 33 = 35 := by kernel_rfl
    have hc32 : Tryd.prog.cellsOf 29 = 32 := by kernel_rfl
    have hc2 : Tryd.prog.cellsOf 31 = 2 := by kernel_rfl
    have hc1 : Tryd.prog.cellsOf 5 = 1 := by kernel_rfl
    have hc4 : Tryd.prog.cellsOf 30 = 1 := by kernel_rfl
    obtain ⟨hl, hf⟩ := trod_fields Tryd.underlying33 h
    rw [hc35] at hl
    simp only [List.mem_cons, List.not_mem_nil, or_false, forall_eq_or_imp, forall_eq] at hf
    obtain ⟨⟨y0, h0⟩, ⟨y1, h1⟩, ⟨y2, h2⟩⟩ := hf
    rw [hc32, List.drop_zero] at h0
    rw [hc4] at h1
    rw [hc2] at h2
    cases fuel with
    | zero => simp [DataW.trod] at h0
    | succ fuel =>
      obtain ⟨hl0, ha0⟩ := trod_array Tryd.underlying29 h0
      obtain ⟨hl2, ha2⟩ := trod_array Tryd.underlying31 h2
      obtain ⟨nb, eb, wb⟩ := trod_leaf Tryd.underlying30 h1
      obtain ⟨b, rfl⟩ := wf_u32' wb
      have hu8 : ∀ i, i < 32 → ∃ x : UInt8, (cs.take 32)[i]? = some (cb x) := fun i hi => by
        obtain ⟨y, hy⟩ := ha0 i hi
        rw [hc1] at hy
        obtain ⟨n, en, wn⟩ := trod_leaf Tryd.underlying5 hy
        obtain ⟨z, rfl⟩ := wf_u8 wn
        rw [Nat.mul_one] at en
        exact ⟨z, take_one en⟩
      have hu32 : ∀ i, i < 2 → ∃ x : UInt32, ((cs.drop 33).take 2)[i]? = some (u32 x) := fun i hi => by
        obtain ⟨y, hy⟩ := ha2 i hi
        rw [hc4] at hy
        obtain ⟨n, en, wn⟩ := trod_leaf Tryd.underlying30 hy
        obtain ⟨z, rfl⟩ := wf_u32' wn
        rw [Nat.mul_one] at en
        exact ⟨z, take_one en⟩
      have hlt : (cs.take 32).length = 32 := by rw [List.length_take]; omega
      obtain ⟨hh, hhl, hhe⟩ := list_of cb (cs.take 32) (fun i hi => hu8 i (by omega))
      obtain ⟨z0, hz0⟩ := hu32 0 (by omega)
      obtain ⟨z1, hz1⟩ := hu32 1 (by omega)
      refine ⟨⟨hh, by rw [hhl, hlt], b, z0, z1⟩, ?_⟩
      have e1 := take_one eb
      rw [List.getElem?_take, List.getElem?_drop] at hz0 hz1
      simp only [Nat.add_zero, Nat.reduceAdd] at hz0 hz1
      rw [if_pos (by omega)] at hz0 hz1
      obtain ⟨k0, g0⟩ := List.getElem?_eq_some_iff.1 e1
      obtain ⟨k1, g1⟩ := List.getElem?_eq_some_iff.1 hz0
      obtain ⟨k2, g2⟩ := List.getElem?_eq_some_iff.1 hz1
      have hd : cs.drop 32 = [u32 b, u32 z0, u32 z1] := by
        rw [List.drop_eq_getElem_cons k0, List.drop_eq_getElem_cons k1, List.drop_eq_getElem_cons k2, g0, g1, g2, List.drop_of_length_le (by omega)]
        rfl
      unfold PT.cells
      rw [← hhe, ← hd, List.take_append_drop]

theorem open_ptr {H : Type} {enc : TypeId × Value → H} {W : World} {base : Nat} {spare : Nat → Bool} {held : Bool} {v : Value} {d : DataW H} {ps : List MemPlace} {r : Reach} {b2 : Nat} {W2 : World}
    (h : DataW.Trod enc Tryd.prog W base spare held 33 v d ps) (hv : Value.okWide Tryd.prog W2 r b2 33 v) : ∃ p : PT, v = p.val := by
  obtain ⟨cs, rfl, _⟩ := okWide_struct Tryd.underlying33 hv
  obtain ⟨fuel, hf⟩ := h
  obtain ⟨p, hp⟩ := open_pt hf
  refine ⟨p, ?_⟩
  unfold PT.val
  rw [← hp]
  simp [Value.cells]

theorem open_pts : ∀ (n : Nat) (cs : List Value), cs.length = n * 35 → (∀ i, i < n → ∃ p : PT, (cs.drop (i * 35)).take 35 = p.cells) → ∃ l : List PT, l.length = n ∧ cs = l.flatMap PT.cells
  | 0, cs, hl, _ => ⟨[], rfl, by simpa using List.length_eq_zero_iff.mp (by omega)⟩
  | n + 1, cs, hl, h => by
    obtain ⟨p, hp⟩ := h 0 (by omega)
    obtain ⟨l, h1, h2⟩ := open_pts n (cs.drop 35) (by rw [List.length_drop]; omega) (fun i hi => by
      obtain ⟨q, hq⟩ := h (i + 1) (by omega)
      exact ⟨q, by rw [List.drop_drop, ← hq]; congr 2; omega⟩)
    refine ⟨p :: l, by simp [h1], ?_⟩
    rw [List.flatMap_cons, ← hp, ← h2]
    simp
theorem open_ptr4 {H : Type} {enc : TypeId × Value → H} {W : World} {base : Nat} {spare : Nat → Bool} {held : Bool} {v : Value} {d : DataW H} {ps : List MemPlace} {r : Reach} {b2 : Nat} {W2 : World}
    (h : DataW.Trod enc Tryd.prog W base spare held 188 v d ps) (hv : Value.okWide Tryd.prog W2 r b2 188 v) : ∃ l : PL, v = l.val := by
  have hw : ∃ cs, v = .agg cs := by
    simp only [Value.okWide, Tryd.underlying188] at hv
    obtain ⟨cs, h1, _⟩ := hv
    exact ⟨cs, h1⟩
  obtain ⟨cs, rfl⟩ := hw
  obtain ⟨fuel, hf⟩ := h
  cases fuel with
  | zero => simp [DataW.trod] at hf
  | succ fuel =>
    have hc : Tryd.prog.cellsOf 188 = 140 := by kernel_rfl
    have hc35 : Tryd.prog.cellsOf 33 = 35 := by kernel_rfl
    obtain ⟨hl, ha⟩ := trod_array Tryd.underlying188 hf
    rw [hc] at hl
    obtain ⟨l, h1, h2⟩ := open_pts 4 (Value.agg cs).cells.toList (by rw [hl]) (fun i hi => by
      obtain ⟨y, hy⟩ := ha i hi
      rw [hc35] at hy
      exact open_pt hy)
    refine ⟨⟨l, h1⟩, ?_⟩
    unfold PL.val PL.cells
    rw [← h2]
    simp [Value.cells]
end Go.Proofs.YticfcelbnkiopaaDoor

namespace Go.Proofs.YticfcelbnkiopaaDoor
set_option maxRecDepth 100000
open Go.RowKit Go.ChangeShapes Go.WideShapes

set_option linter.unusedSimpArgs false
set_option linter.unusedVariables false
theorem addr_addadd (a : Addr) (i j : Nat) : (a.add i).add j = a.add (i + j) := by
  unfold Addr.add
  by_cases h1 : i = 0
  · subst h1; simp
  · by_cases h2 : j = 0
    · subst h2; simp
    · simp [h1, h2, Nat.add_assoc]
/-- A slice of any elements. -/
theorem open_row {α : Type} {H : Type} {enc : TypeId × Value → H} {P : Program} {W : World} {base : Nat} {spare : Nat → Bool} {held : Bool} {t : TypeId} {cs : List Value} {x : DataW H × List MemPlace} {fuel : Nat}
    (T : Ty α) (R : α → Prop) (e : TypeId) (hu : P.underlying t = some (.slice e)) (hsz : P.cellsOf e = T.sz)
    (hel : ∀ (n : Nat) (ecs : List Value) (y : DataW H × List MemPlace), DataW.trod enc P W base spare held n e ecs = some y → ∃ x : α, ecs = T.enc x ∧ R x)
    (h : DataW.trod enc P W base spare held fuel t cs = some x) : ∃ (A : Option Addr) (xs : List α) (cap : Nat), cs = [.slice A xs.length cap] ∧ RR T W (.slice A xs.length cap) xs ∧ xs.length ≤ cap ∧ cap ≤ 9223372036854775807 ∧ ∀ x ∈ xs, R x := by
  rcases DataW.trod_slice hu h with ⟨rfl, -⟩ | ⟨a, len, cap, elems, rest, n, rfl, rfl, -, hb, hl, hm, hlen, hel2, -, -⟩
  · exact ⟨none, [], 0, rfl, RR.nil W, by simp, by simp, by simp⟩
  · have hm' : cap ≤ 9223372036854775807 := by simpa [maxLen] using hm
    have each : ∀ i, i < len → ∃ x : α, R x ∧ ∀ j u, (T.enc x)[j]? = some u → W.cell? (a.add (i * T.sz + j)) = some u := fun i hi => by
      have h1 := hel2 i hi
      rw [List.getElem?_eq_getElem (by omega)] at h1
      obtain ⟨ecs, h2, h3⟩ := Option.bind_eq_some_iff.1 h1
      obtain ⟨x, rfl, hx⟩ := hel n ecs _ h3
      refine ⟨x, hx, fun j u hj => ?_⟩
      have h4 := (World.cells?_some h2).2.2 j
      rw [hsz] at h4
      have hjl : j < T.sz := by have := (List.getElem?_eq_some_iff.1 hj).1; rwa [T.hlen] at this
      have := h4 hjl
      rw [addr_addadd] at this
      rw [this]; exact hj
    have build : ∀ k, k ≤ len → ∃ xs : List α, xs.length = k ∧ (∀ x ∈ xs, R x) ∧ ∀ j u, (T.all xs)[j]? = some u → W.cell? (a.add j) = some u := fun k => by
      induction k with
      | zero => exact fun _ => ⟨[], rfl, by simp, fun j u hj => by simp [Ty.all] at hj⟩
      | succ k ih =>
        intro hk
        obtain ⟨xs, h1, h2, h3⟩ := ih (by omega)
        obtain ⟨x, hx, hc⟩ := each k (by omega)
        refine ⟨xs ++ [x], by rw [List.length_append, h1]; rfl, fun y hy => ?_, fun j u hj => ?_⟩
        · rcases List.mem_append.1 hy with hy | hy
          · exact h2 y hy
          · rw [List.mem_singleton.1 hy]; exact hx
        · rw [Ty.all_append] at hj
          by_cases hjl : j < (T.all xs).length
          · rw [List.getElem?_append_left hjl] at hj
            exact h3 j u hj
          · rw [List.getElem?_append_right (by omega)] at hj
            have hal : (T.all xs).length = k * T.sz := by rw [Ty.all_length, h1]
            have e1 : T.all [x] = T.enc x := by simp [Ty.all]
            rw [e1, hal] at hj
            have := hc _ u hj
            rwa [show k * T.sz + (j - k * T.sz) = j by omega] at this
    obtain ⟨xs, h1, h2, h3⟩ := build len (Nat.le_refl _)
    subst h1
    exact ⟨some a, xs, cap, rfl, ⟨_, _, rfl, hl, by omega, fun _ => ⟨a, rfl, h3⟩⟩, hl, hm', h2⟩
/-- Bytes. -/
theorem open_u8s {H : Type} {enc : TypeId × Value → H} {W : World} {base : Nat} {spare : Nat → Bool} {held : Bool} {cs : List Value} {x : DataW H × List MemPlace} {fuel : Nat}
    (h : DataW.trod enc Tryd.prog W base spare held fuel 22 cs = some x) : ∃ (A : Option Addr) (xs : List UInt8) (cap : Nat), cs = [.slice A xs.length cap] ∧ RB W (.slice A xs.length cap) xs ∧ xs.length ≤ cap ∧ cap ≤ 9223372036854775807 := by
  obtain ⟨A, xs, cap, h1, h2, h3, h4, -⟩ := open_row B8 (fun _ => True) 5 Tryd.underlying22 (by kernel_rfl) (fun n ecs y hy => by
    obtain ⟨n', en, wn⟩ := trod_leaf Tryd.underlying5 hy
    obtain ⟨z, rfl⟩ := wf_u8 wn
    exact ⟨z, en, trivial⟩) h
  exact ⟨A, xs, cap, h1, h2, h3, h4⟩
/-- A truth. -/
theorem trod_bool {H : Type} {enc : TypeId × Value → H} {P : Program} {W : World} {base : Nat} {spare : Nat → Bool} {held : Bool} {t : TypeId} {cs : List Value} {x : DataW H × List MemPlace} {fuel : Nat}
    (hu : P.underlying t = some .bool) (h : DataW.trod enc P W base spare held fuel t cs = some x) : ∃ b, cs = [.bool b] := by
  cases fuel with
  | zero => simp [DataW.trod] at h
  | succ fuel =>
    rcases cs with _ | ⟨v, _ | ⟨u, r⟩⟩
    · simp [DataW.trod, hu] at h
    · cases v <;> simp [DataW.trod, hu] at h
      exact ⟨_, rfl⟩
    · simp [DataW.trod, hu] at h
/-- A text. -/
theorem trod_str {H : Type} {enc : TypeId × Value → H} {P : Program} {W : World} {base : Nat} {spare : Nat → Bool} {held : Bool} {t : TypeId} {cs : List Value} {x : DataW H × List MemPlace} {fuel : Nat}
    (hu : P.underlying t = some .string) (h : DataW.trod enc P W base spare held fuel t cs = some x) : ∃ xs : List UInt8, cs = [.string (str xs)] ∧ xs.length ≤ 9223372036854775807 := by
  cases fuel with
  | zero => simp [DataW.trod] at h
  | succ fuel =>
    rcases cs with _ | ⟨v, _ | ⟨u, r⟩⟩
    · simp [DataW.trod, hu] at h
    · cases v <;> simp [DataW.trod, hu] at h
      rename_i s
      refine ⟨s.data.toList, ?_, ?_⟩
      · first | rfl | simp [str]
      · have := h.1
        simpa [maxLen] using this
    · simp [DataW.trod, hu] at h
end Go.Proofs.YticfcelbnkiopaaDoor

namespace Go.Proofs.YticfcelbnkiopaaDoor
set_option maxRecDepth 100000
open Go.RowKit Go.ChangeShapes Go.WideShapes

set_option linter.unusedSimpArgs false
set_option linter.unusedVariables false
theorem open_bb {H : Type} {enc : TypeId × Value → H} {W : World} {base : Nat} {spare : Nat → Bool} {held : Bool} {v : Value} {d : DataW H} {ps : List MemPlace} {r : Reach} {b2 : Nat} {W2 : World}
    (h : DataW.Trod enc Tryd.prog W base spare held 41 v d ps) (hv : Value.okWide Tryd.prog W2 r b2 41 v) : ∃ (v1 v2 : Value) (s1 s2 : List UInt8), v = .agg #[v1, v2] ∧ RB W v1 s1 ∧ RB W v2 s2 := by
  have hw : ∃ cs, v = .agg cs := by
    simp only [Value.okWide, Tryd.underlying41] at hv
    obtain ⟨cs, h1, _⟩ := hv
    exact ⟨cs, h1⟩
  obtain ⟨cs, rfl⟩ := hw
  obtain ⟨fuel, hf⟩ := h
  cases fuel with
  | zero => simp [DataW.trod] at hf
  | succ fuel =>
    have hc : Tryd.prog.cellsOf 41 = 2 := by kernel_rfl
    have hc1 : Tryd.prog.cellsOf 22 = 1 := by kernel_rfl
    obtain ⟨hl, ha⟩ := trod_array Tryd.underlying41 hf
    rw [hc] at hl
    obtain ⟨y0, h0⟩ := ha 0 (by omega)
    obtain ⟨y1, h1⟩ := ha 1 (by omega)
    rw [hc1] at h0 h1
    obtain ⟨A1, s1, c1, e1, r1, -, -⟩ := open_u8s h0
    obtain ⟨A2, s2, c2, e2, r2, -, -⟩ := open_u8s h1
    refine ⟨_, _, s1, s2, ?_, r1, r2⟩
    have g1 := take_one e1
    have g2 := take_one e2
    have hcs : (Value.agg cs).cells.toList = cs.toList := by simp [Value.cells]
    rw [hcs] at g1 g2 hl
    rcases hq : cs.toList with _ | ⟨a, _ | ⟨b, _ | ⟨c, l⟩⟩⟩
    · rw [hq] at hl; simp at hl
    · rw [hq] at hl; simp at hl
    · rw [hq] at g1 g2
      simp at g1 g2
      have : cs = cs.toList.toArray := by simp
      rw [this, hq, g1, g2]
    · rw [hq] at hl; simp at hl
end Go.Proofs.YticfcelbnkiopaaDoor

namespace Go.Proofs.YticfcelbnkiopaaDoor
set_option maxRecDepth 100000
open Go.RowKit
set_option linter.unusedSimpArgs false
set_option linter.unusedVariables false

theorem mapM_get {β γ : Type} (f : β → Option γ) : ∀ (l : List β) (r : List γ), l.mapM f = some r → ∀ i (hi : i < l.length), ∃ y, r[i]? = some y ∧ f l[i] = some y
  | [], _, _, i, hi => by simp at hi
  | b :: l, r, h, i, hi => by
    simp only [List.mapM_cons, Option.bind_eq_bind, Option.pure_def] at h
    cases hb : f b with
    | none => simp [hb] at h
    | some c =>
      cases hl : l.mapM f with
      | none => simp [hb, hl] at h
      | some r' =>
        simp [hb, hl] at h
        subst h
        cases i with
        | zero => exact ⟨c, rfl, hb⟩
        | succ i => exact mapM_get f l r' hl i (by simpa using hi)
theorem trod_agg {H : Type} {enc : TypeId × Value → H} {P : Program} {W : World} {base : Nat} {spare : Nat → Bool} {held : Bool} {t e : TypeId} {m : Nat} {cs : List Value} {x : DataW H × List MemPlace} {fuel : Nat}
    (hu : P.underlying t = some (.array m e)) (h : DataW.trod enc P W base spare held (fuel + 1) t cs = some x) :
    ∃ ys, ((List.range m).mapM fun i => DataW.trod enc P W base spare held fuel e ((cs.drop (i * P.cellsOf e)).take (P.cellsOf e))) = some ys ∧ x.1 = .agg (ys.map (·.1)) := by
  unfold DataW.trod at h
  rw [hu] at h
  simp only at h
  split at h
  · cases hm : (List.range m).mapM fun i => DataW.trod enc P W base spare held fuel e ((cs.drop (i * P.cellsOf e)).take (P.cellsOf e)) with
    | none => simp [hm] at h
    | some r =>
      simp [hm] at h
      subst h
      exact ⟨r, rfl, rfl⟩
  · cases h
theorem trod_leafL {H : Type} {enc : TypeId × Value → H} {P : Program} {W : World} {base : Nat} {spare : Nat → Bool} {held : Bool} {t : TypeId} {k : IntKind} {cs : List Value} {x : DataW H × List MemPlace} {fuel : Nat}
    (hu : P.underlying t = some (.int k)) (h : DataW.trod enc P W base spare held fuel t cs = some x) : ∃ n, cs = [.int k n] ∧ x.1 = .lit (.int k n) := by
  cases fuel with
  | zero => simp [DataW.trod] at h
  | succ fuel =>
    rcases cs with _ | ⟨v, _ | ⟨u, r⟩⟩
    · simp [DataW.trod, hu] at h
    · cases v <;> simp [DataW.trod, hu] at h
      rename_i k' n
      obtain ⟨⟨rfl, h1⟩, h2⟩ := h
      exact ⟨n, rfl, by rw [← h2]⟩
    · simp [DataW.trod, hu] at h
theorem tab_lits : Rows.laid_math_bits_deBruijn64tab (H := Unit) = .agg (tabL.map fun n => .lit (.int .u8 ((n : Nat) : Int))) := by rfl
theorem open_tab {W : World} (h : laidMetH Tryd.prog [("math/bits.deBruijn64tab", Rows.laid_math_bits_deBruijn64tab)] W) : TabAt W := by
  rw [MakeChecks.laidMetH_plain _ _ _ (by kernel_rfl)] at h
  obtain ⟨ps, ⟨g, t, cs, fuel, p, q, hg, ht, hv, htr, -, -⟩, -, -⟩ := h
  obtain rfl : 0 = g := Option.some.inj ((show Tryd.prog.globalNamed "math/bits.deBruijn64tab" = some 0 by kernel_rfl).symm.trans hg)
  obtain rfl : 220 = t := Option.some.inj ((show (Tryd.prog.globals[0]?).map (·.type) = some 220 by kernel_rfl).symm.trans ht)
  rw [tab_lits] at htr
  rw [World.var?, hg, Option.bind_some] at hv
  cases fuel with
  | zero => simp [DataW.trod] at htr
  | succ fuel =>
    obtain ⟨ys, hm, hy⟩ := trod_agg Tryd.underlying220 htr
    have hy2 : (tabL.map fun n => (.lit (.int .u8 ((n : Nat) : Int)) : DataW Unit)) = ys.map (·.1) := by injection hy
    intro r hr
    obtain ⟨y, h1, h2⟩ := mapM_get _ _ _ hm r (by simpa using hr)
    obtain ⟨n, h3, h4⟩ := trod_leafL Tryd.underlying5 h2
    have h5 : (ys.map (·.1))[r]? = some (.lit (.int .u8 n)) := by rw [List.getElem?_map, h1, ← h4]; rfl
    rw [← hy2, List.getElem?_map] at h5
    have hlt : r < tabL.length := hr
    rw [List.getElem?_eq_getElem hlt] at h5
    injection h5 with h5
    injection h5 with h5
    injection h5 with _ h5
    have hc1 : Tryd.prog.cellsOf 5 = 1 := by kernel_rfl
    rw [hc1, Nat.mul_one, List.getElem_range] at h3
    have h6 : cs.toList[r]? = some (.int .u8 n) := by
      have := congrArg (·[0]?) h3
      rw [List.getElem?_take_of_lt (by omega), List.getElem?_drop] at this
      exact this
    have e : tabL.getD r 0 = tabL[r] := by rw [List.getD_eq_getElem?_getD, List.getElem?_eq_getElem hlt]; rfl
    rw [e, h5]
    split at hv
    · rename_i cs' _ _ hh
      injection hv with hv
      subst hv
      simp only [World.cell?, hh]
      simpa using h6
    · cases hv
end Go.Proofs.YticfcelbnkiopaaDoor
