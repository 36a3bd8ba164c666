/- Ground of the statements BankHealed, part 6: Bk7, Bk8, Bk9, BkA, BkB, BkC, BkE, Dk15, Slit, BkD, EqB. -/
import Derived.Test.YticfcelbnkiopaaDoorBBC5
namespace Go.Proofs.YticfcelbnkiopaaDoor
set_option maxRecDepth 100000
open Go.RowKit
set_option linter.unusedSimpArgs false
set_option linter.unusedVariables false

/-- What stands ahead of the things that a callee was handed is kept. -/
theorem SH.keepHd {F : Nat → Prop} {w0 w w2 : World} {o : Own} {L D : List Own} {put : List Own → List Own} (h : SH F w0 w (o :: L)) [k : HasS L D put] (hc : Chg (feet D) w w2) : o.holds w2 := by
  obtain ⟨A, hA, -⟩ := k.ix
  refine o.keep w w2 (h.holds o List.mem_cons_self) hc.size fun b hb => hc.block b (o.lt w b (h.holds o List.mem_cons_self) hb) ?_
  rintro ⟨o', ho', hb'⟩
  exact (List.pairwise_cons.1 h.apart).1 o' (by rw [hA]; exact List.mem_append_right _ ho') b hb hb'
/-- What Heal, and what Fix, tells and leaves. -/
def healR (n : Nat) (st : DS) (p : PT) : Nat × Int × DS := if brE st n p ≠ 0 ∨ (p == PT.hole) = true then (0, brE st n p, st) else ovr n (brB st n p) st (ovG st n p) 0
def fixR (n : Nat) (st : DS) (p : PT) (b : List UInt8) : Nat × Int × DS := if ckE st p = 8 then (0, 8, st) else if ckE st p ≠ 0 ∨ (p == PT.hole) = true ∨ b.length ≠ 256 then (0, 1, st) else if shaL b ≠ p.hash then (0, 14, st) else ovr n b st (ovG st n p) 0
section
variable {bk bd bo bm : Nat} {vw : Value} {ss : List SVV} {t : UInt32} {st : DS} {u : List Bool}
set_option maxHeartbeats 3200000 in
theorem bHeal_any (p : PT) (hk : BKok st u) (hws : st.ws.length + 2 ≤ 1000000) (w : World) (hD : SH (feet (bankL bk bd bo bm vw ss t st u)) w w (bankL bk bd bo bm vw ss t st u)) :
    Calls Tryd.prog 22 #[.pointer (some ⟨bk, 0, none⟩), .agg p.cells.toArray] w fun e w' => e = .returned (.tuple #[.int .i64 ((healR u.length st p).1 : Int), .int .i64 (healR u.length st p).2.1]) ∧ ∃ vw' ss', SH (feet (bankL bk bd bo bm vw ss t st u)) w w' (bankL bk bd bo bm vw' ss' t (healR u.length st p).2.2 u) := by
  have hRD := fun W (k : HOLD (bankL bk bd bo bm vw ss t st u) W) => bRead_any p hk W k
  have hOV := fun (v : Value) (hb : brE st u.length p = 0) W q1 q2 => bOver_any (bk := bk) (bd := bd) (bo := bo) (bm := bm) (vw := vw) (ss := ss) (t := t) p (brB st u.length p) v hk hws (brB_len hk.d hb) W q1 q2
  have hM := fun W => IsHole_any p W
  have HPL := Lib.hid p.len
  obtain ⟨F, hF⟩ : ∃ F, F = feet (bankL bk bd bo bm vw ss t st u) := ⟨_, rfl⟩
  rw [← hF] at hD ⊢
  have H := hD
  clear hF hD
  by_cases hE : brE st u.length p = 0
  · have hOV2 := fun v => hOV v hE
    have hR1 : healR u.length st p = if (p == PT.hole) = true then (0, 0, st) else ovr u.length (brB st u.length p) st (ovG st u.length p) 0 := by
      rw [healR, hE]; simp
    rw [hR1]
    rw [hE] at hRD
    have HRD : Hid (∀ W, HOLD (bankL bk bd bo bm vw ss t st u) W → Calls Tryd.prog 18 #[.pointer (some ⟨bk, 0, none⟩), .agg p.cells.toArray] W fun e w' => ∃ v, e = .returned (.tuple #[v, .int .i64 0]) ∧ OB w' W.heap.size v (brB st u.length p) ∧ Below W.heap.size W w') := Lib.hid fun W k => (hRD W k).mono fun e w' ⟨v, h1, h2, _, h3⟩ => ⟨v, h1, h2 rfl, h3⟩
    have HOV := Lib.hid hOV2
    clear hRD hOV hOV2 hR1 hE hk hws
    cases hh : (p == PT.hole) with
    | true =>
      rw [hh] at hM
      have HM := Lib.hid hM
      rw [if_pos rfl]
      clear hM hh
      go_enter Tryd.func22, Tryd.ntmps22
      go_wp2_with (first
        | ((with_reducible refine gDst 10 ?_); refine aLoad H _ rfl rfl (part_all HPL.out) HPL.out rfl ?_)
        | ((with_reducible refine gDst 17 ?_); refine aLoad H _ rfl rfl (part_all HPL.out) HPL.out rfl ?_)
        | ((with_reducible refine gDst 22 ?_); refine aLoad H _ rfl rfl (part_all HPL.out) HPL.out rfl ?_)
        | (go_at_call 18; refine (HRD.out _ (HOLD.suf (D := bankL bk bd bo bm vw ss t st u) H.hold)).mono ?_; rintro e w' ⟨v, rfl, ho, hb⟩; replace H := H.pushRow hb ho; clear hb ho)
        | (go_at_call 68; refine (HM.out _).mono ?_; rintro e w' ⟨rfl, hb⟩; replace H := H.step hb; clear hb)
        | (go_at_call 73; refine (HOV.out _ _ (H.subS (D := bankL bk bd bo bm vw ss t st u)) (fun w2 hc2 => OR.reads (H.keepHd (D := bankL bk bd bo bm vw ss t st u) hc2))).mono ?_; rintro e w' ⟨rfl, vw2, ss2, k2⟩; replace H := H.viaS k2; (try dsimp only at H); clear k2)
        | ((with_reducible refine gDst 3 ?_); refine aBox H _ rfl rfl rfl ?_; clear H; intro b3 w3 H)
        | ((with_reducible refine gLoad ?_); first | (refine aLoad H _ rfl rfl (by first | exact part_all (by first | rfl | simp []) | (simp only [List.drop_succ_cons, List.drop_zero, List.take_succ_cons, List.take_zero]; rfl) | (simp [List.drop_append, List.take_append]; rfl)) (by first | rfl | simp []) rfl ?_)))
      go_ret2
      exact ⟨rfl, vw, ss, H.tail.tail⟩
    | false =>
      rw [hh] at hM
      have HM := Lib.hid hM
      rw [if_neg (by decide)]
      obtain ⟨R, hR⟩ : ∃ R, R = ovr u.length (brB st u.length p) st (ovG st u.length p) 0 := ⟨_, rfl⟩
      rw [← hR] at HOV ⊢
      clear hM hh hR
      go_enter Tryd.func22, Tryd.ntmps22
      go_wp2_with (first
        | ((with_reducible refine gDst 10 ?_); refine aLoad H _ rfl rfl (part_all HPL.out) HPL.out rfl ?_)
        | ((with_reducible refine gDst 17 ?_); refine aLoad H _ rfl rfl (part_all HPL.out) HPL.out rfl ?_)
        | ((with_reducible refine gDst 22 ?_); refine aLoad H _ rfl rfl (part_all HPL.out) HPL.out rfl ?_)
        | (go_at_call 18; refine (HRD.out _ (HOLD.suf (D := bankL bk bd bo bm vw ss t st u) H.hold)).mono ?_; rintro e w' ⟨v, rfl, ho, hb⟩; replace H := H.pushRow hb ho; clear hb ho)
        | (go_at_call 68; refine (HM.out _).mono ?_; rintro e w' ⟨rfl, hb⟩; replace H := H.step hb; clear hb)
        | (go_at_call 73; refine (HOV.out _ _ (H.subS (D := bankL bk bd bo bm vw ss t st u)) (fun w2 hc2 => OR.reads (H.keepHd (D := bankL bk bd bo bm vw ss t st u) hc2))).mono ?_; rintro e w' ⟨rfl, vw2, ss2, k2⟩; replace H := H.viaS k2; (try dsimp only at H); clear k2)
        | ((with_reducible refine gDst 3 ?_); refine aBox H _ rfl rfl rfl ?_; clear H; intro b3 w3 H)
        | ((with_reducible refine gLoad ?_); first | (refine aLoad H _ rfl rfl (by first | exact part_all (by first | rfl | simp []) | (simp only [List.drop_succ_cons, List.drop_zero, List.take_succ_cons, List.take_zero]; rfl) | (simp [List.drop_append, List.take_append]; rfl)) (by first | rfl | simp []) rfl ?_)))
      go_ret2
      exact ⟨rfl, vw2, ss2, H.tail.tail⟩
  · have hR1 : healR u.length st p = (0, brE st u.length p, st) := by rw [healR, if_pos (.inl hE)]
    rw [hR1]
    have hE2 : (brE st u.length p != 0) = true := by simpa using hE
    have HRD : Hid (∀ W, HOLD (bankL bk bd bo bm vw ss t st u) W → Calls Tryd.prog 18 #[.pointer (some ⟨bk, 0, none⟩), .agg p.cells.toArray] W fun e w' => ∃ v, e = .returned (.tuple #[v, .int .i64 (brE st u.length p)]) ∧ True ∧ Below W.heap.size W w') := Lib.hid fun W k => (hRD W k).mono fun e w' ⟨v, h1, h2, _, h3⟩ => ⟨v, h1, trivial, h3⟩
    have HM := Lib.hid hM
    clear hRD hOV hR1 hE hk hws hM HM
    generalize brE st u.length p = E at *
    go_enter Tryd.func22, Tryd.ntmps22
    go_wp2_with (first
      | ((with_reducible refine gDst 10 ?_); refine aLoad H _ rfl rfl (part_all HPL.out) HPL.out rfl ?_)
      | ((with_reducible refine gDst 17 ?_); refine aLoad H _ rfl rfl (part_all HPL.out) HPL.out rfl ?_)
      | ((with_reducible refine gDst 22 ?_); refine aLoad H _ rfl rfl (part_all HPL.out) HPL.out rfl ?_)
      | (go_at_call 18; refine (HRD.out _ (HOLD.suf (D := bankL bk bd bo bm vw ss t st u) H.hold)).mono ?_; rintro e w' ⟨v, rfl, ho, hb⟩; replace H := H.step hb; clear hb ho)
      | ((with_reducible refine gDst 3 ?_); refine aBox H _ rfl rfl rfl ?_; clear H; intro b3 w3 H)
      | ((with_reducible refine gLoad ?_); first | (refine aLoad H _ rfl rfl (by first | exact part_all (by first | rfl | simp []) | (simp only [List.drop_succ_cons, List.drop_zero, List.take_succ_cons, List.take_zero]; rfl) | (simp [List.drop_append, List.take_append]; rfl)) (by first | rfl | simp []) rfl ?_)))
    go_ret2
    exact ⟨rfl, vw, ss, H.tail⟩
end
end Go.Proofs.YticfcelbnkiopaaDoor

namespace Go.Proofs.YticfcelbnkiopaaDoor
set_option maxRecDepth 100000
open Go.RowKit
set_option linter.unusedSimpArgs false
set_option linter.unusedVariables false

section
variable {bk bd bo bm : Nat} {vw : Value} {ss : List SVV} {t : UInt32} {st : DS} {u : List Bool}
set_option maxHeartbeats 3200000 in
theorem bFix_any (p : PT) (b : List UInt8) (vb : Value) (hk : BKok st u) (hws : st.ws.length + 2 ≤ 1000000) (w : World) (hD : SH (feet (bankL bk bd bo bm vw ss t st u)) w w (bankL bk bd bo bm vw ss t st u)) (hv : ∀ w', Chg (feet (bankL bk bd bo bm vw ss t st u)) w w' → RB w' vb b) :
    Calls Tryd.prog 23 #[.pointer (some ⟨bk, 0, none⟩), .agg p.cells.toArray, vb] w fun e w' => e = .returned (.tuple #[.int .i64 ((fixR u.length st p b).1 : Int), .int .i64 (fixR u.length st p b).2.1]) ∧ ∃ vw' ss', SH (feet (bankL bk bd bo bm vw ss t st u)) w w' (bankL bk bd bo bm vw' ss' t (fixR u.length st p b).2.2 u) := by
  have hP := fun W (k : HOLD (bankL bk bd bo bm vw ss t st u) W) => bCheck_any p hk W k
  have hM := fun W => IsHole_any p W
  have HPL := Lib.hid p.len
  have hOV := fun (hbl : b.length = 256) (v : Value) W q1 q2 => bOver_any (bk := bk) (bd := bd) (bo := bo) (bm := bm) (vw := vw) (ss := ss) (t := t) p b v hk hws hbl W q1 q2
  obtain ⟨F, hF⟩ : ∃ F, F = feet (bankL bk bd bo bm vw ss t st u) := ⟨_, rfl⟩
  rw [← hF] at hD hv ⊢
  obtain ⟨A0, c0, rfl, -⟩ := (hv w (Chg.refl _ _)).len
  have H := hD
  have HV := Lib.hid hv
  clear hF hD hv hk hws
  by_cases h8 : ckE st p = 8
  · have e : fixR u.length st p b = (0, 8, st) := by rw [fixR, if_pos h8]
    rw [e]
    rw [h8] at hP
    have HP := Lib.hid hP
    have HM := Lib.hid hM
    generalize b.length = bn at *
    clear hP hM e h8 HV hOV
    go_enter Tryd.func23, Tryd.ntmps23
    go_wp2_with (first
      | ((with_reducible refine gDst 10 ?_); refine aLoad H _ rfl rfl (part_all HPL.out) HPL.out rfl ?_)
      | ((with_reducible refine gDst 24 ?_); refine aLoad H _ rfl rfl (part_all HPL.out) HPL.out rfl ?_)
      | (go_at_call 67; refine (HP.out _ (HOLD.suf (D := bankL bk bd bo bm vw ss t st u) H.hold)).mono ?_; rintro e w' ⟨rfl, hb⟩; replace H := H.step hb; clear hb)
      | (go_at_call 68; refine (HM.out _).mono ?_; rintro e w' ⟨rfl, hb⟩; replace H := H.step hb; clear hb)
      | ((with_reducible refine gDst 4 ?_); refine aBox H _ rfl rfl rfl ?_; clear H; intro b4 w4 H)
      | ((with_reducible refine gLoad ?_); first | (refine aLoad H _ rfl rfl (by first | exact part_all (by first | rfl | simp []) | (simp only [List.drop_succ_cons, List.drop_zero, List.take_succ_cons, List.take_zero]; rfl) | (simp [List.drop_append, List.take_append]; rfl)) (by first | rfl | simp []) rfl ?_)))
    go_ret2
    exact ⟨rfl, vw, ss, H.tail⟩
  · by_cases h0 : ckE st p = 0
    · rw [h0] at hP
      have HP := Lib.hid hP
      clear hP
      cases hh : (p == PT.hole) with
      | true =>
        have e : fixR u.length st p b = (0, 1, st) := by rw [fixR, if_neg h8, if_pos (.inr (.inl hh))]
        rw [e]
        rw [hh] at hM
        have HM := Lib.hid hM
        generalize b.length = bn at *
        clear hM e h8 h0 HV hOV hh
        go_enter Tryd.func23, Tryd.ntmps23
        go_wp2_with (first
          | ((with_reducible refine gDst 10 ?_); refine aLoad H _ rfl rfl (part_all HPL.out) HPL.out rfl ?_)
          | ((with_reducible refine gDst 24 ?_); refine aLoad H _ rfl rfl (part_all HPL.out) HPL.out rfl ?_)
          | (go_at_call 67; refine (HP.out _ (HOLD.suf (D := bankL bk bd bo bm vw ss t st u) H.hold)).mono ?_; rintro e w' ⟨rfl, hb⟩; replace H := H.step hb; clear hb)
          | (go_at_call 68; refine (HM.out _).mono ?_; rintro e w' ⟨rfl, hb⟩; replace H := H.step hb; clear hb)
          | ((with_reducible refine gDst 4 ?_); refine aBox H _ rfl rfl rfl ?_; clear H; intro b4 w4 H)
          | ((with_reducible refine gLoad ?_); first | (refine aLoad H _ rfl rfl (by first | exact part_all (by first | rfl | simp []) | (simp only [List.drop_succ_cons, List.drop_zero, List.take_succ_cons, List.take_zero]; rfl) | (simp [List.drop_append, List.take_append]; rfl)) (by first | rfl | simp []) rfl ?_)))
        go_ret2
        exact ⟨rfl, vw, ss, H.tail⟩
      | false =>
        rw [hh] at hM
        have HM := Lib.hid hM
        by_cases hbl : b.length = 256
        · have HS := Lib.hid (fun v W (h : RB W v b) => Sum_any v b W h (by rw [hbl]; decide))
          have HEQ := Lib.hid (fun W => bh32_eql (shaL b) p.hash (shaL_len _) p.hl W)
          have HHL := Lib.hid (show (p.hash.map cb).length = 32 by rw [List.length_map, p.hl])
          have HDR := Lib.hid (show (p.cells.drop 0).take 32 = p.hash.map cb by rw [List.drop_zero, p.take32])
          have h256 : ((256 : Int) != 256) = false := rfl
          by_cases hs : shaL b = p.hash
          · have hse : (shaL b == p.hash) = true := beq_iff_eq.2 hs
            have e : fixR u.length st p b = ovr u.length b st (ovG st u.length p) 0 := by
              rw [fixR, if_neg h8, if_neg (by rw [hh]; simp [h0, hbl]), if_neg (by simp [hs])]
            rw [e]
            rw [hse] at HEQ
            have HOV := Lib.hid (hOV hbl)
            have HCL := Lib.hid (fun v W (h : RB W v b) => sliceClone v b W h hbl)
            obtain ⟨R, hR⟩ : ∃ R, R = ovr u.length b st (ovG st u.length p) 0 := ⟨_, rfl⟩
            rw [← hR] at HOV ⊢
            rw [hbl] at HV ⊢
            clear hM e h8 h0 hOV hh hs hse hR hbl
            go_enter Tryd.func23, Tryd.ntmps23
            go_wp2_with (first
              | ((with_reducible refine gDst 10 ?_); refine aLoad H _ rfl rfl (part_all HPL.out) HPL.out rfl ?_)
              | ((with_reducible refine gDst 24 ?_); refine aLoad H _ rfl rfl (part_all HPL.out) HPL.out rfl ?_)
              | (go_at_call 67; refine (HP.out _ (HOLD.suf (D := bankL bk bd bo bm vw ss t st u) H.hold)).mono ?_; rintro e w' ⟨rfl, hb⟩; replace H := H.step hb; clear hb)
              | (go_at_call 68; refine (HM.out _).mono ?_; rintro e w' ⟨rfl, hb⟩; replace H := H.step hb; clear hb)
              | ((with_reducible refine gDst 4 ?_); refine aBox H _ rfl rfl rfl ?_; clear H; intro b4 w4 H)
              | ((with_reducible refine gLoad ?_); first | (refine aLoad H _ rfl rfl (by first | exact part_all (by first | rfl | simp []) | (simp only [List.drop_succ_cons, List.drop_zero, List.take_succ_cons, List.take_zero]; rfl) | (simp [List.drop_append, List.take_append]; rfl)) (by first | rfl | simp []) rfl ?_)))
            refine startA (fun i => false) (by kernel_rfl) (fun wS hS => ?_)
            replace H := H.drew
            rw [← hS] at H
            have HH := H.hold
            have HS0 : Below wS.heap.size wS wS := Below.refl _ _
            clear hS
            refine takeP 0 rfl (by kernel_rfl) (by kernel_rfl) (by kernel_rfl) (by kernel_rfl) (fun _ _ _ h => h) rfl (v := ?_) ?_ ?_
            rotate_left
            · intro w'; go_simp; (try with_reducible rfl)
            (try simp only [Act.put, List.setIfInBounds_toArray, List.set_cons_zero, List.set_cons_succ])
            refine takeP 2 rfl (by kernel_rfl) (by kernel_rfl) (by kernel_rfl) (by kernel_rfl) (fun _ _ _ h => h) rfl (v := ?_) ?_ ?_
            rotate_left
            · intro w'; go_simp; (try with_reducible rfl)
            (try simp only [Act.put, List.setIfInBounds_toArray, List.set_cons_zero, List.set_cons_succ])
            refine takeL 3 HS0 rfl (by kernel_rfl) (by kernel_rfl) (by kernel_rfl) (by kernel_rfl) (by kernel_rfl) (fun _ _ _ h => h) rfl (v := ?_) ?_ ?_
            rotate_left
            · intro w' hw'; refine Eq.trans (xLoad (HH.below hw') _ rfl rfl HDR.out HHL.out) ?_; with_reducible rfl
            (try simp only [Act.put, List.setIfInBounds_toArray, List.set_cons_zero, List.set_cons_succ])
            refine stepL 1 rfl (by kernel_rfl) rfl (fun K hK => ?_)
            (go_simp; (with_reducible refine ((HS.out _ _ (HV.out _ H.chg))).mono ?_); rintro e w' ⟨rfl, hb⟩; replace H := H.step hb; replace HS0 := below_two HS0 HS0.size hb; clear hb; refine hK.out _ _ (fun _ _ => HS0) ?_; clear K hK)
            (try simp only [Act.put, List.setIfInBounds_toArray, List.set_cons_zero, List.set_cons_succ])
            refine takeL 4 HS0 rfl (by kernel_rfl) (by kernel_rfl) (by kernel_rfl) (by kernel_rfl) (by kernel_rfl) (fun _ _ _ h => h) rfl (v := ?_) ?_ ?_
            rotate_left
            · intro w' hw'; refine Eq.trans (exec_neq 29 _ _ _ rfl _ _ rfl rfl bh32_guard _ (HEQ.out _)) ?_; with_reducible rfl
            (try simp only [Act.put, List.setIfInBounds_toArray, List.set_cons_zero, List.set_cons_succ])
            refine takeP 5 rfl (by kernel_rfl) (by kernel_rfl) (by kernel_rfl) (by kernel_rfl) (fun _ _ _ h => h) rfl (v := ?_) ?_ ?_
            rotate_left
            · intro w'; go_simp; (try with_reducible rfl)
            (try simp only [Act.put, List.setIfInBounds_toArray, List.set_cons_zero, List.set_cons_succ])
            refine doneL (by kernel_rfl) ?_
            go_wp2
            refine startA (fun i => i == 4) (by kernel_rfl) (fun wS hS => ?_)
            replace H := H.drew
            rw [← hS] at H
            have HH := H.hold
            have HS0 : Below wS.heap.size wS wS := Below.refl _ _
            clear hS
            refine takeP 0 rfl (by kernel_rfl) (by kernel_rfl) (by kernel_rfl) (by kernel_rfl) (fun _ _ _ h => h) rfl (v := ?_) ?_ ?_
            rotate_left
            · intro w'; go_simp; (try with_reducible rfl)
            (try simp only [Act.put, List.setIfInBounds_toArray, List.set_cons_zero, List.set_cons_succ])
            refine takeL 1 HS0 rfl (by kernel_rfl) (by kernel_rfl) (by kernel_rfl) (by kernel_rfl) (by kernel_rfl) (fun _ _ _ h => h) rfl (v := ?_) ?_ ?_
            rotate_left
            · intro w' hw'; refine Eq.trans (xLoad (HH.below hw') _ rfl rfl (part_all HPL.out) HPL.out) ?_; with_reducible rfl
            (try simp only [Act.put, List.setIfInBounds_toArray, List.set_cons_zero, List.set_cons_succ])
            refine takeP 2 rfl (by kernel_rfl) (by kernel_rfl) (by kernel_rfl) (by kernel_rfl) (fun _ _ _ h => h) rfl (v := ?_) ?_ ?_
            rotate_left
            · intro w'; go_simp; (try with_reducible rfl)
            (try simp only [Act.put, List.setIfInBounds_toArray, List.set_cons_zero, List.set_cons_succ])
            refine stepL 3 rfl (by kernel_rfl) rfl (fun K hK => ?_)
            (go_simp; (with_reducible refine ((HCL.out _ _ (HV.out _ H.chg))).mono ?_); rintro e w' ⟨A2, c2, rfl, ho, hb⟩; replace H := H.pushRow hb ho; clear ho; replace HS0 := below_two HS0 HS0.size hb; clear hb; refine hK.out _ _ (fun _ _ => HS0) ?_; clear K hK)
            (try simp only [Act.put, List.setIfInBounds_toArray, List.set_cons_zero, List.set_cons_succ])
            refine stepL 4 rfl (by kernel_rfl) rfl (fun K hK => ?_)
            (go_simp; have q := HOV.out (.slice A2 256 c2) _ (H.subS (D := bankL bk bd bo bm vw ss t st u)) (fun w2 hc2 => OR.reads (H.keepHd (D := bankL bk bd bo bm vw ss t st u) hc2)); (with_reducible refine q.mono ?_); rintro e w' ⟨rfl, vw2, ss2, k2⟩; replace H := H.viaS k2; (try dsimp only at H); clear k2; refine hK.out _ _ (fun h => by cases h) ?_; clear K hK HS0)
            (try simp only [Act.put, List.setIfInBounds_toArray, List.set_cons_zero, List.set_cons_succ])
            refine takeP 5 rfl (by kernel_rfl) (by kernel_rfl) (by kernel_rfl) (by kernel_rfl) (fun _ _ _ h => h) rfl (v := ?_) ?_ ?_
            rotate_left
            · intro w'; go_simp; (try with_reducible rfl)
            (try simp only [Act.put, List.setIfInBounds_toArray, List.set_cons_zero, List.set_cons_succ])
            refine takeP 6 rfl (by kernel_rfl) (by kernel_rfl) (by kernel_rfl) (by kernel_rfl) (fun _ _ _ h => h) rfl (v := ?_) ?_ ?_
            rotate_left
            · intro w'; go_simp; (try with_reducible rfl)
            (try simp only [Act.put, List.setIfInBounds_toArray, List.set_cons_zero, List.set_cons_succ])
            refine takeP 7 rfl (by kernel_rfl) (by kernel_rfl) (by kernel_rfl) (by kernel_rfl) (fun _ _ _ h => h) rfl (v := ?_) ?_ ?_
            rotate_left
            · intro w'; go_simp; (try with_reducible rfl)
            (try simp only [Act.put, List.setIfInBounds_toArray, List.set_cons_zero, List.set_cons_succ])
            refine takeP 8 rfl (by kernel_rfl) (by kernel_rfl) (by kernel_rfl) (by kernel_rfl) (fun _ _ _ h => h) rfl (v := ?_) ?_ ?_
            rotate_left
            · intro w'; go_simp; (try with_reducible rfl)
            (try simp only [Act.put, List.setIfInBounds_toArray, List.set_cons_zero, List.set_cons_succ])
            refine doneL (by kernel_rfl) ?_
            go_wp2
            go_ret2
            exact ⟨rfl, vw2, ss2, H.tail.tail⟩
          · have hse : (shaL b == p.hash) = false := beq_eq_false_iff_ne.2 hs
            have e : fixR u.length st p b = (0, 14, st) := by
              rw [fixR, if_neg h8, if_neg (by rw [hh]; simp [h0, hbl]), if_pos hs]
            rw [e]
            rw [hse] at HEQ
            rw [hbl] at HV ⊢
            clear hM e h8 h0 hOV hh hs hse hbl
            go_enter Tryd.func23, Tryd.ntmps23
            go_wp2_with (first
              | ((with_reducible refine gDst 10 ?_); refine aLoad H _ rfl rfl (part_all HPL.out) HPL.out rfl ?_)
              | ((with_reducible refine gDst 24 ?_); refine aLoad H _ rfl rfl (part_all HPL.out) HPL.out rfl ?_)
              | (go_at_call 67; refine (HP.out _ (HOLD.suf (D := bankL bk bd bo bm vw ss t st u) H.hold)).mono ?_; rintro e w' ⟨rfl, hb⟩; replace H := H.step hb; clear hb)
              | (go_at_call 68; refine (HM.out _).mono ?_; rintro e w' ⟨rfl, hb⟩; replace H := H.step hb; clear hb)
              | ((with_reducible refine gDst 4 ?_); refine aBox H _ rfl rfl rfl ?_; clear H; intro b4 w4 H)
              | ((with_reducible refine gLoad ?_); first | (refine aLoad H _ rfl rfl (by first | exact part_all (by first | rfl | simp []) | (simp only [List.drop_succ_cons, List.drop_zero, List.take_succ_cons, List.take_zero]; rfl) | (simp [List.drop_append, List.take_append]; rfl)) (by first | rfl | simp []) rfl ?_)))
            refine startA (fun i => false) (by kernel_rfl) (fun wS hS => ?_)
            replace H := H.drew
            rw [← hS] at H
            have HH := H.hold
            have HS0 : Below wS.heap.size wS wS := Below.refl _ _
            clear hS
            refine takeP 0 rfl (by kernel_rfl) (by kernel_rfl) (by kernel_rfl) (by kernel_rfl) (fun _ _ _ h => h) rfl (v := ?_) ?_ ?_
            rotate_left
            · intro w'; go_simp; (try with_reducible rfl)
            (try simp only [Act.put, List.setIfInBounds_toArray, List.set_cons_zero, List.set_cons_succ])
            refine takeP 2 rfl (by kernel_rfl) (by kernel_rfl) (by kernel_rfl) (by kernel_rfl) (fun _ _ _ h => h) rfl (v := ?_) ?_ ?_
            rotate_left
            · intro w'; go_simp; (try with_reducible rfl)
            (try simp only [Act.put, List.setIfInBounds_toArray, List.set_cons_zero, List.set_cons_succ])
            refine takeL 3 HS0 rfl (by kernel_rfl) (by kernel_rfl) (by kernel_rfl) (by kernel_rfl) (by kernel_rfl) (fun _ _ _ h => h) rfl (v := ?_) ?_ ?_
            rotate_left
            · intro w' hw'; refine Eq.trans (xLoad (HH.below hw') _ rfl rfl HDR.out HHL.out) ?_; with_reducible rfl
            (try simp only [Act.put, List.setIfInBounds_toArray, List.set_cons_zero, List.set_cons_succ])
            refine stepL 1 rfl (by kernel_rfl) rfl (fun K hK => ?_)
            (go_simp; (with_reducible refine ((HS.out _ _ (HV.out _ H.chg))).mono ?_); rintro e w' ⟨rfl, hb⟩; replace H := H.step hb; replace HS0 := below_two HS0 HS0.size hb; clear hb; refine hK.out _ _ (fun _ _ => HS0) ?_; clear K hK)
            (try simp only [Act.put, List.setIfInBounds_toArray, List.set_cons_zero, List.set_cons_succ])
            refine takeL 4 HS0 rfl (by kernel_rfl) (by kernel_rfl) (by kernel_rfl) (by kernel_rfl) (by kernel_rfl) (fun _ _ _ h => h) rfl (v := ?_) ?_ ?_
            rotate_left
            · intro w' hw'; refine Eq.trans (exec_neq 29 _ _ _ rfl _ _ rfl rfl bh32_guard _ (HEQ.out _)) ?_; with_reducible rfl
            (try simp only [Act.put, List.setIfInBounds_toArray, List.set_cons_zero, List.set_cons_succ])
            refine takeP 5 rfl (by kernel_rfl) (by kernel_rfl) (by kernel_rfl) (by kernel_rfl) (fun _ _ _ h => h) rfl (v := ?_) ?_ ?_
            rotate_left
            · intro w'; go_simp; (try with_reducible rfl)
            (try simp only [Act.put, List.setIfInBounds_toArray, List.set_cons_zero, List.set_cons_succ])
            refine doneL (by kernel_rfl) ?_
            go_wp2
            go_ret2
            exact ⟨rfl, vw, ss, H.tail⟩
        · have e : fixR u.length st p b = (0, 1, st) := by rw [fixR, if_neg h8, if_pos (.inr (.inr hbl))]
          have hbn : ((b.length : Int) != 256) = true := by simp; omega
          rw [e]
          generalize b.length = bn at *
          clear hM e h8 h0 HV hOV hh hbl
          go_enter Tryd.func23, Tryd.ntmps23
          go_wp2_with (first
            | ((with_reducible refine gDst 10 ?_); refine aLoad H _ rfl rfl (part_all HPL.out) HPL.out rfl ?_)
            | ((with_reducible refine gDst 24 ?_); refine aLoad H _ rfl rfl (part_all HPL.out) HPL.out rfl ?_)
            | (go_at_call 67; refine (HP.out _ (HOLD.suf (D := bankL bk bd bo bm vw ss t st u) H.hold)).mono ?_; rintro e w' ⟨rfl, hb⟩; replace H := H.step hb; clear hb)
            | (go_at_call 68; refine (HM.out _).mono ?_; rintro e w' ⟨rfl, hb⟩; replace H := H.step hb; clear hb)
            | ((with_reducible refine gDst 4 ?_); refine aBox H _ rfl rfl rfl ?_; clear H; intro b4 w4 H)
            | ((with_reducible refine gLoad ?_); first | (refine aLoad H _ rfl rfl (by first | exact part_all (by first | rfl | simp []) | (simp only [List.drop_succ_cons, List.drop_zero, List.take_succ_cons, List.take_zero]; rfl) | (simp [List.drop_append, List.take_append]; rfl)) (by first | rfl | simp []) rfl ?_)))
          go_ret2
          exact ⟨rfl, vw, ss, H.tail⟩
    · have h1 : ckE st p = 1 := by
        unfold ckE at *
        split
        · rename_i q; rw [if_pos q] at h8; exact absurd rfl h8
        · rename_i q
          rw [if_neg q] at h0
          split
          · rename_i q2; rw [if_pos q2] at h0; exact absurd rfl h0
          · rfl
      have e : fixR u.length st p b = (0, 1, st) := by rw [fixR, if_neg h8, if_pos (.inl h0)]
      rw [e]
      rw [h1] at hP
      have HP := Lib.hid hP
      have HM := Lib.hid hM
      generalize b.length = bn at *
      clear hP hM e h8 h0 h1 HV hOV
      go_enter Tryd.func23, Tryd.ntmps23
      go_wp2_with (first
        | ((with_reducible refine gDst 10 ?_); refine aLoad H _ rfl rfl (part_all HPL.out) HPL.out rfl ?_)
        | ((with_reducible refine gDst 24 ?_); refine aLoad H _ rfl rfl (part_all HPL.out) HPL.out rfl ?_)
        | (go_at_call 67; refine (HP.out _ (HOLD.suf (D := bankL bk bd bo bm vw ss t st u) H.hold)).mono ?_; rintro e w' ⟨rfl, hb⟩; replace H := H.step hb; clear hb)
        | (go_at_call 68; refine (HM.out _).mono ?_; rintro e w' ⟨rfl, hb⟩; replace H := H.step hb; clear hb)
        | ((with_reducible refine gDst 4 ?_); refine aBox H _ rfl rfl rfl ?_; clear H; intro b4 w4 H)
        | ((with_reducible refine gLoad ?_); first | (refine aLoad H _ rfl rfl (by first | exact part_all (by first | rfl | simp []) | (simp only [List.drop_succ_cons, List.drop_zero, List.take_succ_cons, List.take_zero]; rfl) | (simp [List.drop_append, List.take_append]; rfl)) (by first | rfl | simp []) rfl ?_)))
      go_ret2
      exact ⟨rfl, vw, ss, H.tail⟩
end
end Go.Proofs.YticfcelbnkiopaaDoor

namespace Go.Proofs.YticfcelbnkiopaaDoor
set_option maxRecDepth 100000
open Go.RowKit
set_option linter.unusedSimpArgs false
set_option linter.unusedVariables false

/-- A new disk. -/
def freshD (n : Nat) : DS := ⟨List.replicate (n * 256) 0, [], -1, false⟩
theorem freshD_ok (n : Nat) (h1 : 16 ≤ n) (h2 : n ≤ 512) : BKok (freshD n) (freshU n) := by
  refine ⟨⟨by rw [freshU_len]; exact h1, by rw [freshU_len]; exact h2, by rw [freshU_len]; exact List.length_replicate, fun k hk => absurd hk (Nat.not_lt_zero _), Nat.zero_le _⟩, ⟨(by decide : (-1 : Int) ≤ -1), (by decide : (-1 : Int) ≤ 9223372036854775807)⟩, fun j hj => ?_⟩
  have e : ∀ m, m = n → (freshU m).getD j false = true := fun m hm => by
    unfold freshU
    rcases j with _ | _ | _ | _ | j
    · rw [getD_setB _ _ _ _ (by simp; omega), if_neg (by decide), getD_setB _ _ _ _ (by simp; omega), if_neg (by decide), getD_setB _ _ _ _ (by simp; omega), if_neg (by decide), getD_setB _ _ _ _ (by simp; omega), if_pos rfl]
    · rw [getD_setB _ _ _ _ (by simp; omega), if_neg (by decide), getD_setB _ _ _ _ (by simp; omega), if_neg (by decide), getD_setB _ _ _ _ (by simp; omega), if_pos rfl]
    · rw [getD_setB _ _ _ _ (by simp; omega), if_neg (by decide), getD_setB _ _ _ _ (by simp; omega), if_pos rfl]
    · rw [getD_setB _ _ _ _ (by simp; omega), if_pos rfl]
    · omega
  exact e n rfl
set_option maxHeartbeats 1600000 in
theorem over7_any (bd bm : Nat) (w : World) : Calls Tryd.prog 62 #[.pointer (some ⟨bd, 0, none⟩), .pointer (some ⟨bm, 0, none⟩), .int .u32 7] w fun e w' => ∃ bk, e = .returned (.pointer (some ⟨bk, 0, none⟩)) ∧ SH Nil w w' [.blk bk 133 [.pointer (some ⟨bd, 0, none⟩), .pointer (some ⟨bm, 0, none⟩), .int .u32 7]] := by
  have H := SH.start Nil w
  go_enter Tryd.func62, Tryd.ntmps62
  go_wp2_with (first
    | ((with_reducible refine gDst 10 ?_); refine aBuildC _ _ rfl [.pointer (some ⟨bd, 0, none⟩), .pointer (some ⟨bm, 0, none⟩), .int .u32 7] (by rfl) rfl ?_)
    | ((with_reducible refine gDst 11 ?_); refine aBox H _ rfl rfl rfl ?_; clear H; intro b11 w11 H))
  go_ret
  exact ⟨_, rfl, H⟩
set_option maxHeartbeats 1600000 in
theorem fresh08_any (n : Nat) (h1 : 16 ≤ n) (h2 : n ≤ 512) (w : World) : Calls Tryd.prog 14 #[.int .i64 (n : Int)] w fun e w' => ∃ bk bd bo bm, e = .returned (.tuple #[.pointer (some ⟨bk, 0, none⟩), .pointer (some ⟨bd, 0, none⟩)]) ∧ SH Nil w w' (bankL bk bd bo bm (.slice none 0 0) [] 7 (freshD n) (freshU n)) := by
  have H := SH.start Nil w
  have HDN := Lib.hid (fun W => diskNew_any n h1 h2 W)
  have HMN := Lib.hid (fun W => mapNew_any n h1 h2 W)
  have HUK := Lib.hid (usK_wL n h1)
  have HUL := Lib.hid (freshU_len n)
  clear h1 h2
  go_enter Tryd.func14, Tryd.ntmps14
  go_wp2_with (first
    | (go_at_call 43; refine (HDN.out _).mono ?_; rintro e w' ⟨bd, bo, rfl, H1⟩; replace H1 := H.join H1; (try dsimp only [List.cons_append, List.nil_append] at H1); clear H; have H := H1; clear H1)
    | (go_at_call 61; refine (HMN.out _).mono ?_; rintro e w' ⟨bm, rfl, H1⟩; replace H1 := H.join H1; (try dsimp only [List.cons_append, List.nil_append] at H1); clear H; have H := H1; clear H1)
    | (go_at_call 62; refine (over7_any _ _ _).mono ?_; rintro e w' ⟨bk, rfl, H1⟩; replace H1 := H.join H1; (try dsimp only [List.cons_append, List.nil_append] at H1); clear H; have H := H1; clear H1))
  go_ret2
  refine ⟨bk, bd, bo, bm, rfl, ?_⟩
  have H2 := (((((((((H.bring 3 rfl).toBlkE List.length_replicate).nilRow WT).rdNil).bring 1 rfl).bring 2 rfl).bring 5 rfl).bring 5 rfl).bring 5 rfl)
  unfold bankL diskL
  rw [show (freshD n).on.length = n * 256 from List.length_replicate, HUL.out, ← HUK.out]
  exact H2
/-- Bytes as a block. -/
def wholeL (b : List UInt8) : List UInt8 := b ++ List.replicate (256 - b.length) (UInt8.ofNat b.length)
theorem u8w (n : Nat) : IntKind.u8.wrap (n : Int) = ((UInt8.ofNat n).toNat : Int) := by
  rw [IntKind.wrap_u8, UInt8.toNat_ofNat']
  omega
set_option maxHeartbeats 1600000 in
theorem whole_any (v : Value) (b : List UInt8) (w : World) (hv : RB w v b) (hl : b.length ≤ 100000) : Calls Tryd.prog 17 #[v] w fun e w' => ∃ A c, e = .returned (.slice A (wholeL b).length c) ∧ OB w' w.heap.size (.slice A (wholeL b).length c) (wholeL b) ∧ Below w.heap.size w w' := by
  have H := SH.start Nil w
  obtain ⟨A0, c0, rfl, -⟩ := hv.len
  have hx := u8w b.length
  have HV := Lib.hid hv
  obtain ⟨n, hn⟩ : ∃ n, n = b.length := ⟨_, rfl⟩
  have HN := Lib.hid hn
  have HW := Lib.hid (show wholeL b = b ++ List.replicate (256 - n) (UInt8.ofNat n) by rw [hn]; rfl)
  rw [← hn] at hx hv hl ⊢
  have HBL := Lib.hid (show ([] : List UInt8).length ≤ 1000000000 ∧ b.length ≤ 1000000000 from ⟨by decide, by omega⟩)
  generalize UInt8.ofNat n = x at *
  clear hv hn
  have hnn : (n : Int) ≤ 100000 := by omega
  go_enter Tryd.func17, Tryd.ntmps17
  go_wp2_with (first
    | ((with_reducible refine gDst 4 ?_); refine aEmpty sB H rfl rfl ?_; clear H; intro b4 w4 H)
    | ((with_reducible refine gDst 6 ?_); refine aAppBs H _ _ rfl rfl rfl (by have := HV.out.below H.below; rw [← HN.out] at this; exact this) HBL.out rfl ?_; clear H; intro v6 w6 zs hz H; (try dsimp only at H))
    | ((with_reducible refine gDst 4 ?_); refine aEmpty sB H rfl rfl ?_; clear H; intro b4 w4 H)
    | (at_builtin; refine aAppB1 _ H _ _ rfl rfl rfl (by first | omega | (have := HCL.out; omega)) rfl ?_; clear H; intro v' w' ys HY H; (try dsimp only at H); obtain ⟨A', c', rfl, hc'⟩ := (H.hold.rr v').len))
  rw [hz.out, List.nil_append] at H
  obtain ⟨A1, c1, rfl, -⟩ := (H.hold.rr v6).len
  rw [← HN.out] at H
  rw [← HN.out]
  clear hz
  have H2 := H
  clear H
  go_loopw [3] (fun v3 wr => ∃ (k : Nat) (A : Option Addr) (c : Nat), v3 = .slice A (n + k) c ∧ k ≤ 256 - n ∧ SH Nil w wr [.row B8 (.slice A (n + k) c) (b ++ List.replicate k x)]) (fun v _ => 256 - (match v with | .slice _ n _ => n | _ => 0))
  case atStart => exact ⟨0, A1, c1, rfl, by omega, by rw [List.replicate_zero, List.append_nil]; exact H2⟩
  case round =>
    obtain ⟨k, A, c, rfl, hk, HS⟩ := hrel
    clear H2
    have H := HS
    clear HS
    have HXL := Lib.hid (show (b ++ List.replicate k x).length ≤ 1000000000 by rw [List.length_append, List.length_replicate, ← HN.out]; omega)
    by_cases hlt : n + k < 256
    · have hlti : ((n : Int) + (k : Int)) < 256 := by omega
      go_wp2_with (first
        | ((with_reducible refine gDst 15 ?_); refine aAppB1 x H _ _ rfl rfl rfl HXL.out rfl ?_; clear H; intro v1 w1 zs hz H; (try dsimp only at H))
        | ((with_reducible refine gDst 4 ?_); refine aEmpty sB H rfl rfl ?_; clear H; intro b4 w4 H)
        | (at_builtin; refine aAppB1 _ H _ _ rfl rfl rfl (by first | omega | (have := HCL.out; omega)) rfl ?_; clear H; intro v' w' ys HY H; (try dsimp only at H); obtain ⟨A', c', rfl, hc'⟩ := (H.hold.rr v').len))
      obtain ⟨A', c', rfl, -⟩ := (H.hold.rr v1).len
      have hzl : zs = b ++ List.replicate (k + 1) x := by rw [hz.out, List.append_assoc, List.replicate_succ']
      have hl2 : zs.length = n + (k + 1) := by rw [hzl, List.length_append, List.length_replicate, HN.out]
      rw [hl2] at H ⊢
      rw [hzl] at H
      refine ⟨⟨k + 1, A', c', rfl, by omega, H⟩, ?_⟩
      show 256 - (n + (k + 1)) < 256 - (n + k)
      omega
    · have hge : (((n : Int) + (k : Int)) < 256) = False := eq_false (by omega)
      have he : b ++ List.replicate k x = wholeL b := by rw [HW.out]; congr 2; omega
      have hlen : (wholeL b).length = n + k := by rw [← he, List.length_append, List.length_replicate, HN.out]
      rw [he] at H
      go_wp2
      go_ret
      rw [hlen] at *
      exact ⟨A, c, rfl, H.ow (.slice A (n + k) c), H.below⟩
end Go.Proofs.YticfcelbnkiopaaDoor

namespace Go.Proofs.YticfcelbnkiopaaDoor
set_option maxRecDepth 100000
open Go.RowKit
set_option linter.unusedSimpArgs false
set_option linter.unusedVariables false
set_option maxRecDepth 100000

def w1L : List UInt8 := List.replicate 256 1
theorem whole1 : wholeL [1] = w1L := by kernel_rfl
theorem w1_len : w1L.length = 256 := List.length_replicate
def s1D : DS := ⟨List.replicate 4096 0, [(4, w1L), (5, w1L)], -1, false⟩
def p8 : PT := pJ w1L 7 [4, 5] 2
theorem tk16 : tkL (freshU 16) 2 = [4, 5] := by decide
theorem put8 : putR 7 (freshD 16) (freshU 16) w1L 2 = (p8, 0, s1D, tkU (freshU 16) 2) := by
  have h1 : (wrs (freshU 16).length w1L (freshD 16) [4, 5]) = (0, s1D) := by rfl
  rw [putR, if_neg (by decide), if_neg (by rw [w1_len]; decide), show (2 : Int).toNat = 2 from rfl, if_neg (by decide), tk16, h1]
  rfl
def s2D : DS := s1D.flush
def s3D : DS := s2D.rot 4 [1]
theorem fl8 : s1D.spend = (true, s1D) := by rfl
theorem sec4 : s3D.read 4 = (0 : UInt8) :: List.replicate 255 1 := by kernel_rfl
theorem sec5 : s3D.read 5 = w1L := by kernel_rfl
theorem shaNe : (shaL ((0 : UInt8) :: List.replicate 255 1) == shaL w1L) = false := by kernel_rfl
theorem cp8a : cpB s3D 16 p8 0 = false := by
  have e : cpB s3D 16 p8 0 = ((4 : UInt32) != 0 && decide ((4 : UInt32).toNat < 16) && (shaL (s3D.read 4) == shaL w1L)) := rfl
  rw [e, sec4, shaNe]; rfl
theorem cp8b : cpB s3D 16 p8 1 = true := by
  have e : cpB s3D 16 p8 1 = ((5 : UInt32) != 0 && decide ((5 : UInt32).toNat < 16) && (shaL (s3D.read 5) == shaL w1L)) := rfl
  rw [e, sec5, beq_self_eq_true]; rfl
theorem ck8 : ckE s3D p8 = 0 := by
  rw [ckE, if_neg (by decide)]
  exact if_pos rfl
theorem hole8 : (p8 == PT.hole) = false := by
  have : p8 ≠ PT.hole := fun h => by
    have := congrArg PT.a0 h
    exact absurd this (by decide)
  exact beq_eq_false_iff_ne.2 this
theorem heal8 : (healR 16 s3D p8).1 = 1 ∧ (healR 16 s3D p8).2.1 = 0 := by
  have hb : brE s3D 16 p8 = 0 := by rw [brE, ck8, if_neg (by decide), hole8, cp8a, cp8b]; rfl
  have hB : brB s3D 16 p8 = w1L := by rw [brB, hole8, cp8a, if_neg (by decide), if_neg (by decide)]; exact sec5
  have hg : ovG s3D 16 p8 = [(false, 4), (true, 5)] := by
    rw [ovG, lkG, lkG, ck8, if_pos rfl, if_pos rfl, cp8a, cp8b]; rfl
  have e : healR 16 s3D p8 = ovr 16 w1L s3D [(false, 4), (true, 5)] 0 := by
    rw [healR, if_neg (by rw [hb, hole8]; decide), hB, hg]
  have hw : (s3D.writeE 16 (((4 : UInt32).toNat : Nat) : Int) w1L).1 = 0 := by rfl
  rw [e, ovr_do _ _ _ _ _ _ _ rfl (by decide), if_pos hw, ovr_skip _ _ _ _ _ _ _ (.inl rfl)]
  exact ⟨rfl, rfl⟩
end Go.Proofs.YticfcelbnkiopaaDoor

namespace Go.Proofs.YticfcelbnkiopaaDoor
set_option maxRecDepth 100000
open Go.RowKit
set_option linter.unusedSimpArgs false
set_option linter.unusedVariables false

theorem TabAt.below {w w' : World} (h : TabAt w) (hb : Below w.heap.size w w') : TabAt w' := fun r hr => cell_below hb (h r hr)
section
variable {bk bd bo bm : Nat} {vw : Value} {ss : List SVV} {t : UInt32} {st : DS} {u : List Bool}
instance HasS.bank : HasS (bankL bk bd bo bm vw ss t st u) (diskL bd bo vw ss st) (fun D' => .blk bk 133 [.pointer (some ⟨bd, 0, none⟩), .pointer (some ⟨bm, 0, none⟩), .int .u32 (t.toNat : Int)] :: .blk bm 161 (mC u.length (wL u)) :: D') :=
  ⟨[.blk bk 133 [.pointer (some ⟨bd, 0, none⟩), .pointer (some ⟨bm, 0, none⟩), .int .u32 (t.toNat : Int)], .blk bm 161 (mC u.length (wL u))], rfl, fun _ => rfl⟩
theorem bFlush_ok (hk : BKok st u) (hoff : st.off = false) (hsp : st.spend.1 = true) (w : World) (hD : SH (feet (bankL bk bd bo bm vw ss t st u)) w w (bankL bk bd bo bm vw ss t st u)) :
    Calls Tryd.prog 19 #[.pointer (some ⟨bd, 0, none⟩)] w fun e w' => e = .returned (.int .i64 0) ∧ SH (feet (bankL bk bd bo bm vw ss t st u)) w w' (bankL bk bd bo bm (.slice none 0 0) [] t st.spend.2.flush u) := by
  refine (diskFlush_ok bd bo u.length vw ss st hk.d hk.lets hoff hsp w (hD.subS (D := diskL bd bo vw ss st))).mono ?_
  rintro e w' ⟨rfl, k⟩
  exact ⟨rfl, hD.viaS (D := diskL bd bo vw ss st) k⟩
theorem bRot_ok (i : Nat) (vm : Value) (mask : List UInt8) (hk : BKok st u) (hi : i < u.length) (hm : mask.length ≤ 256) (w : World) (hD : SH (feet (bankL bk bd bo bm vw ss t st u)) w w (bankL bk bd bo bm vw ss t st u)) (hv : ∀ w', Chg (feet (bankL bk bd bo bm vw ss t st u)) w w' → RB w' vm mask) :
    Calls Tryd.prog 20 #[.pointer (some ⟨bd, 0, none⟩), .int .i64 (i : Int), vm] w fun e w' => e = .returned (.int .i64 0) ∧ SH (feet (bankL bk bd bo bm vw ss t st u)) w w' (bankL bk bd bo bm vw ss t (st.rot i mask) u) := by
  refine (diskRot_ok bd bo u.length i vw vm ss st mask hk.d hi hm w (hD.subS (D := diskL bd bo vw ss st)) fun w' hc => hv w' (hD.chgS (D := diskL bd bo vw ss st) hc)).mono ?_
  rintro e w' ⟨rfl, k⟩
  exact ⟨rfl, hD.viaS (D := diskL bd bo vw ss st) k⟩
end
section
variable {ops : Array Oper} {rest : List Oper} {o : Oper} {a : Act} {Q : Exit → Act → World → Prop} {F : Nat → Prop} {w0 w : World} {L : List Own}
/-- A literal of one byte. -/
theorem aSlitB (b : UInt8) (H : SH F w0 w L) (x : Operand) (ho : o.op = .buildSlice 22 1 #[(0, x)]) (hx : a.eval x = .int .u8 (b.toNat : Int)) (hw : Region.wanted o (yielded ops a.tmps) = true)
    (h : ∀ b' w', SH F w0 w' (.row B8 (.slice (some ⟨b', 0, none⟩) 1 1) [b] :: L) → wpList Tryd.prog ops Q rest (a.put o.dst (.slice (some ⟨b', 0, none⟩) 1 1)) w') : wpList Tryd.prog ops Q (o :: rest) a w := by
  obtain ⟨i0, hi, hzz⟩ := Option.map_eq_some_iff.1 sB.hinfo
  simp only [Prod.mk.injEq] at hzz
  obtain ⟨hz0, hz1, hz2⟩ := hzz
  change Tryd.prog.info? 5 = some i0 at hi
  change i0.zero = some (.int .u8 0) at hz0
  change i0.size = 1 at hz1
  have hr : (execOp (fun z => a.eval z) o).run Tryd.prog w = .ok (.value (.slice (some ⟨w.heap.size, 0, none⟩) 1 1)) (w.alloc (.cells #[.int .u8 (b.toNat : Int)] 5)) := by
    unfold execOp
    simp [ho, Instr.buildSlice, run_underlying Tryd.underlying22, sizeOf, typeInfo, hi, hz0, hz1, hx, zeroValue, newRow, Instr.fill, Value.cells]
    rw [show Array.range 1 = #[0] from rfl]
    simp
  refine stepV hr hw (h _ _ (H.pushRow (alloc_belowAt w _) ?_))
  exact OR.lit B8 w w.heap.size [b] #[.int .u8 (b.toNat : Int)] rfl (Nat.le_refl _) (by simp)
end
theorem two_guard : Tryd.prog.eqGuardType Tryd.prog.depth 31 = false := by kernel_rfl
theorem two_eql (a b c d : UInt32) (w : World) : (binOp .eql 31 (.agg #[u32 a, u32 b]) (.agg #[u32 c, u32 d])).run Tryd.prog w = .ok (.bool (a == c && b == d)) w := by
  have h := eqAt.eqs 9998 w ⟨[a, b], rfl⟩ ⟨[c, d], rfl⟩
  rw [run_eql_struct]
  have e : (([a, b].zip [c, d]).all fun p : UInt32 × UInt32 => (p.1.toNat : Int) == (p.2.toNat : Int)) = (a == c && b == d) := by
    simp [u32_eq]
  simp only [e] at h
  have h2 : (Op.equalIn 10000 31 (.agg #[u32 a, u32 b]) (.agg #[u32 c, u32 d])).run Tryd.prog w = .ok (a == c && b == d) w := h
  rw [h2]
  rfl
theorem DS.ok_flush {st : DS} {n : Nat} (h : st.ok n) : st.flush.ok n :=
  ⟨h.n1, h.n2, DS.flushK_len h st.ws.length (Nat.le_refl _), fun k hk => absurd hk (Nat.not_lt_zero _), Nat.zero_le _⟩
theorem DS.ok_rot {st : DS} {n : Nat} (h : st.ok n) (i : Nat) (m : List UInt8) : (st.rot i m).ok n :=
  ⟨h.n1, h.n2, by show (rotK st.on i m m.length).length = _; rw [rotK_len]; exact h.ol, h.ws, h.wl⟩
def u8U : List Bool := tkU (freshU 16) 2
theorem u8_len : u8U.length = 16 := by decide
theorem ok1 : BKok s1D u8U := by
  refine ⟨⟨by decide, by decide, by rw [u8_len]; exact List.length_replicate, fun k hk => ?_, by decide⟩, by decide, by decide⟩
  rw [u8_len]
  have hk2 : k < 2 := hk
  rcases k with _ | _ | k
  · exact ⟨by decide, w1_len⟩
  · exact ⟨by decide, w1_len⟩
  · omega
theorem ok2 : BKok s2D u8U := ⟨DS.ok_flush ok1.d, ok1.lets, ok1.lab⟩
theorem ok3 : BKok s3D u8U := ⟨DS.ok_rot ok2.d 4 [1], ok2.lets, ok2.lab⟩
set_option maxHeartbeats 3200000 in
theorem alive08_any (w : World) (hT : TabAt w) : Calls Tryd.prog 15 #[] w fun e w' => e = .returned (.bool true) ∧ Below w.heap.size w w' := by
  have H := SH.start Nil w
  have HT := Lib.hid (fun W (h : Below w.heap.size w W) => hT.below h)
  have HFR := Lib.hid (fun W => fresh08_any 16 (by decide) (by decide) W)
  change Hid (∀ W, Calls Tryd.prog 14 #[.int .i64 16] W _) at HFR
  have HWH := Lib.hid (fun v W (h : RB W v [1]) => whole_any v [1] W h (by decide))
  rw [whole1, w1_len] at HWH
  have hk0 := freshD_ok 16 (by decide) (by decide)
  have hPUT := fun bk bd bo bm vw ss vb W q1 q2 q3 => bPut_any (bk := bk) (bd := bd) (bo := bo) (bm := bm) (vw := vw) (ss := ss) (t := 7) vb w1L 2 hk0 (by decide) (by decide) W q1 q2 q3
  rw [show putR 7 (freshD 16) (freshU 16) w1L 2 = (p8, 0, s1D, u8U) from put8] at hPUT
  have HPUT := Lib.hid hPUT
  have HFL := Lib.hid (fun bk bd bo bm vw ss W q => bFlush_ok (bk := bk) (bd := bd) (bo := bo) (bm := bm) (vw := vw) (ss := ss) (t := 7) ok1 rfl (by rw [fl8]) W q)
  rw [fl8] at HFL
  have HFL2 : Hid (∀ bk bd bo bm vw ss W, SH (feet (bankL bk bd bo bm vw ss 7 s1D u8U)) W W (bankL bk bd bo bm vw ss 7 s1D u8U) → Calls Tryd.prog 19 #[.pointer (some ⟨bd, 0, none⟩)] W fun e w' => e = .returned (.int .i64 0) ∧ SH (feet (bankL bk bd bo bm vw ss 7 s1D u8U)) W w' (bankL bk bd bo bm (.slice none 0 0) [] 7 s2D u8U)) := HFL
  clear HFL
  have HRT := Lib.hid (fun bk bd bo bm vw ss vm W q q2 => bRot_ok (bk := bk) (bd := bd) (bo := bo) (bm := bm) (vw := vw) (ss := ss) (t := 7) 4 vm [1] ok2 (by decide) (by decide) W q q2)
  rw [show s2D.rot 4 [1] = s3D from rfl] at HRT
  have hHL := fun bk bd bo bm vw ss W q => bHeal_any (bk := bk) (bd := bd) (bo := bo) (bm := bm) (vw := vw) (ss := ss) (t := 7) p8 ok3 (by decide) W q
  rw [u8_len, heal8.1, heal8.2] at hHL
  have HHL := Lib.hid hHL
  have HP33 := Lib.hid (show (p8.cells.drop 33).take 2 = [u32 4, u32 5] by rw [PT.drop33]; rfl)
  have HC33 := Lib.hid (show p8.cells[33]? = some (.int .u32 4) by rw [← List.getElem?_toArray]; exact p8.c33)
  have HC32 := Lib.hid (show p8.cells[32]? = some (.int .u32 7) by rw [← List.getElem?_toArray]; exact p8.c32)
  have HPL := Lib.hid p8.len
  have HPO := Lib.hid (List.all_eq_true.2 p8.one)
  have HEQ := Lib.hid (fun W => two_eql 4 5 4 5 W)
  generalize (healR 16 s3D p8).2.2 = s4 at *
  generalize p8 = p at *
  generalize s1D = s1 at *
  generalize s2D = s2 at *
  generalize s3D = s3 at *
  generalize u8U = u8 at *
  clear hPUT hT hk0 hHL
  go_enter Tryd.func15, Tryd.ntmps15
  go_wp2_with (first
    | (go_at_call 14; refine (HFR.out _).mono ?_; rintro e w' ⟨bk, bd, bo, bm, rfl, H1⟩; replace H1 := H.join H1; rw [List.append_nil] at H1; clear H; have H := H1; clear H1)
    | ((with_reducible refine gDst 16 ?_); refine aSlitB 1 H _ rfl rfl rfl ?_; clear H; intro b16 w16 H)
    | (go_at_call 17; refine (HWH.out _ _ (H.hold.rr _)).mono ?_; rintro e w' ⟨A17, c17, rfl, ho, hb⟩; replace H := H.pushRow hb ho; clear hb ho)
    | (go_at_call 16; have q := HPUT.out bk bd bo bm (.slice none 0 0) [] (.slice A17 256 c17) _ (H.subS (D := bankL bk bd bo bm (.slice none 0 0) [] 7 (freshD 16) (freshU 16))) (fun w' hc => HT.out _ (H.chgS (D := bankL bk bd bo bm (.slice none 0 0) [] 7 (freshD 16) (freshU 16)) hc).below) (fun w' hc => OR.reads (H.keepHd (D := bankL bk bd bo bm (.slice none 0 0) [] 7 (freshD 16) (freshU 16)) hc)); refine q.mono ?_; clear q; rintro e w' ⟨rfl, vw1, ss1, k⟩; replace H := H.viaS k; (try dsimp only at H); clear k)
    | ((with_reducible refine gSto (.tmp 3) (.tmp 19) ?_); refine aStore H _ _ rfl rfl rfl ⟨by rfl, HPL.out⟩ HPO.out rfl ?_; clear H; intro w' H; (try dsimp only at H))
    | (go_at_call 19; refine (HFL2.out bk bd bo bm vw1 ss1 _ (H.subS (D := bankL bk bd bo bm vw1 ss1 7 s1 u8))).mono ?_; rintro e w' ⟨rfl, k⟩; replace H := H.viaS k; (try dsimp only at H); clear k)
    | ((with_reducible refine gDst 26 ?_); refine aLoad1 H _ rfl rfl HC33.out rfl ?_)
    | ((with_reducible refine gDst 28 ?_); refine aSlitB 1 H _ rfl rfl rfl ?_; clear H; intro b28 w28 H)
    | (go_at_call 20; have q := HRT.out bk bd bo bm (.slice none 0 0) [] (.slice (some ⟨b28, 0, none⟩) 1 1) _ (H.subS (D := bankL bk bd bo bm (.slice none 0 0) [] 7 s2 u8)) (fun w' hc => OR.reads (H.keepHd (D := bankL bk bd bo bm (.slice none 0 0) [] 7 s2 u8) hc)); refine q.mono ?_; clear q; rintro e w' ⟨rfl, k⟩; replace H := H.viaS k; (try dsimp only at H); clear k)
    | ((with_reducible refine gDst 32 ?_); refine aLoad H _ rfl rfl (part_all HPL.out) HPL.out rfl ?_)
    | (go_at_call 22; refine (HHL.out bk bd bo bm (.slice none 0 0) [] _ (H.subS (D := bankL bk bd bo bm (.slice none 0 0) [] 7 s3 u8))).mono ?_; rintro e w' ⟨rfl, vw3, ss3, k⟩; replace H := H.viaS k; (try dsimp only at H); clear k)
    | ((with_reducible refine gDst 52 ?_); refine aLoad H _ rfl rfl HP33.out rfl rfl ?_)
    | ((with_reducible refine gDst 53 ?_); refine stepV (exec_buildL 31 [(0, .const (.int .u32 4)), (1, .const (.int .u32 5))] rfl [(0, .int .u32 4), (1, .int .u32 5)] rfl [u32 4, u32 5] (by kernel_rfl)) rfl ?_)
    | ((with_reducible refine gDst 54 ?_); refine stepV (exec_eql 31 _ _ _ rfl _ _ rfl rfl two_guard _ (HEQ.out _)) rfl ?_)
    | ((with_reducible refine gDst 58 ?_); refine aLoad1 H _ rfl rfl HC32.out rfl ?_)
    | ((with_reducible refine gDst 3 ?_); refine aAlloc H rfl rfl ?_; clear H; intro b3 w3 H)
    | ((with_reducible refine gLoad ?_); first | (refine aLoad1 H _ rfl rfl (by first | exact (rfl : _ = some (Value.int _ _)) | exact (rfl : _ = some (Value.slice _ _ _)) | exact (rfl : _ = some (Value.bool _)) | exact (rfl : _ = some (Value.string _)) | exact (rfl : _ = some (Value.pointer _)) | rfl | (simp [List.getElem?_append]; done)) rfl ?_) | (refine aLoadC _ rfl rfl (by assumption) rfl ?_) | (refine aLoad H _ rfl rfl (by first | exact part_all (by first | rfl | simp []) | (simp only [List.drop_succ_cons, List.drop_zero, List.take_succ_cons, List.take_zero]; rfl) | (simp [List.drop_append, List.take_append]; rfl)) (by first | rfl | simp []) rfl ?_))
    | ((with_reducible refine gStore ?_); (first | (refine aStore H _ _ rfl rfl rfl (by (first | exact ⟨rfl, rfl⟩ | exact ⟨by decide, rfl⟩ | (simp []; done) | (constructor <;> simp [] <;> omega))) (by first | rfl | simp [List.all_append, one_all]) rfl ?_) | (refine aLay H _ _ rfl rfl rfl (by (first | exact ⟨rfl, rfl⟩ | exact ⟨by decide, rfl⟩ | (simp []; done) | (constructor <;> simp [] <;> omega))) (by first | rfl | simp [List.all_append, one_all]) (by simp only [lay, List.take_succ_cons, List.take_zero, List.drop_succ_cons, List.drop_zero, List.nil_append, List.cons_append, List.length_cons, List.length_nil, Nat.zero_add, Nat.reduceAdd]; rfl) rfl ?_)); clear H; intro w' H; try dsimp only at H))
  go_ret
  exact ⟨rfl, H.below⟩
end Go.Proofs.YticfcelbnkiopaaDoor

namespace Go.Proofs.YticfcelbnkiopaaDoor
set_option maxRecDepth 100000
open Go.RowKit
set_option linter.unusedSimpArgs false
set_option linter.unusedVariables false

/-- The first m of n sectors are used. -/
def uN (n m : Nat) : List Bool := List.replicate m true ++ List.replicate (n - m) false
theorem uN_len (n m : Nat) (h : m ≤ n) : (uN n m).length = n := by rw [uN, List.length_append, List.length_replicate, List.length_replicate]; omega
theorem uN_get (n m i : Nat) (h : m ≤ n) : (uN n m).getD i false = decide (i < m) := by
  rw [uN, List.getD_eq_getElem?_getD]
  by_cases hi : i < m
  · rw [List.getElem?_append_left (by rw [List.length_replicate]; exact hi), List.getElem?_replicate, if_pos hi]; simp [hi]
  · rw [List.getElem?_append_right (by rw [List.length_replicate]; omega), List.getElem?_replicate]
    split
    · simp [hi]
    · simp [hi]
theorem uN_fresh (n : Nat) (h : 4 ≤ n) : freshU n = uN n 4 := by
  refine ext_getD _ _ (by rw [freshU_len, uN_len n 4 h]) fun i => ?_
  rw [uN_get n 4 i h]
  unfold freshU
  rw [getD_setB _ _ _ _ (by simp; omega), getD_setB _ _ _ _ (by simp; omega), getD_setB _ _ _ _ (by simp; omega), getD_setB _ _ _ _ (by simp; omega)]
  have hr : (List.replicate n false).getD i false = false := by
    rw [List.getD_eq_getElem?_getD, List.getElem?_replicate]; split <;> rfl
  rw [hr]
  rcases i with _ | _ | _ | _ | i
  · rfl
  · rfl
  · rfl
  · rfl
  · rw [if_neg (by omega), if_neg (by omega), if_neg (by omega), if_neg (by omega)]
    simp
theorem uN_free (n m : Nat) (h : m ≤ n) : freeN (uN n m) = n - m := by
  rw [freeN, uN, List.filter_append, List.length_append]
  simp
theorem uN_low (n m : Nat) (h : m < n) : lowF (uN n m) = m := by
  obtain ⟨h1, h2, h3⟩ := lowF_spec (uN n m) (by rw [uN_free n m (by omega)]; omega)
  rw [uN_get n m _ (by omega)] at h2
  have h4 : m ≤ lowF (uN n m) := by simpa using h2
  rcases Nat.lt_or_ge m (lowF (uN n m)) with h5 | h5
  · have := h3 m h5
    rw [uN_get n m _ (by omega)] at this
    simp at this
  · omega
theorem uN_set (n m : Nat) (h : m < n) : (uN n m).set m true = uN n (m + 1) := by
  refine ext_getD _ _ (by rw [List.length_set, uN_len n m (by omega), uN_len n (m + 1) h]) fun i => ?_
  rw [getD_setB _ _ _ _ (by rw [uN_len n m (by omega)]; exact h), uN_get n m i (by omega), uN_get n (m + 1) i h]
  by_cases e : m = i
  · subst e; simp
  · rw [if_neg e]
    congr 1
    exact propext ⟨fun h => by omega, fun h => by omega⟩
theorem uN_tk (n m : Nat) : ∀ k, m + k ≤ n → tkU (uN n m) k = uN n (m + k) ∧ tkL (uN n m) k = (List.range k).map (m + ·)
  | 0, _ => ⟨rfl, rfl⟩
  | k + 1, h => by
    obtain ⟨h1, h2⟩ := uN_tk n m k (by omega)
    refine ⟨?_, ?_⟩
    · rw [tkU, h1, uN_low n (m + k) (by omega), uN_set n (m + k) (by omega)]; rfl
    · rw [tkL, h2, h1, uN_low n (m + k) (by omega), List.range_succ, List.map_append]; rfl
/-- A disk of which k sectors behind the labels were written; W tells with what. -/
def dF (n c : Nat) (W : Nat → List UInt8) (k : Nat) : DS := { freshD n with ws := (List.range k).map fun j => (4 + j, W (j / c)) }
theorem dF_write (n c : Nat) (W : Nat → List UInt8) (k : Nat) (b : List UInt8) (hb : b.length = 256) (hk : 4 + k < n) (he : W (k / c) = b) : (dF n c W k).writeE n ((4 + k : Nat) : Int) b = (0, dF n c W (k + 1)) := by
  have h0 : (dF n c W k).off = false := rfl
  have hs : (dF n c W k).spend = (true, dF n c W k) := rfl
  rw [DS.writeE, h0, if_neg (by decide), if_neg (by omega), hs, if_pos rfl]
  refine congrArg (Prod.mk (0 : Int)) ?_
  simp only [dF, DS.write, List.range_succ, List.map_append, List.map_cons, List.map_nil, he, Int.toNat_natCast]
theorem wrs_one {n m : Nat} {b : List UInt8} {st st1 : DS} (h : st.writeE n (m : Int) b = (0, st1)) : wrs n b st [m] = (0, st1) := by
  simp [wrs, h]
theorem wrs_two {n m k : Nat} {b : List UInt8} {st st1 st2 : DS} (h : st.writeE n (m : Int) b = (0, st1)) (h2 : st1.writeE n (k : Int) b = (0, st2)) : wrs n b st [m, k] = (0, st2) := by
  simp [wrs, h, h2]
/-- Put, while there is room. -/
theorem putF (n c : Nat) (hc : c = 1 ∨ c = 2) (W : Nat → List UInt8) (hW : ∀ j, (W j).length = 256) (i : Nat) (hi : 4 + c * (i + 1) ≤ n) :
    putR 7 (dF n c W (c * i)) (uN n (4 + c * i)) (W i) (c : Int) = (pJ (W i) 7 ((List.range c).map (4 + c * i + ·)) c, 0, dF n c W (c * (i + 1)), uN n (4 + c * (i + 1))) := by
  have hl := uN_len n (4 + c * i) (by rw [Nat.mul_add] at hi; omega)
  rw [Nat.mul_add, Nat.mul_one] at hi ⊢
  obtain ⟨h1, h2⟩ := uN_tk n (4 + c * i) c (by omega)
  have hw : wrs n (W i) (dF n c W (c * i)) ((List.range c).map (4 + c * i + ·)) = (0, dF n c W (c * i + c)) := by
    rcases hc with rfl | rfl
    · have e := dF_write n 1 W (1 * i) (W i) (hW i) (by omega) (by rw [Nat.div_one, Nat.one_mul])
      exact wrs_one e
    · have e1 := dF_write n 2 W (2 * i) (W i) (hW i) (by omega) (by rw [show 2 * i / 2 = i by omega])
      have e2 := dF_write n 2 W (2 * i + 1) (W i) (hW i) (by omega) (by rw [show (2 * i + 1) / 2 = i by omega])
      exact wrs_two e1 e2
  have hoff : (dF n c W (c * i)).off = false := rfl
  rw [putR, hoff, if_neg (by decide), if_neg (by have := hW i; omega), Int.toNat_natCast, uN_free n _ (by omega), if_neg (by omega), hl, h1, h2, hw, if_pos rfl, Nat.add_assoc]
theorem putFull (n c : Nat) (hc : c = 1 ∨ c = 2) (W : Nat → List UInt8) (b : List UInt8) (hb : b.length = 256) (k : Nat) (hk : 4 + k ≤ n) (hf : n < 4 + k + c) :
    putR 7 (dF n c W k) (uN n (4 + k)) b (c : Int) = (PT.hole, 7, dF n c W k, uN n (4 + k)) := by
  have hoff : (dF n c W k).off = false := rfl
  rw [putR, hoff, if_neg (by decide), if_neg (by omega), Int.toNat_natCast, uN_free n _ (by omega), if_pos (by omega)]
theorem range_getD {α : Type} (f : Nat → α) (d : α) (k t : Nat) (h : t < k) : ((List.range k).map f).getD t d = f t := by
  rw [List.getD_eq_getElem?_getD, List.getElem?_map, List.getElem?_range h]; rfl
theorem dF_read (n c : Nat) (W : Nat → List UInt8) (k t : Nat) (ht : t < k) : (dF n c W k).read (4 + t) = W (t / c) := by
  have key : ∀ j, t < j → j ≤ k → (dF n c W k).readK (4 + t) j = W (t / c) := by
    intro j
    induction j with
    | zero => intro h; omega
    | succ j ih =>
      intro h1 h2
      have e : (dF n c W k).ws.getD j (0, []) = (4 + j, W (j / c)) := range_getD _ _ _ _ (by omega)
      rw [DS.readK, e]
      by_cases hj : j = t
      · subst hj; exact if_pos rfl
      · rw [if_neg (by show ¬ (4 + j = 4 + t); omega)]
        exact ih (by omega) (by omega)
  have hl : (dF n c W k).ws.length = k := by show ((List.range k).map _).length = k; rw [List.length_map, List.length_range]
  rw [DS.read, hl]
  exact key k ht (Nat.le_refl _)
/-- The pointer of block i. -/
def pF (c : Nat) (W : Nat → List UInt8) (i : Nat) : PT := pJ (W i) 7 ((List.range c).map (4 + c * i + ·)) c
theorem pF_a0 (c : Nat) (hc : c = 1 ∨ c = 2) (W : Nat → List UInt8) (i : Nat) (h : 4 + c * i < 4294967296) : (pF c W i).a0.toNat = 4 + c * i := by
  have e : (pF c W i).a0 = UInt32.ofNat (4 + c * i) := by
    rcases hc with rfl | rfl
    · rfl
    · rfl
  rw [e, UInt32.toNat_ofNat', Nat.mod_eq_of_lt h]
theorem pF_may (c : Nat) (hc : c = 1 ∨ c = 2) (W : Nat → List UInt8) (i : Nat) (h : 4 + c * i + 1 < 4294967296) : (pF c W i).may = true := by
  have h0 := pF_a0 c hc W i (by omega)
  have hne : (pF c W i).a0 ≠ 0 := fun e => by rw [e, UInt32.toNat_zero] at h0; omega
  rw [PT.may, if_neg hne]
  have h1 : (pF c W i).a0 ≠ (pF c W i).a1 := by
    rcases hc with rfl | rfl
    · have e : (pF 1 W i).a1 = 0 := rfl
      rw [e]; exact hne
    · have e : (pF 2 W i).a1 = UInt32.ofNat (4 + 2 * i + 1) := rfl
      intro e2
      rw [e2, e, UInt32.toNat_ofNat', Nat.mod_eq_of_lt h] at h0
      omega
  simpa using h1
/-- What was put is read. -/
theorem readF (n c : Nat) (hc : c = 1 ∨ c = 2) (W : Nat → List UInt8) (k i : Nat) (hn : n ≤ 512) (hk : 4 + k ≤ n) (hi : c * i < k) : brE (dF n c W k) n (pF c W i) = 0 ∧ brB (dF n c W k) n (pF c W i) = W i := by
  have h0 := pF_a0 c hc W i (by omega)
  have hne : (pF c W i).a0 ≠ 0 := fun e => by rw [e, UInt32.toNat_zero] at h0; omega
  have hck : ckE (dF n c W k) (pF c W i) = 0 := by
    rw [ckE, if_neg (by show ¬ (false = true); decide), pF_may c hc W i (by omega)]; exact if_pos rfl
  have hh : (pF c W i == PT.hole) = false := beq_eq_false_iff_ne.2 fun e => hne (by rw [e]; rfl)
  have hr := dF_read n c W k (c * i) hi
  have hd : c * i / c = i := Nat.mul_div_cancel_left i (by omega)
  rw [hd] at hr
  have hcp : cpB (dF n c W k) n (pF c W i) 0 = true := by
    have e : cpB (dF n c W k) n (pF c W i) 0 = ((pF c W i).a0 != 0 && decide ((pF c W i).a0.toNat < n) && (shaL ((dF n c W k).read (pF c W i).a0.toNat) == shaL (W i))) := rfl
    rw [e, h0, hr]
    have : decide (4 + c * i < n) = true := decide_eq_true (by omega)
    simp [hne, this]
  constructor
  · rw [brE, hck, if_neg (by decide), hh, hcp]; rfl
  · rw [brB, hh, hcp, if_neg (by decide), if_pos rfl, h0, hr]
end Go.Proofs.YticfcelbnkiopaaDoor

namespace Go.Proofs.YticfcelbnkiopaaDoor
set_option maxRecDepth 100000
open Go.RowKit
set_option linter.unusedSimpArgs false
set_option linter.unusedVariables false

theorem readK_write (st : DS) (i j : Nat) (b : List UInt8) : ∀ k, k ≤ st.ws.length → (st.write i b).readK j k = st.readK j k
  | 0, _ => rfl
  | k + 1, h => by
    have e : (st.write i b).ws.getD k (0, []) = st.ws.getD k (0, []) := by
      show (st.ws ++ [(i, b)]).getD k (0, []) = _
      rw [getD_snoc, if_pos (by omega)]
    rw [DS.readK, DS.readK, e, readK_write st i j b k (by omega)]
/-- A write is what is read of its sector, and of no other one. -/
theorem read_write (st : DS) (i j : Nat) (b : List UInt8) : (st.write i b).read j = if i = j then b else st.read j := by
  have hl : (st.write i b).ws.length = st.ws.length + 1 := by show (st.ws ++ [(i, b)]).length = _; simp
  have e : (st.write i b).ws.getD st.ws.length (0, []) = (i, b) := by
    show (st.ws ++ [(i, b)]).getD st.ws.length (0, []) = _
    rw [getD_snoc, if_neg (by omega), if_pos rfl]
  rw [DS.read, hl, DS.readK, e, readK_write st i j b _ (Nat.le_refl _)]
  rfl
/-- A disk with no fuse. -/
structure Calm (st : DS) (n : Nat) : Prop where
  ok : st.ok n
  off : st.off = false
  lets : st.lets = -1
theorem Calm.writeE {st : DS} {n : Nat} (h : Calm st n) (i : Nat) (hi : i < n) (b : List UInt8) (hb : b.length = 256) : st.writeE n (i : Int) b = (0, st.write i b) := by
  have hs : st.spend = (true, st) := by rw [DS.spend, h.lets, if_neg (by decide), if_neg (by decide)]
  rw [DS.writeE, h.off, if_neg (by decide), if_neg (by omega), hs, if_pos rfl, Int.toNat_natCast]
theorem Calm.write {st : DS} {n : Nat} (h : Calm st n) (hw : st.ws.length < 1000000) (i : Nat) (hi : i < n) (b : List UInt8) (hb : b.length = 256) : Calm (st.write i b) n :=
  ⟨DS.ok_write h.ok hw i hi b hb, h.off, h.lets⟩
/-- over, on a disk with no fuse, of a pointer to two sectors. -/
theorem Calm.ovr {st : DS} {n : Nat} (h : Calm st n) (hw : st.ws.length < 999990) (a0 a1 : UInt32) (h0 : a0 ≠ 0) (h1 : a1 ≠ 0) (h01 : a0.toNat ≠ a1.toNat) (k0 : a0.toNat < n) (k1 : a1.toNat < n) (b : List UInt8) (hb : b.length = 256) (g0 g1 : Bool) :
    ∃ st', ovr n b st [(g0, a0), (g1, a1)] 0 = ((if g0 then 0 else 1) + (if g1 then 0 else 1), 0, st') ∧ Calm st' n ∧ st'.ws.length ≤ st.ws.length + 2 ∧ st'.read a0.toNat = (if g0 then st.read a0.toNat else b) ∧ st'.read a1.toNat = if g1 then st.read a1.toNat else b := by
  have w0 := h.writeE a0.toNat k0 b hb
  have w1 := h.writeE a1.toNat k1 b hb
  have c0 := h.write (by omega) a0.toNat k0 b hb
  have w01 := c0.writeE a1.toNat k1 b hb
  have hl : ∀ (s : DS) i, (s.write i b).ws.length = s.ws.length + 1 := fun s i => by show (s.ws ++ [(i, b)]).length = _; simp
  cases g0 with
  | true =>
    rw [ovr_skip _ _ _ _ _ _ _ (.inl rfl)]
    cases g1 with
    | true => exact ⟨st, by rw [ovr_skip _ _ _ _ _ _ _ (.inl rfl)]; rfl, h, by omega, rfl, rfl⟩
    | false =>
      refine ⟨st.write a1.toNat b, by rw [ovr_do _ _ _ _ _ _ _ rfl h1, w1]; rfl, h.write (by omega) _ k1 b hb, by rw [hl]; omega, ?_, ?_⟩
      · rw [read_write, if_neg (Ne.symm h01)]; rfl
      · rw [read_write, if_pos rfl]; rfl
  | false =>
    rw [ovr_do _ _ _ _ _ _ _ rfl h0, w0, if_pos rfl]
    cases g1 with
    | true =>
      refine ⟨st.write a0.toNat b, by rw [ovr_skip _ _ _ _ _ _ _ (.inl rfl)]; rfl, c0, by rw [hl]; omega, ?_, ?_⟩
      · rw [read_write, if_pos rfl]; rfl
      · rw [read_write, if_neg h01]; rfl
    | false =>
      refine ⟨(st.write a0.toNat b).write a1.toNat b, by rw [ovr_do _ _ _ _ _ _ _ rfl h1, w01]; rfl, c0.write (by rw [hl]; omega) _ k1 b hb, by rw [hl, hl]; omega, ?_, ?_⟩
      · rw [read_write, if_neg (Ne.symm h01), read_write, if_pos rfl]; rfl
      · rw [read_write, if_pos rfl]; rfl
/-- A pointer to two sectors of a disk. -/
structure TwoP (p : PT) (n : Nat) : Prop where
  h0 : p.a0 ≠ 0
  h1 : p.a1 ≠ 0
  h01 : p.a0.toNat ≠ p.a1.toNat
  k0 : p.a0.toNat < n
  k1 : p.a1.toNat < n
section
variable {st : DS} {n : Nat} {p : PT}
theorem TwoP.may (h : TwoP p n) : p.may = true := by
  rw [PT.may, if_neg h.h0]
  have : p.a0 ≠ p.a1 := fun e => h.h01 (by rw [e])
  simpa using this
theorem TwoP.hole (h : TwoP p n) : (p == PT.hole) = false := beq_eq_false_iff_ne.2 fun e => h.h0 (by rw [e]; rfl)
theorem TwoP.ck (h : TwoP p n) (hc : Calm st n) : ckE st p = 0 := by
  rw [ckE, hc.off, if_neg (by decide), h.may]; exact if_pos rfl
theorem TwoP.cp0 (h : TwoP p n) : cpB st n p 0 = (shaL (st.read p.a0.toNat) == p.hash) := by
  have e : cpB st n p 0 = (p.a0 != 0 && decide (p.a0.toNat < n) && (shaL (st.read p.a0.toNat) == p.hash)) := rfl
  have h2 := decide_eq_true h.k0
  have h3 := h.h0
  rw [e, h2]; simp [h3]
theorem TwoP.cp1 (h : TwoP p n) : cpB st n p 1 = (shaL (st.read p.a1.toNat) == p.hash) := by
  have e : cpB st n p 1 = (p.a1 != 0 && decide (p.a1.toNat < n) && (shaL (st.read p.a1.toNat) == p.hash)) := rfl
  have h2 := decide_eq_true h.k1
  have h3 := h.h1
  rw [e, h2]; simp [h3]
theorem TwoP.ovG (h : TwoP p n) (hc : Calm st n) : ovG st n p = [(cpB st n p 0, p.a0), (cpB st n p 1, p.a1)] := by
  rw [Proofs.YticfcelbnkiopaaDoor.ovG, lkG, lkG, h.ck hc, if_pos rfl, if_pos rfl]
/-- Bytes of the pointer's hash are written over what is not right: both copies are right. -/
theorem TwoP.over (h : TwoP p n) (hc : Calm st n) (hw : st.ws.length < 999990) (b : List UInt8) (hb : b.length = 256) (hs : shaL b = p.hash) :
    ∃ st', Proofs.YticfcelbnkiopaaDoor.ovr n b st (Proofs.YticfcelbnkiopaaDoor.ovG st n p) 0 = ((if cpB st n p 0 then 0 else 1) + (if cpB st n p 1 then 0 else 1), 0, st') ∧ Calm st' n ∧ st'.ws.length ≤ st.ws.length + 2 ∧ cpB st' n p 0 = true ∧ cpB st' n p 1 = true := by
  obtain ⟨st', e, c, l, r0, r1⟩ := hc.ovr hw p.a0 p.a1 h.h0 h.h1 h.h01 h.k0 h.k1 b hb (cpB st n p 0) (cpB st n p 1)
  refine ⟨st', by rw [h.ovG hc, e], c, l, ?_, ?_⟩
  · rw [h.cp0, r0]
    split
    · rename_i q; rw [h.cp0] at q; exact q
    · exact beq_iff_eq.2 hs
  · rw [h.cp1, r1]
    split
    · rename_i q; rw [h.cp1] at q; exact q
    · exact beq_iff_eq.2 hs
theorem TwoP.heal (h : TwoP p n) (hc : Calm st n) (hw : st.ws.length < 999990) (hg : (cpB st n p 0 || cpB st n p 1) = true) :
    ∃ st', healR n st p = ((if cpB st n p 0 then 0 else 1) + (if cpB st n p 1 then 0 else 1), 0, st') ∧ Calm st' n ∧ st'.ws.length ≤ st.ws.length + 2 ∧ cpB st' n p 0 = true ∧ cpB st' n p 1 = true := by
  have hE : brE st n p = 0 := by
    rw [brE, h.ck hc, if_neg (by decide), h.hole]
    cases q0 : cpB st n p 0 with
    | true => rfl
    | false =>
      rw [q0, Bool.false_or] at hg
      rw [hg]; rfl
  have hl := brB_len hc.ok hE
  have hs : shaL (brB st n p) = p.hash := by
    rw [brB, h.hole, if_neg (by decide)]
    cases q0 : cpB st n p 0 with
    | true => rw [if_pos rfl]; rw [h.cp0] at q0; exact beq_iff_eq.1 q0
    | false =>
      rw [q0, Bool.false_or, h.cp1] at hg
      rw [if_neg (by decide)]
      exact beq_iff_eq.1 hg
  have e : healR n st p = Proofs.YticfcelbnkiopaaDoor.ovr n (brB st n p) st (Proofs.YticfcelbnkiopaaDoor.ovG st n p) 0 := by
    rw [healR, if_neg (by rw [hE, h.hole]; decide)]
  rw [e]
  exact h.over hc hw _ hl hs
theorem TwoP.noHeal (h : TwoP p n) (hc : Calm st n) (hg : (cpB st n p 0 || cpB st n p 1) = false) : healR n st p = (0, 9, st) := by
  rw [Bool.or_eq_false_iff] at hg
  have hE : brE st n p = 9 := by
    rw [brE, h.ck hc, if_neg (by decide), h.hole, hg.1, hg.2]; rfl
  rw [healR, hE, if_pos (.inl (by decide))]
theorem TwoP.fix (h : TwoP p n) (hc : Calm st n) (hw : st.ws.length < 999990) (b : List UInt8) (hb : b.length = 256) (hs : shaL b = p.hash) :
    ∃ st', fixR n st p b = ((if cpB st n p 0 then 0 else 1) + (if cpB st n p 1 then 0 else 1), 0, st') ∧ Calm st' n ∧ st'.ws.length ≤ st.ws.length + 2 ∧ cpB st' n p 0 = true ∧ cpB st' n p 1 = true := by
  have e : fixR n st p b = Proofs.YticfcelbnkiopaaDoor.ovr n b st (Proofs.YticfcelbnkiopaaDoor.ovG st n p) 0 := by
    rw [fixR, h.ck hc, if_neg (by decide), if_neg (by rw [h.hole]; simp [hb]), if_neg (by simp [hs])]
  rw [e]
  exact h.over hc hw b hb hs
theorem TwoP.noFix (h : TwoP p n) (hc : Calm st n) (b : List UInt8) (hb : b.length = 256) (hs : shaL b ≠ p.hash) : fixR n st p b = (0, 14, st) := by
  rw [fixR, h.ck hc, if_neg (by decide), if_neg (by rw [h.hole]; simp [hb]), if_pos hs]
end
end Go.Proofs.YticfcelbnkiopaaDoor

namespace Go.Proofs.YticfcelbnkiopaaDoor
set_option maxRecDepth 100000
open Go.RowKit
set_option linter.unusedSimpArgs false
set_option linter.unusedVariables false

def DS.flushE (st : DS) : Int × DS := if st.off then (8, st) else if st.spend.1 then (0, st.spend.2.flush) else (8, st.spend.2)
set_option maxHeartbeats 1600000 in
theorem diskFlush_any (bd bo n : Nat) (vw : Value) (ss : List SVV) (st : DS) (hs : st.ok n) (hl : -1 ≤ st.lets ∧ st.lets ≤ 9223372036854775807) (w : World) (hD : SH (feet (diskL bd bo vw ss st)) w w (diskL bd bo vw ss st)) :
    Calls Tryd.prog 19 #[.pointer (some ⟨bd, 0, none⟩)] w fun e w' => e = .returned (.int .i64 st.flushE.1) ∧ ∃ vw' ss', SH (feet (diskL bd bo vw ss st)) w w' (diskL bd bo vw' ss' st.flushE.2) := by
  by_cases hoff : st.off = true
  · have e : st.flushE = (8, st) := by rw [DS.flushE, hoff]; rfl
    rw [e]
    obtain ⟨F, hF⟩ : ∃ F, F = feet (diskL bd bo vw ss st) := ⟨_, rfl⟩
    rw [← hF] at hD ⊢
    obtain ⟨on, ws, lets, off⟩ := st
    simp only at hoff
    subst hoff
    have H := hD
    have H0 := hD
    clear hD hF e hs hl
    unfold diskL at H
    go_enter Tryd.func19, Tryd.ntmps19
    go_wp2_with (first
      | ((with_reducible refine gDst 4 ?_); refine aAlloc H rfl rfl ?_; clear H; intro b4 w4 H)
      | ((with_reducible refine gLoad ?_); first | (refine aLoad1 H _ rfl rfl (by first | exact (rfl : _ = some (Value.int _ _)) | exact (rfl : _ = some (Value.slice _ _ _)) | exact (rfl : _ = some (Value.bool _)) | exact (rfl : _ = some (Value.string _)) | exact (rfl : _ = some (Value.pointer _)) | rfl | (simp [List.getElem?_append]; done)) rfl ?_) | (refine aLoadC _ rfl rfl (by assumption) rfl ?_) | (refine aLoad H _ rfl rfl (by first | exact part_all (by first | rfl | simp []) | (simp only [List.drop_succ_cons, List.drop_zero, List.take_succ_cons, List.take_zero]; rfl) | (simp [List.drop_append, List.take_append]; rfl)) (by first | rfl | simp []) rfl ?_))
      | ((with_reducible refine gStore ?_); (first | (refine aCell H _ _ rfl rfl (by first | exact (rfl : _ = Value.int _ _) | exact (rfl : _ = Value.bool _) | exact (rfl : _ = Value.slice _ _ _) | exact (rfl : _ = Value.string _) | exact (rfl : _ = Value.pointer _) | exact (rfl : _ = Value.func _ _ _) | rfl) (by rfl) (by rfl) (by first | exact of_decide_eq_true rfl | (simp []; done) | (simp []; omega)) (by first | (simp only [List.set_cons_zero, List.set_cons_succ]; rfl) | (simp [List.set_append]; rfl)) rfl ?_) | (refine aStore H _ _ rfl rfl rfl (by (first | exact ⟨rfl, rfl⟩ | exact ⟨by decide, rfl⟩ | (simp []; done) | (constructor <;> simp [] <;> omega))) (by first | rfl | simp [List.all_append, one_all]) rfl ?_) | (refine aLay H _ _ rfl rfl rfl (by (first | exact ⟨rfl, rfl⟩ | exact ⟨by decide, rfl⟩ | (simp []; done) | (constructor <;> simp [] <;> omega))) (by first | rfl | simp [List.all_append, one_all]) (by simp only [lay, List.take_succ_cons, List.take_zero, List.drop_succ_cons, List.drop_zero, List.nil_append, List.cons_append, List.length_cons, List.length_nil, Nat.zero_add, Nat.reduceAdd]; rfl) rfl ?_)); clear H; intro w' H; try dsimp only at H))
    go_ret
    exact ⟨rfl, vw, ss, H0⟩
  · have hoff' : st.off = false := by simpa using hoff
    cases hsp : st.spend.1 with
    | true =>
      have e : st.flushE = (0, st.spend.2.flush) := by rw [DS.flushE, hoff', if_neg (by decide), hsp]; rfl
      rw [e]
      refine (diskFlush_ok bd bo n vw ss st hs hl hoff' hsp w hD).mono ?_
      rintro e w' ⟨rfl, k⟩
      exact ⟨rfl, _, _, k⟩
    | false =>
      have e : st.flushE = (8, st.spend.2) := by rw [DS.flushE, hoff', if_neg (by decide), hsp]; rfl
      rw [e]
      have HSP := Lib.hid (fun W (k : SH (feet (diskL bd bo vw ss st)) W W (diskL bd bo vw ss st)) => spend_any bd bo vw ss st hl W k)
      rw [hsp] at HSP
      obtain ⟨F, hF⟩ : ∃ F, F = feet (diskL bd bo vw ss st) := ⟨_, rfl⟩
      rw [← hF] at hD ⊢
      have H := hD
      have HOFF := Lib.hid hoff'
      clear hD hF e hs hl hoff hsp
      unfold diskL at H
      rw [hoff'] at H
      clear hoff'
      go_enter Tryd.func19, Tryd.ntmps19
      go_wp2_with (first
        | (go_at_call 70; rw [← HOFF.out] at H; refine (HSP.out _ (SH.subL (D := diskL bd bo vw ss st) (L := []) H)).mono ?_; rintro e w' ⟨rfl, k⟩; replace H := SH.viaL (D := diskL bd bo vw ss st) (L := []) H k; clear k; rw [List.append_nil] at H)
        | ((with_reducible refine gDst 4 ?_); refine aAlloc H rfl rfl ?_; clear H; intro b4 w4 H)
        | ((with_reducible refine gLoad ?_); first | (refine aLoad1 H _ rfl rfl (by first | exact (rfl : _ = some (Value.int _ _)) | exact (rfl : _ = some (Value.slice _ _ _)) | exact (rfl : _ = some (Value.bool _)) | exact (rfl : _ = some (Value.string _)) | exact (rfl : _ = some (Value.pointer _)) | rfl | (simp [List.getElem?_append]; done)) rfl ?_) | (refine aLoadC _ rfl rfl (by assumption) rfl ?_) | (refine aLoad H _ rfl rfl (by first | exact part_all (by first | rfl | simp []) | (simp only [List.drop_succ_cons, List.drop_zero, List.take_succ_cons, List.take_zero]; rfl) | (simp [List.drop_append, List.take_append]; rfl)) (by first | rfl | simp []) rfl ?_))
        | ((with_reducible refine gStore ?_); (first | (refine aCell H _ _ rfl rfl (by first | exact (rfl : _ = Value.int _ _) | exact (rfl : _ = Value.bool _) | exact (rfl : _ = Value.slice _ _ _) | exact (rfl : _ = Value.string _) | exact (rfl : _ = Value.pointer _) | exact (rfl : _ = Value.func _ _ _) | rfl) (by rfl) (by rfl) (by first | exact of_decide_eq_true rfl | (simp []; done) | (simp []; omega)) (by first | (simp only [List.set_cons_zero, List.set_cons_succ]; rfl) | (simp [List.set_append]; rfl)) rfl ?_) | (refine aStore H _ _ rfl rfl rfl (by (first | exact ⟨rfl, rfl⟩ | exact ⟨by decide, rfl⟩ | (simp []; done) | (constructor <;> simp [] <;> omega))) (by first | rfl | simp [List.all_append, one_all]) rfl ?_) | (refine aLay H _ _ rfl rfl rfl (by (first | exact ⟨rfl, rfl⟩ | exact ⟨by decide, rfl⟩ | (simp []; done) | (constructor <;> simp [] <;> omega))) (by first | rfl | simp [List.all_append, one_all]) (by simp only [lay, List.take_succ_cons, List.take_zero, List.drop_succ_cons, List.drop_zero, List.nil_append, List.cons_append, List.length_cons, List.length_nil, Nat.zero_add, Nat.reduceAdd]; rfl) rfl ?_)); clear H; intro w' H; try dsimp only at H))
      go_ret
      exact ⟨rfl, vw, ss, H⟩
def DS.rotE (st : DS) (n : Nat) (i : Int) (mask : List UInt8) : Int × DS := if i < 0 ∨ (n : Int) ≤ i ∨ 256 < mask.length then (1, st) else (0, st.rot i.toNat mask)
set_option maxHeartbeats 1600000 in
theorem diskRot_any (bd bo n : Nat) (i : Int) (vw vm : Value) (ss : List SVV) (st : DS) (mask : List UInt8) (hs : st.ok n) (w : World)
    (hD : SH (feet (diskL bd bo vw ss st)) w w (diskL bd bo vw ss st)) (hv : ∀ w', Chg (feet (diskL bd bo vw ss st)) w w' → RB w' vm mask) :
    Calls Tryd.prog 20 #[.pointer (some ⟨bd, 0, none⟩), .int .i64 i, vm] w fun e w' => e = .returned (.int .i64 (st.rotE n i mask).1) ∧ SH (feet (diskL bd bo vw ss st)) w w' (diskL bd bo vw ss (st.rotE n i mask).2) := by
  by_cases hi : i < 0 ∨ (n : Int) ≤ i
  · have e : st.rotE n i mask = (1, st) := by rw [DS.rotE, if_pos (by omega)]
    rw [e]
    have HAS := Lib.hid (fun W (k : W.cell? ⟨bd, 0, none⟩ = some (.slice (some ⟨bo, 0, none⟩) (n * 256) (n * 256))) => diskHasNot_c bd ⟨bo, 0, none⟩ n (n * 256) rfl hs.n2 i hi W k)
    have HOL := Lib.hid hs.ol
    obtain ⟨A0, c0, rfl, -⟩ := (hv w (Chg.refl _ _)).len
    obtain ⟨F, hF⟩ : ∃ F, F = feet (diskL bd bo vw ss st) := ⟨_, rfl⟩
    rw [← hF] at hD ⊢
    have H := hD
    have H0 := hD
    clear hD hF hv e hs
    unfold diskL at H
    generalize mask.length = ml at *
    go_enter Tryd.func20, Tryd.ntmps20
    go_wp2_with (first
      | (go_at_call 72; refine (HAS.out _ (by rw [← HOL.out]; exact (H.hold.va (b := bd)).cell 0)).mono ?_; rintro e w' ⟨rfl, rfl⟩)
      | ((with_reducible refine gLoad ?_); first | (refine aLoad1 H _ rfl rfl (by first | exact (rfl : _ = some (Value.int _ _)) | exact (rfl : _ = some (Value.slice _ _ _)) | exact (rfl : _ = some (Value.bool _)) | exact (rfl : _ = some (Value.string _)) | exact (rfl : _ = some (Value.pointer _)) | rfl | (simp [List.getElem?_append]; done)) rfl ?_) | (refine aLoadC _ rfl rfl (by assumption) rfl ?_))
      | ((with_reducible refine gStore ?_); (first | (refine aCell H _ _ rfl rfl (by first | exact (rfl : _ = Value.int _ _) | exact (rfl : _ = Value.bool _) | exact (rfl : _ = Value.slice _ _ _) | exact (rfl : _ = Value.string _) | exact (rfl : _ = Value.pointer _) | exact (rfl : _ = Value.func _ _ _) | rfl) (by rfl) (by rfl) (by first | exact of_decide_eq_true rfl | (simp []; done) | (simp []; omega)) (by first | (simp only [List.set_cons_zero, List.set_cons_succ]; rfl) | (simp [List.set_append]; rfl)) rfl ?_)); clear H; intro w' H; try dsimp only at H))
    go_ret
    exact ⟨rfl, H0⟩
  · obtain ⟨k, rfl⟩ : ∃ k : Nat, i = (k : Int) := ⟨i.toNat, by omega⟩
    by_cases hm : 256 < mask.length
    · have e : st.rotE n (k : Int) mask = (1, st) := by rw [DS.rotE, if_pos (by omega)]
      rw [e]
      have HAS := Lib.hid (fun W (q : W.cell? ⟨bd, 0, none⟩ = some (.slice (some ⟨bo, 0, none⟩) (n * 256) (n * 256))) => diskHas_c bd ⟨bo, 0, none⟩ n (n * 256) rfl hs.n2 k (by omega) W q)
      have HOL := Lib.hid hs.ol
      obtain ⟨A0, c0, rfl, -⟩ := (hv w (Chg.refl _ _)).len
      obtain ⟨F, hF⟩ : ∃ F, F = feet (diskL bd bo vw ss st) := ⟨_, rfl⟩
      rw [← hF] at hD ⊢
      have H := hD
      have H0 := hD
      have hmi : (256 : Int) < (mask.length : Int) := by omega
      clear hD hF hv e hs
      unfold diskL at H
      generalize mask.length = ml at *
      go_enter Tryd.func20, Tryd.ntmps20
      go_wp2_with (first
        | (go_at_call 72; refine (HAS.out _ (by rw [← HOL.out]; exact (H.hold.va (b := bd)).cell 0)).mono ?_; rintro e w' ⟨rfl, rfl⟩)
        | ((with_reducible refine gLoad ?_); first | (refine aLoad1 H _ rfl rfl (by first | exact (rfl : _ = some (Value.int _ _)) | exact (rfl : _ = some (Value.slice _ _ _)) | exact (rfl : _ = some (Value.bool _)) | exact (rfl : _ = some (Value.string _)) | exact (rfl : _ = some (Value.pointer _)) | rfl | (simp [List.getElem?_append]; done)) rfl ?_) | (refine aLoadC _ rfl rfl (by assumption) rfl ?_))
        | ((with_reducible refine gStore ?_); (first | (refine aCell H _ _ rfl rfl (by first | exact (rfl : _ = Value.int _ _) | exact (rfl : _ = Value.bool _) | exact (rfl : _ = Value.slice _ _ _) | exact (rfl : _ = Value.string _) | exact (rfl : _ = Value.pointer _) | exact (rfl : _ = Value.func _ _ _) | rfl) (by rfl) (by rfl) (by first | exact of_decide_eq_true rfl | (simp []; done) | (simp []; omega)) (by first | (simp only [List.set_cons_zero, List.set_cons_succ]; rfl) | (simp [List.set_append]; rfl)) rfl ?_)); clear H; intro w' H; try dsimp only at H))
      go_ret
      exact ⟨rfl, H0⟩
    · have e : st.rotE n (k : Int) mask = (0, st.rot k mask) := by rw [DS.rotE, if_neg (by omega)]; rfl
      rw [e]
      exact diskRot_ok bd bo n k vw vm ss st mask hs (by omega) (by omega) w hD hv
def DS.fuse (st : DS) (f : Int) : DS := { st with lets := if f < 0 then 0 else f }
set_option maxHeartbeats 1600000 in
theorem diskFuse_any (bd bo : Nat) (f : Int) (vw : Value) (ss : List SVV) (st : DS) (w : World) (hD : SH (feet (diskL bd bo vw ss st)) w w (diskL bd bo vw ss st)) :
    Calls Tryd.prog 45 #[.pointer (some ⟨bd, 0, none⟩), .int .i64 f] w fun e w' => e = .returned (.tuple #[]) ∧ SH (feet (diskL bd bo vw ss st)) w w' (diskL bd bo vw ss (st.fuse f)) := by
  obtain ⟨F, hF⟩ : ∃ F, F = feet (diskL bd bo vw ss st) := ⟨_, rfl⟩
  rw [← hF] at hD ⊢
  have H := hD
  clear hD hF
  unfold diskL at H
  go_enter Tryd.func45, Tryd.ntmps45
  go_wp2_with (first
    | ((with_reducible refine gStore ?_); (first | (refine aCell H _ _ rfl rfl (by first | exact (rfl : _ = Value.int _ _) | exact (rfl : _ = Value.bool _) | exact (rfl : _ = Value.slice _ _ _) | exact (rfl : _ = Value.string _) | exact (rfl : _ = Value.pointer _) | exact (rfl : _ = Value.func _ _ _) | rfl) (by rfl) (by rfl) (by first | exact of_decide_eq_true rfl | (simp []; done) | (simp []; omega)) (by first | (simp only [List.set_cons_zero, List.set_cons_succ]; rfl) | (simp [List.set_append]; rfl)) rfl ?_)); clear H; intro w' H; try dsimp only at H))
  all_goals
    go_end0
    exact ⟨rfl, H⟩
end Go.Proofs.YticfcelbnkiopaaDoor

namespace Go.Proofs.YticfcelbnkiopaaDoor
set_option maxRecDepth 100000
open Go.RowKit
set_option linter.unusedSimpArgs false
set_option linter.unusedVariables false
theorem foldl_setAll (xs : List Value) : ∀ (pre suf : List Value) (n : Nat), n = pre.length → xs.length = suf.length → ((xs.zipIdx n).foldl (fun (cs : Array Value) (x : Value × Nat) => cs.setIfInBounds (0 + x.2) x.1) (pre ++ suf).toArray).toList = pre ++ xs := by
  induction xs with
  | nil => intro pre suf n _ h; simp [List.eq_nil_of_length_eq_zero h.symm]
  | cons x xs ih =>
    intro pre suf n hn h
    cases suf with
    | nil => simp at h
    | cons y suf =>
      rw [List.zipIdx_cons, List.foldl_cons]
      have e : (pre ++ y :: suf).toArray.setIfInBounds (0 + n) x = ((pre ++ [x]) ++ suf).toArray := by
        subst hn
        simp [List.setIfInBounds_toArray]
      simp only [e]
      rw [ih (pre ++ [x]) suf (n + 1) (by simp [hn]) (by simpa using h)]
      simp
/-- A literal of one element, that is an aggregate. -/
theorem xSlit1 {P : Program} {o : Oper} {ρ : Operand → Value} {w : World} {α : Type} (T : ST P α) (x : Operand) (ho : o.op = .buildSlice T.t 1 #[(0, x)]) (cs : List Value) (hx : ρ x = .agg cs.toArray) (hl : cs.length = T.sz) (h0 : 0 < T.sz ∧ T.sz ≤ 1000) : (execOp ρ o).run P w = .ok (.value (.slice (some ⟨w.heap.size, 0, none⟩) 1 1)) (w.alloc (.cells cs.toArray T.id)) := by
  obtain ⟨i0, hi, hzz⟩ := Option.map_eq_some_iff.1 T.hinfo
  simp only [Prod.mk.injEq] at hzz
  obtain ⟨hz0, hz1, hz2⟩ := hzz
  have hcl : (Value.agg cs.toArray).cells = cs.toArray := rfl
  have hfill : Instr.fill (fun i => some (i * T.sz, T.sz)) ((Array.range T.sz).map fun k => T.z.cells[k % T.z.cells.size]!) [(0, .agg cs.toArray)] = some cs.toArray := by
    have hs : ((Array.range T.sz).map fun k => T.z.cells[k % T.z.cells.size]!) = (([] : List Value) ++ ((List.range T.sz).map fun k => T.z.cells[k % T.z.cells.size]!)).toArray := by
      apply Array.toList_inj.mp; simp
    rw [hs]
    have hsz : (([] : List Value) ++ ((List.range T.sz).map fun k => T.z.cells[k % T.z.cells.size]!)).toArray.size = T.sz := by simp
    have hf := foldl_setAll cs [] ((List.range T.sz).map fun k => T.z.cells[k % T.z.cells.size]!) 0 rfl (by simp [hl])
    simp only [Instr.fill, hcl, hsz, Nat.zero_mul]
    have hc : ¬ (cs.toArray.size ≠ T.sz ∨ 0 + cs.toArray.size > T.sz) := by
      simp [hl]
    rw [if_neg (by simpa using hc)]
    congr 1
    apply Array.toList_inj.mp
    rw [show cs.toArray.zipIdx = (cs.zipIdx 0).toArray by simp, List.foldl_toArray]
    exact hf
  have hns : ¬ (1 * T.sz > 2 ^ 24) := by omega
  have hnz : ¬ (1 * T.sz = 0) := by omega
  unfold execOp
  simp [ho, Instr.buildSlice, run_underlying T.ht, sizeOf, typeInfo, hi, hz0, hz1, hx, zeroValue, newRow, hfill]
  rw [if_neg (by omega), if_neg (by omega)]
end Go.Proofs.YticfcelbnkiopaaDoor

namespace Go.Proofs.YticfcelbnkiopaaDoor
set_option maxRecDepth 100000
open Go.RowKit
set_option linter.unusedSimpArgs false
set_option linter.unusedVariables false

/-- A pointer, as an element of a row. -/
def PTT : Ty PT := ⟨33, 35, 44, .agg PT.hole.cells.toArray, PT.cells, PT.len, PT.one, by decide, by decide⟩
def sPT : ST Tryd.prog PT := ⟨PTT, 28, .agg PT.hole.cells.toArray, Tryd.underlying28, by kernel_rfl, by kernel_rfl⟩
theorem and15 (n : Int) : ∃ m : Nat, m < 16 ∧ bits .and .i64 n 15 = (m : Int) := by
  refine ⟨(BitVec.ofInt 64 n).toNat &&& 15, Nat.lt_of_le_of_lt Nat.and_le_right (by decide), ?_⟩
  have h : (BitVec.ofInt 64 n).toNat &&& 15 ≤ 15 := Nat.and_le_right
  have e : bits .and .i64 n 15 = IntKind.i64.wrap (((BitVec.ofInt 64 n).toNat &&& 15 : Nat) : Int) := rfl
  rw [e, IntKind.wrap_i64]
  omega
theorem wholeL_len (b : List UInt8) (h : b.length ≤ 256) : (wholeL b).length = 256 := by
  rw [wholeL, List.length_append, List.length_replicate]; omega
/-- The blocks that are put. -/
def wF (b : List UInt8) (i : Nat) : List UInt8 := wholeL (UInt8.ofNat i :: b)
theorem wF_len (b : List UInt8) (h : b.length ≤ 200) (i : Nat) : (wF b i).length = 256 := wholeL_len _ (by rw [List.length_cons]; omega)
theorem pF_one (p : PT) : p.cells.toArray.toList = sPT.all [p] := by
  show p.cells = p.cells ++ []
  rw [List.append_nil]
def pL (c : Nat) (W : Nat → List UInt8) (k : Nat) : List PT := (List.range k).map (pF c W)
theorem pL_len (c : Nat) (W : Nat → List UInt8) (k : Nat) : (pL c W k).length = k := by rw [pL, List.length_map, List.length_range]
theorem pL_snoc (c : Nat) (W : Nat → List UInt8) (k : Nat) : pL c W k ++ [pF c W k] = pL c W (k + 1) := by rw [pL, pL, List.range_succ, List.map_append]; rfl
theorem okF (n c : Nat) (W : Nat → List UInt8) (hW : ∀ j, (W j).length = 256) (k : Nat) (h1 : 16 ≤ n) (h2 : n ≤ 512) (hk : 4 + k ≤ n) : BKok (dF n c W k) (uN n (4 + k)) := by
  have hl : (dF n c W k).ws.length = k := by show ((List.range k).map _).length = k; rw [List.length_map, List.length_range]
  refine ⟨⟨by rw [uN_len n _ hk]; exact h1, by rw [uN_len n _ hk]; exact h2, by rw [uN_len n _ hk]; exact List.length_replicate, fun t ht => ?_, by rw [hl]; omega⟩, ⟨(by decide : (-1 : Int) ≤ -1), (by decide : (-1 : Int) ≤ 9223372036854775807)⟩, fun j hj => by rw [uN_get n _ j hk]; exact decide_eq_true (by omega)⟩
  rw [hl] at ht
  have e : (dF n c W k).ws.getD t (0, []) = (4 + t, W (t / c)) := range_getD _ _ _ _ ht
  rw [uN_len n _ hk, e]
  exact ⟨by show 4 + t < n; omega, hW _⟩
theorem wsF (n c : Nat) (W : Nat → List UInt8) (k : Nat) : (dF n c W k).ws.length = k := by show ((List.range k).map _).length = k; rw [List.length_map, List.length_range]
set_option maxHeartbeats 6400000 in
theorem BankFull_any (vb : Value) (b : List UInt8) (c n : Int) (w : World) (hb : RB w vb b) (hc : -9223372036854775808 ≤ c ∧ c ≤ 9223372036854775807) (hT : TabAt w) :
    Calls Tryd.prog 3 #[vb, .int .i64 c, .int .i64 n] w fun e w' => e = .returned (.bool true) ∧ Below w.heap.size w w' := by
  have H := SH.start Nil w
  obtain ⟨A0, c0, rfl, -⟩ := hb.len
  have HT := Lib.hid (fun W (h : Below w.heap.size w W) => hT.below h)
  have HB := Lib.hid hb
  obtain ⟨m, hm, hand⟩ := and15 n
  obtain ⟨N, hN⟩ : ∃ N, N = 16 + m := ⟨_, rfl⟩
  have hsum : (16 : Int) + (m : Int) = (N : Int) := by omega
  have hNw : IntKind.i64.wrap (N : Int) = (N : Int) := i64w _ (by omega) (by omega)
  have HFR := Lib.hid (fun W => fresh08_any N (by omega) (by omega) W)
  have HNN := Lib.hid (show 16 ≤ N ∧ N ≤ 31 by omega)
  clear hb hT
  by_cases h200 : (200 : Int) < (b.length : Int)
  · generalize b.length = bn at *
    clear HB hN hm
    go_enter Tryd.func3, Tryd.ntmps3
    go_wp2_with (first
      | (go_at_call 14; refine (HFR.out _).mono ?_; rintro e w' ⟨bk, bd, bo, bm, rfl, H1⟩; replace H1 := H.join H1; rw [List.append_nil] at H1; clear H; have H := H1; clear H1)
      | (go_at_call 15; refine (alive08_any _ (HT.out _ H.below)).mono ?_; rintro e w' ⟨rfl, hb⟩; replace H := H.step hb; clear hb)
      | ((with_reducible refine gDst 46 ?_); refine aEmpty sPT H rfl rfl ?_; clear H; intro b46 w46 H)
      | ((with_reducible refine gDst 46 ?_); refine aEmpty sB H rfl rfl ?_; clear H; intro b46 w46 H)
      | ((with_reducible refine gDst 14 ?_); refine aAlloc H rfl rfl ?_; clear H; intro b14 w14 H)
      | ((with_reducible refine gLoad ?_); first | (refine aLoad H _ rfl rfl (by first | exact part_all (by first | rfl | simp []) | (simp only [List.drop_succ_cons, List.drop_zero, List.take_succ_cons, List.take_zero]; rfl) | (simp [List.drop_append, List.take_append]; rfl)) (by first | rfl | simp []) rfl ?_))
      | ((with_reducible refine gStore ?_); (first | (refine aStore H _ _ rfl rfl rfl (by (first | exact ⟨rfl, rfl⟩ | exact ⟨by decide, rfl⟩ | (simp []; done) | (constructor <;> simp [] <;> omega))) (by first | rfl | simp [List.all_append, one_all]) rfl ?_) | (refine aLay H _ _ rfl rfl rfl (by (first | exact ⟨rfl, rfl⟩ | exact ⟨by decide, rfl⟩ | (simp []; done) | (constructor <;> simp [] <;> omega))) (by first | rfl | simp [List.all_append, one_all]) (by simp only [lay, List.take_succ_cons, List.take_zero, List.drop_succ_cons, List.drop_zero, List.nil_append, List.cons_append, List.length_cons, List.length_nil, Nat.zero_add, Nat.reduceAdd]; rfl) rfl ?_)); clear H; intro w' H; try dsimp only at H)
      | (at_builtin; refine aAppB1 _ H _ _ rfl rfl rfl (by first | omega | (have := HCL.out; omega)) rfl ?_; clear H; intro v' w' ys HY H; (try dsimp only at H); obtain ⟨A', c', rfl, hc'⟩ := (H.hold.rr v').len))
    go_ret
    exact ⟨rfl, H.below⟩
  · have h200' : ((200 : Int) < (b.length : Int)) = False := eq_false h200
    by_cases hc1 : c < 1
    · generalize b.length = bn at *
      clear HB hN hm h200
      go_enter Tryd.func3, Tryd.ntmps3
      go_wp2_with (first
        | (go_at_call 14; refine (HFR.out _).mono ?_; rintro e w' ⟨bk, bd, bo, bm, rfl, H1⟩; replace H1 := H.join H1; rw [List.append_nil] at H1; clear H; have H := H1; clear H1)
        | (go_at_call 15; refine (alive08_any _ (HT.out _ H.below)).mono ?_; rintro e w' ⟨rfl, hb⟩; replace H := H.step hb; clear hb)
        | ((with_reducible refine gDst 46 ?_); refine aEmpty sPT H rfl rfl ?_; clear H; intro b46 w46 H)
        | ((with_reducible refine gDst 46 ?_); refine aEmpty sB H rfl rfl ?_; clear H; intro b46 w46 H)
        | ((with_reducible refine gDst 14 ?_); refine aAlloc H rfl rfl ?_; clear H; intro b14 w14 H)
        | ((with_reducible refine gLoad ?_); first | (refine aLoad H _ rfl rfl (by first | exact part_all (by first | rfl | simp []) | (simp only [List.drop_succ_cons, List.drop_zero, List.take_succ_cons, List.take_zero]; rfl) | (simp [List.drop_append, List.take_append]; rfl)) (by first | rfl | simp []) rfl ?_))
        | ((with_reducible refine gStore ?_); (first | (refine aStore H _ _ rfl rfl rfl (by (first | exact ⟨rfl, rfl⟩ | exact ⟨by decide, rfl⟩ | (simp []; done) | (constructor <;> simp [] <;> omega))) (by first | rfl | simp [List.all_append, one_all]) rfl ?_) | (refine aLay H _ _ rfl rfl rfl (by (first | exact ⟨rfl, rfl⟩ | exact ⟨by decide, rfl⟩ | (simp []; done) | (constructor <;> simp [] <;> omega))) (by first | rfl | simp [List.all_append, one_all]) (by simp only [lay, List.take_succ_cons, List.take_zero, List.drop_succ_cons, List.drop_zero, List.nil_append, List.cons_append, List.length_cons, List.length_nil, Nat.zero_add, Nat.reduceAdd]; rfl) rfl ?_)); clear H; intro w' H; try dsimp only at H)
        | (at_builtin; refine aAppB1 _ H _ _ rfl rfl rfl (by first | omega | (have := HCL.out; omega)) rfl ?_; clear H; intro v' w' ys HY H; (try dsimp only at H); obtain ⟨A', c', rfl, hc'⟩ := (H.hold.rr v').len))
      go_ret
      exact ⟨rfl, H.below⟩
    · have hc1' : (c < 1) = False := eq_false hc1
      by_cases hc2 : 2 < c
      · generalize b.length = bn at *
        clear HB hN hm h200 hc1
        go_enter Tryd.func3, Tryd.ntmps3
        go_wp2_with (first
          | (go_at_call 14; refine (HFR.out _).mono ?_; rintro e w' ⟨bk, bd, bo, bm, rfl, H1⟩; replace H1 := H.join H1; rw [List.append_nil] at H1; clear H; have H := H1; clear H1)
          | (go_at_call 15; refine (alive08_any _ (HT.out _ H.below)).mono ?_; rintro e w' ⟨rfl, hb⟩; replace H := H.step hb; clear hb)
          | ((with_reducible refine gDst 46 ?_); refine aEmpty sPT H rfl rfl ?_; clear H; intro b46 w46 H)
          | ((with_reducible refine gDst 46 ?_); refine aEmpty sB H rfl rfl ?_; clear H; intro b46 w46 H)
          | ((with_reducible refine gDst 14 ?_); refine aAlloc H rfl rfl ?_; clear H; intro b14 w14 H)
          | ((with_reducible refine gLoad ?_); first | (refine aLoad H _ rfl rfl (by first | exact part_all (by first | rfl | simp []) | (simp only [List.drop_succ_cons, List.drop_zero, List.take_succ_cons, List.take_zero]; rfl) | (simp [List.drop_append, List.take_append]; rfl)) (by first | rfl | simp []) rfl ?_))
          | ((with_reducible refine gStore ?_); (first | (refine aStore H _ _ rfl rfl rfl (by (first | exact ⟨rfl, rfl⟩ | exact ⟨by decide, rfl⟩ | (simp []; done) | (constructor <;> simp [] <;> omega))) (by first | rfl | simp [List.all_append, one_all]) rfl ?_) | (refine aLay H _ _ rfl rfl rfl (by (first | exact ⟨rfl, rfl⟩ | exact ⟨by decide, rfl⟩ | (simp []; done) | (constructor <;> simp [] <;> omega))) (by first | rfl | simp [List.all_append, one_all]) (by simp only [lay, List.take_succ_cons, List.take_zero, List.drop_succ_cons, List.drop_zero, List.nil_append, List.cons_append, List.length_cons, List.length_nil, Nat.zero_add, Nat.reduceAdd]; rfl) rfl ?_)); clear H; intro w' H; try dsimp only at H)
          | (at_builtin; refine aAppB1 _ H _ _ rfl rfl rfl (by first | omega | (have := HCL.out; omega)) rfl ?_; clear H; intro v' w' ys HY H; (try dsimp only at H); obtain ⟨A', c', rfl, hc'⟩ := (H.hold.rr v').len))
        go_ret
        exact ⟨rfl, H.below⟩
      · have hc2' : (2 < c) = False := eq_false hc2
        obtain ⟨k, rfl⟩ : ∃ k : Nat, c = (k : Int) := ⟨c.toNat, by omega⟩
        have hk : k = 1 ∨ k = 2 := by omega
        obtain ⟨R, hR⟩ : ∃ R, R = (N - 4) / k := ⟨_, rfl⟩
        have hRq : ((N : Int) - 4).tdiv (k : Int) = (R : Int) := by
          rw [Int.tdiv_eq_ediv_of_nonneg (by omega), hR]
          rw [show (N : Int) - 4 = ((N - 4 : Nat) : Int) by omega]
          exact (Int.natCast_ediv _ _).symm
        have hRle : R ≤ 27 := by rw [hR]; exact Nat.le_trans (Nat.div_le_self _ _) (by omega)
        have hRk : k * R ≤ N - 4 ∧ N - 4 < k * R + k := by
          rw [hR]
          refine ⟨Nat.mul_div_le _ _, ?_⟩
          have := Nat.lt_mul_div_succ (N - 4) (show 0 < k by omega)
          rw [Nat.mul_add, Nat.mul_one] at this
          exact this
        have HRK := Lib.hid hRk
        have hN4w : IntKind.i64.wrap ((N : Int) - 4) = (N : Int) - 4 := i64w _ (by omega) (by omega)
        have hRw : IntKind.i64.wrap (R : Int) = (R : Int) := i64w _ (by omega) (by omega)
        have hR2w : IntKind.i64.wrap ((R : Int) + 2) = (R : Int) + 2 := i64w _ (by omega) (by omega)
        have hk0 : ((k : Int) = 0) = False := eq_false (by omega)
        have hk0n : (k = 0) = False := eq_false (by omega)
        have hk0b : ((k : Int) == 0) = false := beq_eq_false_iff_ne.2 (by omega)
        have HK := Lib.hid hk
        have HBL := Lib.hid (show b.length ≤ 200 by omega)
        have hfresh := uN_fresh N (by omega)
        rw [hfresh] at HFR
        have HFR2 : Hid (∀ W, Calls Tryd.prog 14 #[.int .i64 (N : Int)] W fun e w' => ∃ bk bd bo bm, e = .returned (.tuple #[.pointer (some ⟨bk, 0, none⟩), .pointer (some ⟨bd, 0, none⟩)]) ∧ SH Nil W w' (bankL bk bd bo bm (.slice none 0 0) [] 7 (dF N k (wF b) 0) (uN N (4 + 0)))) := HFR
        clear HFR
        have HFR := HFR2
        clear HFR2 hN hm h200 hc1 hc2 hR hRk hk hfresh
        generalize hbn : b.length = bn at *
        have HBN := Lib.hid hbn
        have HBL2 := Lib.hid (show b.length ≤ 200 by rw [hbn]; exact HBL.out)
        clear hbn HBL
        go_enter Tryd.func3, Tryd.ntmps3
        go_wp2_with (first
          | (go_at_call 14; refine (HFR.out _).mono ?_; rintro e w' ⟨bk, bd, bo, bm, rfl, H1⟩; replace H1 := H.join H1; rw [List.append_nil] at H1; clear H; have H := H1; clear H1)
          | (go_at_call 15; refine (alive08_any _ (HT.out _ H.below)).mono ?_; rintro e w' ⟨rfl, hb⟩; replace H := H.step hb; clear hb)
          | ((with_reducible refine gDst 46 ?_); refine aEmpty sPT H rfl rfl ?_; clear H; intro b46 w46 H)
          | ((with_reducible refine gDst 46 ?_); refine aEmpty sB H rfl rfl ?_; clear H; intro b46 w46 H)
          | ((with_reducible refine gDst 14 ?_); refine aAlloc H rfl rfl ?_; clear H; intro b14 w14 H)
          | ((with_reducible refine gLoad ?_); first | (refine aLoad H _ rfl rfl (by first | exact part_all (by first | rfl | simp []) | (simp only [List.drop_succ_cons, List.drop_zero, List.take_succ_cons, List.take_zero]; rfl) | (simp [List.drop_append, List.take_append]; rfl)) (by first | rfl | simp []) rfl ?_))
          | ((with_reducible refine gStore ?_); (first | (refine aStore H _ _ rfl rfl rfl (by (first | exact ⟨rfl, rfl⟩ | exact ⟨by decide, rfl⟩ | (simp []; done) | (constructor <;> simp [] <;> omega))) (by first | rfl | simp [List.all_append, one_all]) rfl ?_) | (refine aLay H _ _ rfl rfl rfl (by (first | exact ⟨rfl, rfl⟩ | exact ⟨by decide, rfl⟩ | (simp []; done) | (constructor <;> simp [] <;> omega))) (by first | rfl | simp [List.all_append, one_all]) (by simp only [lay, List.take_succ_cons, List.take_zero, List.drop_succ_cons, List.drop_zero, List.nil_append, List.cons_append, List.length_cons, List.length_nil, Nat.zero_add, Nat.reduceAdd]; rfl) rfl ?_)); clear H; intro w' H; try dsimp only at H)
          | (at_builtin; refine aAppB1 _ H _ _ rfl rfl rfl (by first | omega | (have := HCL.out; omega)) rfl ?_; clear H; intro v' w' ys HY H; (try dsimp only at H); obtain ⟨A', c', rfl, hc'⟩ := (H.hold.rr v').len))
        have H2 := H
        clear H
        go_loopw [11, 12] (fun v11 v12 wr => ∃ (i j : Nat) (A : Option Addr) (cp : Nat) (vw : Value) (ss : List SVV), v12 = .int .i64 (i : Int) ∧ i ≤ R + 2 ∧ Hid (j = min i R) ∧ v11 = .slice A j cp ∧ SH Nil w wr (.row PTT (.slice A j cp) (pL k (wF b) j) :: bankL bk bd bo bm vw ss 7 (dF N k (wF b) (k * j)) (uN N (4 + k * j)))) (fun _ v _ => R + 2 - (intOf v).toNat)
        case atStart => exact ⟨0, 0, _, _, _, _, rfl, by omega, Lib.hid (by omega), rfl, H2⟩
        case round =>
          obtain ⟨i, j, A, cp, vw, ss, rfl, hi, HJ, rfl, HS⟩ := hrel
          clear H2
          have H := HS
          clear HS
          by_cases hiR : i < R + 2
          · have hii : (i : Int) < (R : Int) + 2 := by omega
            have hx := u8w i
            have HOL := Lib.hid (show (UInt8.ofNat i :: b).length ≤ 100000 by have := HBL2.out; rw [List.length_cons]; omega)
            have HWH := Lib.hid (fun v W (h : RB W v (UInt8.ofNat i :: b)) => whole_any v _ W h HOL.out)
            rw [show wholeL (UInt8.ofNat i :: b) = wF b i from rfl, wF_len b HBL2.out i] at HWH
            have HXA := Lib.hid (show ([UInt8.ofNat i] : List UInt8).length ≤ 1000000000 ∧ b.length ≤ 1000000000 from ⟨by simp, by have := HBL2.out; omega⟩)
            by_cases hlt : i < R
            · obtain rfl : i = j := by rw [HJ.out]; omega
              have hlti : (i : Int) < (R : Int) := by omega
              have hkj : k * i + k ≤ k * R := by rw [← Nat.mul_succ]; exact Nat.mul_le_mul_left k hlt
              have hrk := HRK.out
              have hnn := HNN.out
              have hpf := putF N k HK.out (wF b) (wF_len b HBL2.out) i (by rw [Nat.mul_add, Nat.mul_one]; omega)
              have hput := fun bk bd bo bm vw ss vb W q1 q2 q3 => bPut_any (bk := bk) (bd := bd) (bo := bo) (bm := bm) (vw := vw) (ss := ss) (t := 7) vb (wF b i) (k : Int) (okF N k (wF b) (wF_len b HBL2.out) (k * i) (by omega) (by omega) (by omega)) (by rw [wsF]; omega) (by omega) W q1 q2 q3
              rw [hpf] at hput
              have HMM := Lib.hid (show ((pL k (wF b) i).length + 1) * sPT.bytes ≤ 140737488355328 by rw [show sPT.bytes = 44 from rfl, pL_len]; omega)
              have hp : pJ (wF b i) 7 ((List.range k).map (4 + k * i + ·)) k = pF k (wF b) i := rfl
              rw [hp] at hput
              have HPUT := Lib.hid hput
              have HPS := Lib.hid (pL_snoc k (wF b) i)
              have HPLL := Lib.hid (pL_len k (wF b) (i + 1))
              obtain ⟨sj, hsj⟩ : ∃ x, x = dF N k (wF b) (k * i) := ⟨_, rfl⟩
              obtain ⟨uj, huj⟩ : ∃ x, x = uN N (4 + k * i) := ⟨_, rfl⟩
              rw [← hsj, ← huj] at H HPUT
              clear hput hpf hp hkj hrk hnn hsj huj
              generalize pF k (wF b) i = p at *
              have HPL := Lib.hid p.len
              have HPO := Lib.hid (List.all_eq_true.2 p.one)
              go_wp2_with (first
                | ((with_reducible refine gDst 55 ?_); refine aSlitB (UInt8.ofNat i) H _ rfl rfl rfl ?_; clear H; intro b55 w55 H)
                | ((with_reducible refine gDst 57 ?_); refine aAppBs H _ _ rfl rfl rfl (HB.out.below H.below) HXA.out rfl ?_; clear H; intro v57 w57 zs hz H; (try dsimp only at H); rw [hz.out] at H; clear hz)
                | (go_at_call 17; refine (HWH.out _ _ (H.hold.rr v57)).mono ?_; rintro e w' ⟨A61, c61, rfl, ho, hb⟩; replace H := H.pushRow hb ho; clear hb ho)
                | (go_at_call 16; have q := HPUT.out bk bd bo bm vw ss (.slice A61 256 c61) _ (H.subS (D := bankL bk bd bo bm vw ss 7 sj uj)) (fun w' hc => HT.out _ (H.chgS (D := bankL bk bd bo bm vw ss 7 sj uj) hc).below) (fun w' hc => OR.reads (H.keepHd (D := bankL bk bd bo bm vw ss 7 sj uj) hc)); refine q.mono ?_; clear q; rintro e w' ⟨rfl, vw1, ss1, kk⟩; replace H := H.viaS kk; (try dsimp only at H); clear kk)
                | ((with_reducible refine gSto (.tmp 14) (.tmp 64) ?_); refine aStore H _ _ rfl rfl rfl ⟨by rfl, HPL.out⟩ HPO.out rfl ?_; clear H; intro w' H; (try dsimp only at H))
                | ((with_reducible refine gDst 83 ?_); refine aLoad H _ rfl rfl (part_all HPL.out) HPL.out rfl ?_)
                | ((with_reducible refine gDst 84 ?_); refine stepV (xSlit1 sPT _ rfl _ rfl HPL.out (by decide)) rfl ?_)
                | ((with_reducible refine gDst 85 ?_); refine aAppLit sPT [p] _ (pF_one _) (by simp) 1 rfl H _ _ rfl rfl rfl HMM.out rfl ?_; clear H; intro v1 w1 zs hz H; (try dsimp only at H))
                | ((with_reducible refine gDst 46 ?_); refine aEmpty sB H rfl rfl ?_; clear H; intro b46 w46 H)
                | ((with_reducible refine gDst 14 ?_); refine aAlloc H rfl rfl ?_; clear H; intro b14 w14 H)
                | ((with_reducible refine gLoad ?_); first | (refine aLoad H _ rfl rfl (by first | exact part_all (by first | rfl | simp []) | (simp only [List.drop_succ_cons, List.drop_zero, List.take_succ_cons, List.take_zero]; rfl) | (simp [List.drop_append, List.take_append]; rfl)) (by first | rfl | simp []) rfl ?_))
                | ((with_reducible refine gStore ?_); (first | (refine aStore H _ _ rfl rfl rfl (by (first | exact ⟨rfl, rfl⟩ | exact ⟨by decide, rfl⟩ | (simp []; done) | (constructor <;> simp [] <;> omega))) (by first | rfl | simp [List.all_append, one_all]) rfl ?_) | (refine aLay H _ _ rfl rfl rfl (by (first | exact ⟨rfl, rfl⟩ | exact ⟨by decide, rfl⟩ | (simp []; done) | (constructor <;> simp [] <;> omega))) (by first | rfl | simp [List.all_append, one_all]) (by simp only [lay, List.take_succ_cons, List.take_zero, List.drop_succ_cons, List.drop_zero, List.nil_append, List.cons_append, List.length_cons, List.length_nil, Nat.zero_add, Nat.reduceAdd]; rfl) rfl ?_)); clear H; intro w' H; try dsimp only at H)
                | (at_builtin; refine aAppB1 _ H _ _ rfl rfl rfl (by first | omega | (have := HCL.out; omega)) rfl ?_; clear H; intro v' w' ys HY H; (try dsimp only at H); obtain ⟨A', c', rfl, hc'⟩ := (H.hold.rr v').len))
              rw [hz.out, HPS.out] at H
              obtain ⟨A', c', rfl, -⟩ := (H.hold.rr v1).len
              rw [HPLL.out] at H ⊢
              exact ⟨⟨i + 1, i + 1, A', c', vw1, ss1, by go_num, by omega, Lib.hid (by omega), rfl, H.tail.tail.tail⟩, by simp [intOf] <;> omega⟩
            · obtain rfl : R = j := by rw [HJ.out]; omega
              have hge : ((i : Int) < (R : Int)) = False := eq_false (by omega)
              have hrk := HRK.out
              have hnn := HNN.out
              have hpf := putFull N k HK.out (wF b) (wF b i) (wF_len b HBL2.out i) (k * R) (by omega) (by omega)
              have hput := fun bk bd bo bm vw ss vb W q1 q2 q3 => bPut_any (bk := bk) (bd := bd) (bo := bo) (bm := bm) (vw := vw) (ss := ss) (t := 7) vb (wF b i) (k : Int) (okF N k (wF b) (wF_len b HBL2.out) (k * R) (by omega) (by omega) (by omega)) (by rw [wsF]; omega) (by omega) W q1 q2 q3
              rw [hpf] at hput
              have HPUT := Lib.hid hput
              obtain ⟨sj, hsj⟩ : ∃ x, x = dF N k (wF b) (k * R) := ⟨_, rfl⟩
              obtain ⟨uj, huj⟩ : ∃ x, x = uN N (4 + k * R) := ⟨_, rfl⟩
              rw [← hsj, ← huj] at H HPUT
              have HSJ := Lib.hid hsj
              have HUJ := Lib.hid huj
              clear hput hpf hrk hnn hsj huj
              obtain ⟨p, hp⟩ : ∃ p, p = PT.hole := ⟨_, rfl⟩
              rw [← hp] at HPUT
              clear hp
              have HMM : True := trivial
              have HPL := Lib.hid p.len
              have HPO := Lib.hid (List.all_eq_true.2 p.one)
              go_wp2_with (first
                | ((with_reducible refine gDst 55 ?_); refine aSlitB (UInt8.ofNat i) H _ rfl rfl rfl ?_; clear H; intro b55 w55 H)
                | ((with_reducible refine gDst 57 ?_); refine aAppBs H _ _ rfl rfl rfl (HB.out.below H.below) HXA.out rfl ?_; clear H; intro v57 w57 zs hz H; (try dsimp only at H); rw [hz.out] at H; clear hz)
                | (go_at_call 17; refine (HWH.out _ _ (H.hold.rr v57)).mono ?_; rintro e w' ⟨A61, c61, rfl, ho, hb⟩; replace H := H.pushRow hb ho; clear hb ho)
                | (go_at_call 16; have q := HPUT.out bk bd bo bm vw ss (.slice A61 256 c61) _ (H.subS (D := bankL bk bd bo bm vw ss 7 sj uj)) (fun w' hc => HT.out _ (H.chgS (D := bankL bk bd bo bm vw ss 7 sj uj) hc).below) (fun w' hc => OR.reads (H.keepHd (D := bankL bk bd bo bm vw ss 7 sj uj) hc)); refine q.mono ?_; clear q; rintro e w' ⟨rfl, vw1, ss1, kk⟩; replace H := H.viaS kk; (try dsimp only at H); clear kk)
                | ((with_reducible refine gSto (.tmp 14) (.tmp 64) ?_); refine aStore H _ _ rfl rfl rfl ⟨by rfl, HPL.out⟩ HPO.out rfl ?_; clear H; intro w' H; (try dsimp only at H))
                | ((with_reducible refine gDst 83 ?_); refine aLoad H _ rfl rfl (part_all HPL.out) HPL.out rfl ?_)
                | ((with_reducible refine gDst 84 ?_); refine stepV (xSlit1 sPT _ rfl _ rfl HPL.out (by decide)) rfl ?_)
                | ((with_reducible refine gDst 85 ?_); refine aAppLit sPT [p] _ (pF_one _) (by simp) 1 rfl H _ _ rfl rfl rfl HMM.out rfl ?_; clear H; intro v1 w1 zs hz H; (try dsimp only at H))
                | ((with_reducible refine gDst 46 ?_); refine aEmpty sB H rfl rfl ?_; clear H; intro b46 w46 H)
                | ((with_reducible refine gDst 14 ?_); refine aAlloc H rfl rfl ?_; clear H; intro b14 w14 H)
                | ((with_reducible refine gLoad ?_); first | (refine aLoad H _ rfl rfl (by first | exact part_all (by first | rfl | simp []) | (simp only [List.drop_succ_cons, List.drop_zero, List.take_succ_cons, List.take_zero]; rfl) | (simp [List.drop_append, List.take_append]; rfl)) (by first | rfl | simp []) rfl ?_))
                | ((with_reducible refine gStore ?_); (first | (refine aStore H _ _ rfl rfl rfl (by (first | exact ⟨rfl, rfl⟩ | exact ⟨by decide, rfl⟩ | (simp []; done) | (constructor <;> simp [] <;> omega))) (by first | rfl | simp [List.all_append, one_all]) rfl ?_) | (refine aLay H _ _ rfl rfl rfl (by (first | exact ⟨rfl, rfl⟩ | exact ⟨by decide, rfl⟩ | (simp []; done) | (constructor <;> simp [] <;> omega))) (by first | rfl | simp [List.all_append, one_all]) (by simp only [lay, List.take_succ_cons, List.take_zero, List.drop_succ_cons, List.drop_zero, List.nil_append, List.cons_append, List.length_cons, List.length_nil, Nat.zero_add, Nat.reduceAdd]; rfl) rfl ?_)); clear H; intro w' H; try dsimp only at H)
                | (at_builtin; refine aAppB1 _ H _ _ rfl rfl rfl (by first | omega | (have := HCL.out; omega)) rfl ?_; clear H; intro v' w' ys HY H; (try dsimp only at H); obtain ⟨A', c', rfl, hc'⟩ := (H.hold.rr v').len))
              go_roundw
              case rel => exact ⟨i + 1, R, A, cp, vw1, ss1, by go_num, by omega, Lib.hid (by omega), rfl, by rw [HSJ.out, HUJ.out] at H; exact H.tail.tail.tail⟩
              case measure => simp [intOf] <;> omega
          · obtain rfl : i = R + 2 := by omega
            obtain rfl : R = j := by rw [HJ.out]; omega
            clear hi
            go_wp2_with (first
              | ((with_reducible refine gDst 46 ?_); refine aEmpty sB H rfl rfl ?_; clear H; intro b46 w46 H)
              | ((with_reducible refine gDst 14 ?_); refine aAlloc H rfl rfl ?_; clear H; intro b14 w14 H)
              | ((with_reducible refine gLoad ?_); first | (refine aLoad H _ rfl rfl (by first | exact part_all (by first | rfl | simp []) | (simp only [List.drop_succ_cons, List.drop_zero, List.take_succ_cons, List.take_zero]; rfl) | (simp [List.drop_append, List.take_append]; rfl)) (by first | rfl | simp []) rfl ?_))
              | ((with_reducible refine gStore ?_); (first | (refine aStore H _ _ rfl rfl rfl (by (first | exact ⟨rfl, rfl⟩ | exact ⟨by decide, rfl⟩ | (simp []; done) | (constructor <;> simp [] <;> omega))) (by first | rfl | simp [List.all_append, one_all]) rfl ?_) | (refine aLay H _ _ rfl rfl rfl (by (first | exact ⟨rfl, rfl⟩ | exact ⟨by decide, rfl⟩ | (simp []; done) | (constructor <;> simp [] <;> omega))) (by first | rfl | simp [List.all_append, one_all]) (by simp only [lay, List.take_succ_cons, List.take_zero, List.drop_succ_cons, List.drop_zero, List.nil_append, List.cons_append, List.length_cons, List.length_nil, Nat.zero_add, Nat.reduceAdd]; rfl) rfl ?_)); clear H; intro w' H; try dsimp only at H)
              | (at_builtin; refine aAppB1 _ H _ _ rfl rfl rfl (by first | omega | (have := HCL.out; omega)) rfl ?_; clear H; intro v' w' ys HY H; (try dsimp only at H); obtain ⟨A', c', rfl, hc'⟩ := (H.hold.rr v').len))
            have H2 := H
            clear H
            go_loopw [16] (fun v16 wr => ∃ i : Nat, v16 = .int .i64 (i : Int) ∧ i ≤ R ∧ SH Nil w wr (.row PTT (.slice A R cp) (pL k (wF b) R) :: bankL bk bd bo bm vw ss 7 (dF N k (wF b) (k * R)) (uN N (4 + k * R)))) (fun v _ => R - (intOf v).toNat)
            case atStart => exact ⟨0, rfl, by omega, H2⟩
            case round =>
              obtain ⟨i, rfl, hi, HS⟩ := hrel
              clear H2
              have H := HS
              clear HS
              by_cases hiR : i < R
              · have hii : (i : Int) < (R : Int) := by omega
                have hx := u8w i
                have HOL := Lib.hid (show (UInt8.ofNat i :: b).length ≤ 100000 by have := HBL2.out; rw [List.length_cons]; omega)
                have HWH := Lib.hid (fun v W (h : RB W v (UInt8.ofNat i :: b)) => whole_any v _ W h HOL.out)
                rw [show wholeL (UInt8.ofNat i :: b) = wF b i from rfl, wF_len b HBL2.out i] at HWH
                have HXA := Lib.hid (show ([UInt8.ofNat i] : List UInt8).length ≤ 1000000000 ∧ b.length ≤ 1000000000 from ⟨by simp, by have := HBL2.out; omega⟩)
                have hrk := HRK.out
                have hnn := HNN.out
                have hki : k * i < k * R := Nat.mul_lt_mul_of_pos_left hiR (by have := HK.out; omega)
                obtain ⟨r1, r2⟩ := readF N k HK.out (wF b) (k * R) i (by omega) (by omega) hki
                have hrd := fun vw ss W q => bRead_any (bk := bk) (bd := bd) (bo := bo) (bm := bm) (vw := vw) (ss := ss) (t := 7) (pF k (wF b) i) (okF N k (wF b) (wF_len b HBL2.out) (k * R) (by omega) (by omega) (by omega)) W q
                rw [uN_len N _ (by omega), r1, r2] at hrd
                have hwl := wF_len b HBL2.out i
                have HRD : Hid (∀ W, HOLD (bankL bk bd bo bm vw ss 7 (dF N k (wF b) (k * R)) (uN N (4 + k * R))) W → Calls Tryd.prog 18 #[.pointer (some ⟨bk, 0, none⟩), .agg (pF k (wF b) i).cells.toArray] W fun e w' => ∃ A c, e = .returned (.tuple #[.slice A 256 c, .int .i64 0]) ∧ OB w' W.heap.size (.slice A 256 c) (wF b i) ∧ Below W.heap.size W w') := Lib.hid fun W q => (hrd vw ss W q).mono fun e w' ⟨v, h1, h2, _, h3⟩ => by
                  obtain ⟨A, c, rfl, -⟩ := (h2 rfl).reads.len
                  rw [hwl] at h1 h2
                  exact ⟨A, c, h1, h2 rfl, h3⟩
                obtain ⟨ad, rfl, hcel⟩ := (H.hold.rr (.slice A R cp)).at_ i (by rw [pL_len]; exact hiR)
                have hel : ∀ (h : i < (pL k (wF b) R).length), (pL k (wF b) R)[i] = pF k (wF b) i := fun h => by
                  have h2 : (pL k (wF b) R)[i]? = some (pF k (wF b) i) := by rw [pL, List.getElem?_map, List.getElem?_range hiR]; rfl
                  rw [List.getElem?_eq_getElem h] at h2
                  exact Option.some.inj h2
                rw [hel] at hcel
                have HCELL : Hid (∀ W, RR PTT W (.slice (some ad) R cp) (pL k (wF b) R) → ∀ (j : Nat) (u : Value), (pF k (wF b) i).cells[j]? = some u → W.cell? ((ad.add (i * 35)).add j) = some u) := Lib.hid fun W q j u hu => by
                  obtain ⟨ad2, e2, hc2⟩ := q.at_ i (by rw [pL_len]; exact hiR)
                  injection e2 with e2
                  subst e2
                  rw [hel] at hc2
                  have := hc2 j u hu
                  rw [Addr.add_add]
                  exact this
                clear hrd hcel hel r1 r2 hki hrk hnn hwl
                generalize pF k (wF b) i = p at *
                have HPL := Lib.hid p.len
                go_wp2_with (first
                  | ((with_reducible refine gDst 94 ?_); refine aSlitB (UInt8.ofNat i) H _ rfl rfl rfl ?_; clear H; intro b94 w94 H)
                  | ((with_reducible refine gDst 96 ?_); refine aAppBs H _ _ rfl rfl rfl (HB.out.below H.below) HXA.out rfl ?_; clear H; intro v96 w96 zs hz H; (try dsimp only at H); rw [hz.out] at H; clear hz)
                  | ((with_reducible refine gDst 102 ?_); refine stepV (exec_loadA 33 _ rfl (ad.add (i * 35)) rfl p.cells _ (fun j u hu => HCELL.out _ (H.hold.rr (.slice (some ad) R cp)) j u hu) Tryd.underlying33 rfl (PT.info p)) rfl ?_)
                  | (go_at_call 18; refine (HRD.out _ (HOLD.suf (D := bankL bk bd bo bm vw ss 7 (dF N k (wF b) (k * R)) (uN N (4 + k * R))) H.hold)).mono ?_; rintro e w' ⟨A9, c9, rfl, ho, hb⟩; replace H := H.pushRow hb ho; clear hb ho)
                  | ((with_reducible refine gDst 46 ?_); refine aEmpty sB H rfl rfl ?_; clear H; intro b46 w46 H)
                  | ((with_reducible refine gDst 14 ?_); refine aAlloc H rfl rfl ?_; clear H; intro b14 w14 H)
                  | ((with_reducible refine gLoad ?_); first | (refine aLoad H _ rfl rfl (by first | exact part_all (by first | rfl | simp []) | (simp only [List.drop_succ_cons, List.drop_zero, List.take_succ_cons, List.take_zero]; rfl) | (simp [List.drop_append, List.take_append]; rfl)) (by first | rfl | simp []) rfl ?_))
                  | ((with_reducible refine gStore ?_); (first | (refine aStore H _ _ rfl rfl rfl (by (first | exact ⟨rfl, rfl⟩ | exact ⟨by decide, rfl⟩ | (simp []; done) | (constructor <;> simp [] <;> omega))) (by first | rfl | simp [List.all_append, one_all]) rfl ?_) | (refine aLay H _ _ rfl rfl rfl (by (first | exact ⟨rfl, rfl⟩ | exact ⟨by decide, rfl⟩ | (simp []; done) | (constructor <;> simp [] <;> omega))) (by first | rfl | simp [List.all_append, one_all]) (by simp only [lay, List.take_succ_cons, List.take_zero, List.drop_succ_cons, List.drop_zero, List.nil_append, List.cons_append, List.length_cons, List.length_nil, Nat.zero_add, Nat.reduceAdd]; rfl) rfl ?_)); clear H; intro w' H; try dsimp only at H)
                  | (at_builtin; refine aAppB1 _ H _ _ rfl rfl rfl (by first | omega | (have := HCL.out; omega)) rfl ?_; clear H; intro v' w' ys HY H; (try dsimp only at H); obtain ⟨A', c', rfl, hc'⟩ := (H.hold.rr v').len))
                refine startA (fun i => false) (by kernel_rfl) (fun wS hS => ?_)
                replace H := H.drew
                rw [← hS] at H
                have HH := H.hold
                have HS0 : Below wS.heap.size wS wS := Below.refl _ _
                clear hS
                refine takeP 0 rfl (by kernel_rfl) (by kernel_rfl) (by kernel_rfl) (by kernel_rfl) (fun _ _ _ h => h) rfl (v := ?_) ?_ ?_
                rotate_left
                · intro w'; go_simp; (try with_reducible rfl)
                (try simp only [Act.put, List.setIfInBounds_toArray, List.set_cons_zero, List.set_cons_succ])
                refine takeP 1 rfl (by kernel_rfl) (by kernel_rfl) (by kernel_rfl) (by kernel_rfl) (fun _ _ _ h => h) rfl (v := ?_) ?_ ?_
                rotate_left
                · intro w'; go_simp; (try with_reducible rfl)
                (try simp only [Act.put, List.setIfInBounds_toArray, List.set_cons_zero, List.set_cons_succ])
                refine takeP 2 rfl (by kernel_rfl) (by kernel_rfl) (by kernel_rfl) (by kernel_rfl) (fun _ _ _ h => h) rfl (v := ?_) ?_ ?_
                rotate_left
                · intro w'; go_simp; (try with_reducible rfl)
                (try simp only [Act.put, List.setIfInBounds_toArray, List.set_cons_zero, List.set_cons_succ])
                refine takeP 3 rfl (by kernel_rfl) (by kernel_rfl) (by kernel_rfl) (by kernel_rfl) (fun _ _ _ h => h) rfl (v := ?_) ?_ ?_
                rotate_left
                · intro w'; go_simp; (try with_reducible rfl)
                (try simp only [Act.put, List.setIfInBounds_toArray, List.set_cons_zero, List.set_cons_succ])
                refine takeP 5 rfl (by kernel_rfl) (by kernel_rfl) (by kernel_rfl) (by kernel_rfl) (fun _ _ _ h => h) rfl (v := ?_) ?_ ?_
                rotate_left
                · intro w'; go_simp; (try with_reducible rfl)
                (try simp only [Act.put, List.setIfInBounds_toArray, List.set_cons_zero, List.set_cons_succ])
                refine stepL2 4 6 rfl rfl (by kernel_rfl) rfl rfl (fun K hK => ?ord23_1_t_4) (fun K hK => ?ord23_1_t_6)
                case' ord23_1_t_4 =>
                  (refine opV (xStr _ rfl rfl H.hold) ?_; refine hK.out _ _ (fun _ _ => HS0) ?_; clear K hK)
                  (try simp only [Act.put, List.setIfInBounds_toArray, List.set_cons_zero, List.set_cons_succ])
                  refine stepL 6 rfl (by kernel_rfl) rfl (fun K hK => ?_)
                  (go_simp; (with_reducible refine ((HWH.out _ _ (H.hold.rr v96))).mono ?_); rintro e w' ⟨A112, c112, rfl, ho, hb⟩; replace H := H.pushRow hb ho; clear ho; replace HS0 := below_two HS0 HS0.size hb; clear hb; refine hK.out _ _ (fun _ _ => HS0) ?_; clear K hK)
                  (try simp only [Act.put, List.setIfInBounds_toArray, List.set_cons_zero, List.set_cons_succ])
                  refine stepL 7 rfl (by kernel_rfl) rfl (fun K hK => ?_)
                  (refine opV (xStr _ rfl rfl H.hold) ?_; refine hK.out _ _ (fun _ _ => HS0) ?_; clear K hK)
                  (try simp only [Act.put, List.setIfInBounds_toArray, List.set_cons_zero, List.set_cons_succ])
                  refine takeP 8 rfl (by kernel_rfl) (by kernel_rfl) (by kernel_rfl) (by kernel_rfl) (fun _ _ _ h => h) rfl (v := ?_) ?_ ?_
                  rotate_left
                  · intro w'; go_simp; (try with_reducible rfl)
                  (try simp only [Act.put, List.setIfInBounds_toArray, List.set_cons_zero, List.set_cons_succ])
                  refine takeP 9 rfl (by kernel_rfl) (by kernel_rfl) (by kernel_rfl) (by kernel_rfl) (fun _ _ _ h => h) rfl (v := ?_) ?_ ?_
                  rotate_left
                  · intro w'; go_simp; (try with_reducible rfl)
                  (try simp only [Act.put, List.setIfInBounds_toArray, List.set_cons_zero, List.set_cons_succ])
                  refine doneL (by kernel_rfl) ?_
                case' ord23_1_t_6 =>
                  (go_simp; (with_reducible refine ((HWH.out _ _ (H.hold.rr v96))).mono ?_); rintro e w' ⟨A112, c112, rfl, ho, hb⟩; replace H := H.pushRow hb ho; clear ho; replace HS0 := below_two HS0 HS0.size hb; clear hb; refine hK.out _ _ (fun _ _ => HS0) ?_; clear K hK)
                  (try simp only [Act.put, List.setIfInBounds_toArray, List.set_cons_zero, List.set_cons_succ])
                  refine stepL2 4 7 rfl rfl (by kernel_rfl) rfl rfl (fun K hK => ?ord23_2_t_4) (fun K hK => ?ord23_2_t_7)
                  case' ord23_2_t_4 =>
                    (refine opV (xStr _ rfl rfl H.hold) ?_; refine hK.out _ _ (fun _ _ => HS0) ?_; clear K hK)
                    (try simp only [Act.put, List.setIfInBounds_toArray, List.set_cons_zero, List.set_cons_succ])
                    refine stepL 7 rfl (by kernel_rfl) rfl (fun K hK => ?_)
                    (refine opV (xStr _ rfl rfl H.hold) ?_; refine hK.out _ _ (fun _ _ => HS0) ?_; clear K hK)
                    (try simp only [Act.put, List.setIfInBounds_toArray, List.set_cons_zero, List.set_cons_succ])
                    refine takeP 8 rfl (by kernel_rfl) (by kernel_rfl) (by kernel_rfl) (by kernel_rfl) (fun _ _ _ h => h) rfl (v := ?_) ?_ ?_
                    rotate_left
                    · intro w'; go_simp; (try with_reducible rfl)
                    (try simp only [Act.put, List.setIfInBounds_toArray, List.set_cons_zero, List.set_cons_succ])
                    refine takeP 9 rfl (by kernel_rfl) (by kernel_rfl) (by kernel_rfl) (by kernel_rfl) (fun _ _ _ h => h) rfl (v := ?_) ?_ ?_
                    rotate_left
                    · intro w'; go_simp; (try with_reducible rfl)
                    (try simp only [Act.put, List.setIfInBounds_toArray, List.set_cons_zero, List.set_cons_succ])
                    refine doneL (by kernel_rfl) ?_
                  case' ord23_2_t_7 =>
                    (refine opV (xStr _ rfl rfl H.hold) ?_; refine hK.out _ _ (fun _ _ => HS0) ?_; clear K hK)
                    (try simp only [Act.put, List.setIfInBounds_toArray, List.set_cons_zero, List.set_cons_succ])
                    refine stepL 4 rfl (by kernel_rfl) rfl (fun K hK => ?_)
                    (refine opV (xStr _ rfl rfl H.hold) ?_; refine hK.out _ _ (fun _ _ => HS0) ?_; clear K hK)
                    (try simp only [Act.put, List.setIfInBounds_toArray, List.set_cons_zero, List.set_cons_succ])
                    refine takeP 8 rfl (by kernel_rfl) (by kernel_rfl) (by kernel_rfl) (by kernel_rfl) (fun _ _ _ h => h) rfl (v := ?_) ?_ ?_
                    rotate_left
                    · intro w'; go_simp; (try with_reducible rfl)
                    (try simp only [Act.put, List.setIfInBounds_toArray, List.set_cons_zero, List.set_cons_succ])
                    refine takeP 9 rfl (by kernel_rfl) (by kernel_rfl) (by kernel_rfl) (by kernel_rfl) (fun _ _ _ h => h) rfl (v := ?_) ?_ ?_
                    rotate_left
                    · intro w'; go_simp; (try with_reducible rfl)
                    (try simp only [Act.put, List.setIfInBounds_toArray, List.set_cons_zero, List.set_cons_succ])
                    refine doneL (by kernel_rfl) ?_
                all_goals
                  go_wp2_with (first
                    | ((with_reducible refine gDst 46 ?_); refine aEmpty sB H rfl rfl ?_; clear H; intro b46 w46 H)
                    | ((with_reducible refine gDst 14 ?_); refine aAlloc H rfl rfl ?_; clear H; intro b14 w14 H)
                    | ((with_reducible refine gLoad ?_); first | (refine aLoad H _ rfl rfl (by first | exact part_all (by first | rfl | simp []) | (simp only [List.drop_succ_cons, List.drop_zero, List.take_succ_cons, List.take_zero]; rfl) | (simp [List.drop_append, List.take_append]; rfl)) (by first | rfl | simp []) rfl ?_))
                    | ((with_reducible refine gStore ?_); (first | (refine aStore H _ _ rfl rfl rfl (by (first | exact ⟨rfl, rfl⟩ | exact ⟨by decide, rfl⟩ | (simp []; done) | (constructor <;> simp [] <;> omega))) (by first | rfl | simp [List.all_append, one_all]) rfl ?_) | (refine aLay H _ _ rfl rfl rfl (by (first | exact ⟨rfl, rfl⟩ | exact ⟨by decide, rfl⟩ | (simp []; done) | (constructor <;> simp [] <;> omega))) (by first | rfl | simp [List.all_append, one_all]) (by simp only [lay, List.take_succ_cons, List.take_zero, List.drop_succ_cons, List.drop_zero, List.nil_append, List.cons_append, List.length_cons, List.length_nil, Nat.zero_add, Nat.reduceAdd]; rfl) rfl ?_)); clear H; intro w' H; try dsimp only at H)
                    | (at_builtin; refine aAppB1 _ H _ _ rfl rfl rfl (by first | omega | (have := HCL.out; omega)) rfl ?_; clear H; intro v' w' ys HY H; (try dsimp only at H); obtain ⟨A', c', rfl, hc'⟩ := (H.hold.rr v').len))
                  have H3 := H.tail.tail.tail
                  go_roundw
                  case rel => first | exact ⟨i + 1, by go_num, by omega, H3⟩ | exact ⟨_, ⟨i + 1, by go_num, by omega, H3⟩, rfl⟩ | exact ⟨_, _, ⟨i + 1, by go_num, by omega, H3⟩, rfl, rfl⟩ | exact ⟨_, _, _, ⟨i + 1, by go_num, by omega, H3⟩, rfl, rfl, rfl⟩ | exact ⟨_, _, _, _, ⟨i + 1, by go_num, by omega, H3⟩, rfl, rfl, rfl, rfl⟩ | exact ⟨_, _, _, _, _, ⟨i + 1, by go_num, by omega, H3⟩, rfl, rfl, rfl, rfl, rfl⟩ | ((repeat (apply Exists.intro)); exact ⟨⟨i + 1, by go_num, by omega, H3⟩, rfl⟩)
                  case measure => simp [intOf] <;> omega
              · obtain rfl : R = i := by omega
                go_wp2_with (first
                  | (go_at_call 15; refine (alive08_any _ (HT.out _ H.below)).mono ?_; rintro e w' ⟨rfl, hb⟩; replace H := H.step hb; clear hb)
                  | ((with_reducible refine gDst 46 ?_); refine aEmpty sB H rfl rfl ?_; clear H; intro b46 w46 H)
                  | ((with_reducible refine gDst 14 ?_); refine aAlloc H rfl rfl ?_; clear H; intro b14 w14 H)
                  | ((with_reducible refine gLoad ?_); first | (refine aLoad H _ rfl rfl (by first | exact part_all (by first | rfl | simp []) | (simp only [List.drop_succ_cons, List.drop_zero, List.take_succ_cons, List.take_zero]; rfl) | (simp [List.drop_append, List.take_append]; rfl)) (by first | rfl | simp []) rfl ?_))
                  | ((with_reducible refine gStore ?_); (first | (refine aStore H _ _ rfl rfl rfl (by (first | exact ⟨rfl, rfl⟩ | exact ⟨by decide, rfl⟩ | (simp []; done) | (constructor <;> simp [] <;> omega))) (by first | rfl | simp [List.all_append, one_all]) rfl ?_) | (refine aLay H _ _ rfl rfl rfl (by (first | exact ⟨rfl, rfl⟩ | exact ⟨by decide, rfl⟩ | (simp []; done) | (constructor <;> simp [] <;> omega))) (by first | rfl | simp [List.all_append, one_all]) (by simp only [lay, List.take_succ_cons, List.take_zero, List.drop_succ_cons, List.drop_zero, List.nil_append, List.cons_append, List.length_cons, List.length_nil, Nat.zero_add, Nat.reduceAdd]; rfl) rfl ?_)); clear H; intro w' H; try dsimp only at H)
                  | (at_builtin; refine aAppB1 _ H _ _ rfl rfl rfl (by first | omega | (have := HCL.out; omega)) rfl ?_; clear H; intro v' w' ys HY H; (try dsimp only at H); obtain ⟨A', c', rfl, hc'⟩ := (H.hold.rr v').len))
                go_ret
                exact ⟨rfl, H.below⟩
end Go.Proofs.YticfcelbnkiopaaDoor

namespace Go.Proofs.YticfcelbnkiopaaDoor
set_option maxRecDepth 100000
open Go.RowKit
set_option linter.unusedSimpArgs false
set_option linter.unusedVariables false
section
variable {P : Program}
theorem EqT.bool (t : TypeId) (ht : P.underlying t = some .bool) (hs : ∀ w, (sizeOf t).run P w = .ok 1 w) : EqT P t 1 false 1 (fun x : Bool => [.bool x]) (fun x => .bool x) (fun x y => x == y) where
  isAg w := by unfold isAgg; rw [Sem.run_bind, run_underlying ht w]; rfl
  size := hs
  len x := rfl
  vals x := rfl
  one _ := rfl
  eqs d w x y := run_equalIn_bool' w d t x y ht
theorem EqT.str (t : TypeId) (ht : P.underlying t = some .string) (hs : ∀ w, (sizeOf t).run P w = .ok 1 w) : EqT P t 1 false 1 (fun x : ByteArray => [.string x]) (fun x => .string x) (fun x y => x.toList == y.toList) where
  isAg w := by unfold isAgg; rw [Sem.run_bind, run_underlying ht w]; rfl
  size := hs
  len x := rfl
  vals x := rfl
  one _ := rfl
  eqs d w x y := run_equalIn_string w d t x y ht
end
theorem eqB1 : EqT Tryd.prog 4 1 false 1 (fun x : Bool => [.bool x]) (fun x => .bool x) (fun x y => x == y) := EqT.bool 4 Tryd.underlying4 (sizeOf_ok (by kernel_rfl))
theorem eqB2 : EqT Tryd.prog 44 (2 * 1) true (1 + 1) (fun l : RowOf Bool 2 => l.1.flatMap fun x => [.bool x]) (fun l => .agg (l.1.flatMap fun x => [.bool x]).toArray) (fun x y => (x.1.zip y.1).all fun p => p.1 == p.2) := eqB1.row Tryd.underlying44 (sizeOf_ok (by kernel_rfl))
theorem b2_guard : Tryd.prog.eqGuardType Tryd.prog.depth 44 = false := by kernel_rfl
theorem b2_eql (a b c d : Bool) (w : World) : (binOp .eql 44 (.agg #[.bool a, .bool b]) (.agg #[.bool c, .bool d])).run Tryd.prog w = .ok (.bool (a == c && b == d)) w := by
  have h := eqB2.eqs 9998 w ⟨[a, b], rfl⟩ ⟨[c, d], rfl⟩
  rw [run_eql_struct]
  have e : (([a, b].zip [c, d]).all fun p : Bool × Bool => p.1 == p.2) = (a == c && b == d) := by simp
  simp only [e] at h
  have h2 : (Op.equalIn 10000 44 (.agg #[.bool a, .bool b]) (.agg #[.bool c, .bool d])).run Tryd.prog w = .ok (a == c && b == d) w := h
  rw [h2]
  rfl
end Go.Proofs.YticfcelbnkiopaaDoor
