/- Ground of the statements BankHealed, BankNever, part 9: BkJ, RowAct. -/
import Derived.Test.YticfcelbnkiopaaDoorBBC8
namespace Go.Proofs.YticfcelbnkiopaaDoor
set_option maxRecDepth 100000
open Go.RowKit
set_option linter.unusedSimpArgs false
set_option linter.unusedVariables false

/-- A relation behind a name that nothing opens. -/
structure Kept (p : Prop) : Prop where
  out : p
/-- An act, as an element of a row, with its bytes. -/
structure AX where
  kd : Int
  cp : Int
  wh : Int
  at_ : Int
  pp : PT
  v : SVV
  b : List UInt8
def AX.cells (x : AX) : List Value := acC x.kd x.cp x.wh x.at_ x.pp x.v.val
def ax0 : AX := ⟨0, 0, 0, 0, PT.hole, sv0, []⟩
theorem acC_one (kd cp wh a : Int) (pp : PT) (s : SVV) : ∀ u ∈ acC kd cp wh a pp s.val, u.oneCell' = true := by
  intro u hu
  rw [acC] at hu
  rcases List.mem_append.1 hu with hu | hu
  · simp only [List.mem_cons, List.not_mem_nil, or_false] at hu
    rcases hu with rfl | rfl | rfl | rfl <;> rfl
  · rcases List.mem_append.1 hu with hu | hu
    · exact pp.one u hu
    · rw [List.mem_singleton.1 hu]; rfl
def AXT : Ty AX := ⟨54, 40, 104, .agg ax0.cells.toArray, AX.cells, fun x => acC_len _ _ _ _ _ _, fun x => acC_one _ _ _ _ _ _, by decide, by decide⟩
/-- An act as it comes in. -/
structure AXok (W : World) (x : AX) : Prop where
  rd : RB W x.v.val x.b
  cp : -9223372036854775808 ≤ x.cp ∧ x.cp < 9223372036854775808
  wh : -9223372036854775808 ≤ x.wh ∧ x.wh < 9223372036854775808
  at_ : x.at_ ≤ 9223372036854775807
theorem acC_4 (kd cp wh a : Int) (pp : PT) (vb : Value) : ((acC kd cp wh a pp vb).drop 4).take 35 = pp.cells := by
  have e : (acC kd cp wh a pp vb).drop 4 = pp.cells ++ [vb] := rfl
  rw [e, List.take_left' pp.len]
theorem TD.c39 (t : TD) : t.cells[39]? = some (.int .i64 t.e) := by
  rw [TD.cells, List.getElem?_append_right (by rw [PT.len]; decide), PT.len]
  rfl
theorem TD.cP (t : TD) : (t.cells.drop 0).take 35 = t.p.cells := by
  rw [List.drop_zero, TD.cells, List.take_left' t.p.len]
def relNv (n : Nat) (w : World) (b3 bk bd bo bm : Nat) (p : PT) (v7 v8 : Value) (wr : World) : Prop := ∃ (i j : Nat) (A : Option Addr) (cp : Nat) (vw : Value) (ss : List SVV) (st : DS) (u : List Bool) (made : List PT), v8 = .int .i64 (i : Int) ∧ i ≤ n ∧ i ≤ 30 ∧ v7 = .slice A j cp ∧ made.length = j ∧ 1 ≤ j ∧ j ≤ i + 1 ∧ Hid (BKw st u 32 (2 * i)) ∧ SH Nil w wr (.row PTT (.slice A j cp) made :: .blk b3 33 p.cells :: bankL bk bd bo bm vw ss 7 st u)
section
variable {ops : Array Oper} {rest : List Oper} {o : Oper} {a : Act} {Q : Exit → Act → World → Prop} {F : Nat → Prop} {w0 w : World} {L : List Own}
/-- A literal of one pointer. -/
theorem aSlitP (p : PT) (H : SH F w0 w L) (x : Operand) (ho : o.op = .buildSlice 28 1 #[(0, x)]) (hx : a.eval x = .agg p.cells.toArray) (hw : Region.wanted o (yielded ops a.tmps) = true)
    (h : ∀ b' w', SH F w0 w' (.row PTT (.slice (some ⟨b', 0, none⟩) 1 1) [p] :: L) → wpList Tryd.prog ops Q rest (a.put o.dst (.slice (some ⟨b', 0, none⟩) 1 1)) w') : wpList Tryd.prog ops Q (o :: rest) a w := by
  refine stepV (xSlit1 sPT x ho p.cells hx p.len (by decide)) hw (h _ _ (H.pushRow (alloc_belowAt w _) ?_))
  exact OR.lit PTT w w.heap.size [p] p.cells.toArray (pF_one p) (Nat.le_refl _) (by simp)
end
theorem bkw_fresh : BKw (freshD 32) (freshU 32) 32 0 := by
  have h := freshD_ok 32 (by decide) (by decide)
  exact ⟨⟨by have := h.d; rwa [freshU_len 32] at this, h.lets, Nat.le_refl _⟩, freshU_len 32, h.lab⟩
/-- What an element of a row of pointers reads. -/
theorem ptCell {w : World} {A : Option Addr} {n c : Nat} {made : List PT} (h : RR PTT w (.slice A n c) made) (k : Nat) (hk : k < made.length) : ∃ ad, A = some ad ∧ ∀ (j : Nat) (u : Value), (made.getD k PT.hole).cells[j]? = some u → w.cell? ((ad.add (k * 35)).add j) = some u := by
  obtain ⟨ad, e, hc⟩ := h.at_ k hk
  refine ⟨ad, e, fun j u hu => ?_⟩
  have hg : made.getD k PT.hole = made[k] := by rw [List.getD_eq_getElem?_getD, List.getElem?_eq_getElem hk]; rfl
  rw [hg] at hu
  rw [Addr.add_add]
  exact hc j u hu
theorem hash_cell (p : PT) (j : Nat) (u : Value) (h : (p.hash.map cb)[j]? = some u) : p.cells[j]? = some u := by
  have hj : j < (p.hash.map cb).length := (List.getElem?_eq_some_iff.1 h).1
  rw [PT.cells, List.getElem?_append_left hj]
  exact h
set_option maxHeartbeats 6400000 in
theorem BankNever_any (A0 : Option Addr) (c0 : Nat) (xs : List AX) (p : PT) (w : World) (hx : RR AXT w (.slice A0 xs.length c0) xs) (hok : ∀ x ∈ xs, AXok w x) (hT : TabAt w) :
    Calls Tryd.prog 5 #[.slice A0 xs.length c0, p.val] w fun e w' => e = .returned (.bool true) ∧ Below w.heap.size w w' := by
  have H := SH.start Nil w
  have HT := Lib.hid (fun W (h : Below w.heap.size w W) => hT.below h)
  have HFR := Lib.hid (fun W => fresh08_any 32 (by decide) (by decide) W)
  change Hid (∀ W, Calls Tryd.prog 14 #[.int .i64 32] W _) at HFR
  have HX := Lib.hid hx
  have HOK := Lib.hid hok
  have HPL := Lib.hid p.len
  have HPO := Lib.hid (List.all_eq_true.2 p.one)
  clear hx hok hT
  obtain ⟨n, hn⟩ : ∃ n, n = xs.length := ⟨_, rfl⟩
  have HN := Lib.hid hn
  rw [← hn]
  clear hn
  unfold PT.val
  go_enter Tryd.func5, Tryd.ntmps5
  go_wp2_with (first
    | (go_at_call 14; refine (HFR.out _).mono ?_; rintro e w' ⟨bk, bd, bo, bm, rfl, H1⟩; replace H1 := (H.join H1).perm List.perm_append_comm; (try dsimp only [List.cons_append, List.nil_append] at H1); clear H; have H := H1; clear H1)
    | ((with_reducible refine gDst 21 ?_); refine aLoad H _ rfl rfl (part_all HPL.out) HPL.out rfl ?_)
    | ((with_reducible refine gDst 22 ?_); refine aSlitP p H _ rfl rfl rfl ?_; clear H; intro b22 w22 H)
    | ((with_reducible refine gDst 3 ?_); refine aBox H _ rfl rfl rfl ?_; clear H; intro b3 w3 H)
    | ((with_reducible refine gDst 9 ?_); refine aAlloc H rfl rfl ?_; clear H; intro b9 w9 H)
    | ((with_reducible refine gDst 10 ?_); refine aAlloc H rfl rfl ?_; clear H; intro b10 w10 H)
    | ((with_reducible refine gDst 11 ?_); refine aAlloc H rfl rfl ?_; clear H; intro b11 w11 H)
    | ((with_reducible refine gLoad ?_); first | (refine aLoad1 H _ rfl rfl (by first | exact (rfl : _ = some (Value.int _ _)) | exact (rfl : _ = some (Value.slice _ _ _)) | exact (rfl : _ = some (Value.bool _)) | exact (rfl : _ = some (Value.string _)) | exact (rfl : _ = some (Value.pointer _)) | rfl | (simp [List.getElem?_append]; done)) rfl ?_) | (refine aLoadC _ rfl rfl (by assumption) rfl ?_) | (refine aLoad H _ rfl rfl (by first | exact part_all (by first | rfl | simp []) | (simp only [List.drop_succ_cons, List.drop_zero, List.take_succ_cons, List.take_zero]; rfl) | (simp [List.drop_append, List.take_append]; rfl)) (by first | rfl | simp []) rfl ?_))
    | ((with_reducible refine gStore ?_); (first | (refine aStore H _ _ rfl rfl rfl (by (first | exact ⟨rfl, rfl⟩ | exact ⟨by decide, rfl⟩ | (simp []; done) | (constructor <;> simp [] <;> omega))) (by first | rfl | simp [List.all_append, one_all]) rfl ?_) | (refine aLay H _ _ rfl rfl rfl (by (first | exact ⟨rfl, rfl⟩ | exact ⟨by decide, rfl⟩ | (simp []; done) | (constructor <;> simp [] <;> omega))) (by first | rfl | simp [List.all_append, one_all]) (by simp only [lay, List.take_succ_cons, List.take_zero, List.drop_succ_cons, List.drop_zero, List.nil_append, List.cons_append, List.length_cons, List.length_nil, Nat.zero_add, Nat.reduceAdd]; rfl) rfl ?_)); clear H; intro w' H; try dsimp only at H)
    | (at_builtin; refine aAppB1 _ H _ _ rfl rfl rfl (by first | omega | (have := HCL.out; omega)) rfl ?_; clear H; intro v' w' ys HY H; (try dsimp only at H); obtain ⟨A', c', rfl, hc'⟩ := (H.hold.rr v').len))
  have H2 := H
  clear H
  go_loopw [7, 8] (fun v7 v8 wr => Kept (relNv n w b3 bk bd bo bm p v7 v8 wr)) (fun _ v _ => n - (intOf v).toNat)
  case atStart => exact Kept.mk ⟨0, 1, _, _, _, _, _, _, [p], rfl, by omega, by omega, rfl, rfl, by omega, by omega, Lib.hid bkw_fresh, H2⟩
  case round =>
    obtain ⟨i, m, A, cp, vw, ss, st, u, made, rfl, hin, hi30, rfl, hj, hj1, hji, HB, HS⟩ := hrel.out
    clear H2
    have H := HS
    clear HS
    obtain ⟨adq, rfl, -⟩ := ptCell (H.hold.rr (.slice A m cp)) 0 (by rw [hj]; omega)
    by_cases hlt : i < n
    · have hii : (i : Int) < (n : Int) := by omega
      by_cases h30 : i < 30
      · have hi3 : (i : Int) < 30 := by omega
        have hil : i < xs.length := by rw [← HN.out]; exact hlt
        obtain ⟨ad0, hA0, hcel⟩ := HX.out.at_ i hil
        have hox := HOK.out xs[i] (List.getElem_mem hil)
        generalize xs[i] = x at *
        obtain ⟨kd, cpx, wh, at_, pp, ⟨Av, nv, cv⟩, b⟩ := x
        obtain ⟨Av', cv', hve, -⟩ := hox.rd.len
        have hve2 : nv = b.length := by
          have : Value.slice Av nv cv = Value.slice Av' b.length cv' := hve
          injection this
        subst hve2
        subst hA0
        have HRB : Hid (RB w (.slice Av b.length cv) b) := Lib.hid hox.rd
        have HCP := Lib.hid hox.cp
        have HWH := Lib.hid hox.wh
        have HAT := Lib.hid hox.at_
        have HXC : Hid (∀ W, Below w.heap.size w W → ∀ (j : Nat) (u : Value), (acC kd cpx wh at_ pp (.slice Av b.length cv))[j]? = some u → W.cell? ((ad0.add (i * 40)).add j) = some u) := Lib.hid fun W hb j u hu => by
          rw [Addr.add_add]
          exact cell_below hb (hcel j u hu)
        have HXL := Lib.hid (acC_len kd cpx wh at_ pp (.slice Av b.length cv))
        have HXO := Lib.hid (List.all_eq_true.2 (acC_one kd cpx wh at_ pp (Av, b.length, cv)))
        change Hid (((acC kd cpx wh at_ pp (.slice Av b.length cv)).all fun u => u.oneCell') = true) at HXO
        have HXI := Lib.hid (show (Tryd.prog.info? 54).map (·.size) = some (acC kd cpx wh at_ pp (.slice Av b.length cv)).length by rw [acC_len]; kernel_rfl)
        have HX0 := Lib.hid (show (acC kd cpx wh at_ pp (.slice Av b.length cv))[0]? = some (.int .i64 kd) from rfl)
        have HX2 := Lib.hid (show (acC kd cpx wh at_ pp (.slice Av b.length cv))[2]? = some (.int .i64 wh) from rfl)
        have HX39 := Lib.hid (acC_39 kd cpx wh at_ pp (.slice Av b.length cv))
        have HXP := Lib.hid (acC_4 kd cpx wh at_ pp (.slice Av b.length cv))
        have HPPL := Lib.hid pp.len
        have HPPO := Lib.hid (List.all_eq_true.2 pp.one)
        have HJ := Lib.hid hj
        clear hox hve hcel
        by_cases hb3 : 300 < b.length
        · have hb3i : (300 : Int) < (b.length : Int) := by omega
          generalize acC kd cpx wh at_ pp (.slice Av b.length cv) = X at *
          generalize b.length = bn at *
          go_wp2_with (first
            | ((with_reducible refine gDst 36 ?_); refine stepV (exec_loadA 54 _ rfl (ad0.add (i * 40)) rfl X _ (fun j u hu => HXC.out _ H.below j u hu) Tryd.underlying54 rfl HXI.out) rfl ?_)
            | ((with_reducible refine gSto (.tmp 9) (.tmp 36) ?_); refine aStore H _ _ rfl rfl rfl ⟨by rfl, HXL.out⟩ HXO.out rfl ?_; clear H; intro w' H; (try dsimp only at H))
            | ((with_reducible refine gDst 38 ?_); refine aLoad1 H _ rfl rfl HX39.out rfl ?_)
            | ((with_reducible refine gDst 42 ?_); refine aLoad H _ rfl rfl HXP.out HPPL.out rfl ?_)
            | ((with_reducible refine gSto (.tmp 10) (.tmp 42) ?_); refine aStore H _ _ rfl rfl rfl ⟨by rfl, HPPL.out⟩ HPPO.out rfl ?_; clear H; intro w' H; (try dsimp only at H))
            | ((with_reducible refine gDst 44 ?_); refine aLoad1 H _ rfl rfl HX2.out rfl ?_)
            | ((with_reducible refine gDst 48 ?_); refine aLoad1 H _ rfl rfl HX2.out rfl ?_)
            | ((with_reducible refine gDst 55 ?_); refine aLoad1 H _ rfl rfl HX2k.out rfl ?_)
            | ((with_reducible refine gDst 57 ?_); refine stepV (exec_loadA 33 _ rfl (adq.add (kq * 35)) rfl mk.cells _ (fun j u hu => HCQ.out _ (H.hold.rr (.slice (some adq) m cp)) j u hu) Tryd.underlying33 rfl (PT.info mk)) rfl ?_)
            | ((with_reducible refine gSto (.tmp 10) (.tmp 57) ?_); refine aStore H _ _ rfl rfl rfl ⟨HPPL.out, HMKL.out⟩ HMKO.out rfl ?_; clear H; intro w' H; (try dsimp only at H))
            | ((with_reducible refine gDst 60 ?_); refine aLoad H _ rfl rfl (part_all HXL.out) HXL.out rfl ?_)
            | ((with_reducible refine gDst 61 ?_); refine aLoad H _ rfl rfl (part_all HQQ.out) HQQ.out rfl ?_)
            | (go_at_call 25; have y := HDO.out _ (H.subS (D := bankL bk bd bo bm vw ss 7 st u)) (fun w2 hc => HT.out _ (H.chgS (D := bankL bk bd bo bm vw ss 7 st u) hc).below) (fun w2 hc => HRB.out.below (H.chgS (D := bankL bk bd bo bm vw ss 7 st u) hc).below); refine y.mono ?_; clear y; rintro e w' ⟨rfl, vw1, ss1, kk⟩; replace H := H.viaS kk; (try dsimp only at H); clear kk)
            | ((with_reducible refine gSto (.tmp 11) (.tmp 62) ?_); refine aStore H _ _ rfl rfl rfl ⟨by rfl, TD.len _⟩ (TD.one _) rfl ?_; clear H; intro w' H; (try dsimp only at H))
            | ((with_reducible refine gDst 64 ?_); refine aLoad1 H _ rfl rfl HX0.out rfl ?_)
            | ((with_reducible refine gDst 68 ?_); refine aLoad1 H _ rfl rfl HT39.out rfl ?_)
            | ((with_reducible refine gDst 73 ?_); refine aLoad H _ rfl rfl (TD.cP _) (PT.len _) rfl ?_)
            | ((with_reducible refine gDst 74 ?_); refine stepV (xSlit1 sPT _ rfl _ rfl (PT.len _) (by decide)) rfl ?_)
            | ((with_reducible refine gDst 75 ?_); refine aAppLit sPT [T.p] _ (pF_one _) (by simp) 1 rfl H _ _ rfl rfl rfl HMM.out rfl ?_; clear H; intro v75 w75 zs hz H; (try dsimp only at H))
            | ((with_reducible refine gDst 3 ?_); refine aBox H _ rfl rfl rfl ?_; clear H; intro b3 w3 H)
            | ((with_reducible refine gDst 9 ?_); refine aAlloc H rfl rfl ?_; clear H; intro b9 w9 H)
            | ((with_reducible refine gDst 10 ?_); refine aAlloc H rfl rfl ?_; clear H; intro b10 w10 H)
            | ((with_reducible refine gDst 11 ?_); refine aAlloc H rfl rfl ?_; clear H; intro b11 w11 H)
            | ((with_reducible refine gLoad ?_); first | (refine aLoad1 H _ rfl rfl (by first | exact (rfl : _ = some (Value.int _ _)) | exact (rfl : _ = some (Value.slice _ _ _)) | exact (rfl : _ = some (Value.bool _)) | exact (rfl : _ = some (Value.string _)) | exact (rfl : _ = some (Value.pointer _)) | rfl | (simp [List.getElem?_append]; done)) rfl ?_) | (refine aLoadC _ rfl rfl (by assumption) rfl ?_) | (refine aLoad H _ rfl rfl (by first | exact part_all (by first | rfl | simp []) | (simp only [List.drop_succ_cons, List.drop_zero, List.take_succ_cons, List.take_zero]; rfl) | (simp [List.drop_append, List.take_append]; rfl)) (by first | rfl | simp []) rfl ?_))
            | ((with_reducible refine gStore ?_); (first | (refine aStore H _ _ rfl rfl rfl (by (first | exact ⟨rfl, rfl⟩ | exact ⟨by decide, rfl⟩ | (simp []; done) | (constructor <;> simp [] <;> omega))) (by first | rfl | simp [List.all_append, one_all]) rfl ?_) | (refine aLay H _ _ rfl rfl rfl (by (first | exact ⟨rfl, rfl⟩ | exact ⟨by decide, rfl⟩ | (simp []; done) | (constructor <;> simp [] <;> omega))) (by first | rfl | simp [List.all_append, one_all]) (by simp only [lay, List.take_succ_cons, List.take_zero, List.drop_succ_cons, List.drop_zero, List.nil_append, List.cons_append, List.length_cons, List.length_nil, Nat.zero_add, Nat.reduceAdd]; rfl) rfl ?_)); clear H; intro w' H; try dsimp only at H)
            | (at_builtin; refine aAppB1 _ H _ _ rfl rfl rfl (by first | omega | (have := HCL.out; omega)) rfl ?_; clear H; intro v' w' ys HY H; (try dsimp only at H); obtain ⟨A', c', rfl, hc'⟩ := (H.hold.rr v').len))
          go_roundw
          case rel => first | exact Kept.mk ⟨i + 1, m, some adq, cp, vw, ss, st, u, made, by go_num, by omega, by omega, rfl, HJ.out, by omega, by omega, Lib.hid (HB.out.le (by omega)), H.tail⟩ | ((repeat (apply Exists.intro)); exact ⟨Kept.mk ⟨i + 1, m, some adq, cp, vw, ss, st, u, made, by go_num, by omega, by omega, rfl, HJ.out, by omega, by omega, Lib.hid (HB.out.le (by omega)), H.tail⟩, rfl⟩)
          case measure => simp [intOf] <;> omega
        · have hb3i : ((300 : Int) < (b.length : Int)) = False := eq_false (by omega)
          have HDO := Lib.hid (fun (q : PT) W y1 y2 y3 => do_any (bk := bk) (bd := bd) (bo := bo) (bm := bm) (vw := vw) (ss := ss) (t := 7) kd cpx wh at_ pp q b Av cv HB.out.ok (by have := HB.out.d.ws; omega) HCP.out (by omega) W y1 y2 y3)
          have HACT := Lib.hid (fun (q : PT) => HB.out.act (by omega) 7 ⟨kd, cpx, wh, at_, pp, b⟩ q HAT.out)
          generalize acC kd cpx wh at_ pp (.slice Av b.length cv) = X at *
          generalize b.length = bn at *
          clear hb3 hil
          go_upto_region 11 with (first
            | ((with_reducible refine gDst 36 ?_); refine stepV (exec_loadA 54 _ rfl (ad0.add (i * 40)) rfl X _ (fun j u hu => HXC.out _ H.below j u hu) Tryd.underlying54 rfl HXI.out) rfl ?_)
            | ((with_reducible refine gSto (.tmp 9) (.tmp 36) ?_); refine aStore H _ _ rfl rfl rfl ⟨by rfl, HXL.out⟩ HXO.out rfl ?_; clear H; intro w' H; (try dsimp only at H))
            | ((with_reducible refine gDst 38 ?_); refine aLoad1 H _ rfl rfl HX39.out rfl ?_)
            | ((with_reducible refine gDst 42 ?_); refine aLoad H _ rfl rfl HXP.out HPPL.out rfl ?_)
            | ((with_reducible refine gSto (.tmp 10) (.tmp 42) ?_); refine aStore H _ _ rfl rfl rfl ⟨by rfl, HPPL.out⟩ HPPO.out rfl ?_; clear H; intro w' H; (try dsimp only at H))
            | ((with_reducible refine gDst 44 ?_); refine aLoad1 H _ rfl rfl HX2.out rfl ?_)
            | ((with_reducible refine gDst 48 ?_); refine aLoad1 H _ rfl rfl HX2.out rfl ?_)
            | ((with_reducible refine gDst 55 ?_); refine aLoad1 H _ rfl rfl HX2k.out rfl ?_)
            | ((with_reducible refine gDst 57 ?_); refine stepV (exec_loadA 33 _ rfl (adq.add (kq * 35)) rfl mk.cells _ (fun j u hu => HCQ.out _ (H.hold.rr (.slice (some adq) m cp)) j u hu) Tryd.underlying33 rfl (PT.info mk)) rfl ?_)
            | ((with_reducible refine gSto (.tmp 10) (.tmp 57) ?_); refine aStore H _ _ rfl rfl rfl ⟨HPPL.out, HMKL.out⟩ HMKO.out rfl ?_; clear H; intro w' H; (try dsimp only at H))
            | ((with_reducible refine gDst 60 ?_); refine aLoad H _ rfl rfl (part_all HXL.out) HXL.out rfl ?_)
            | ((with_reducible refine gDst 61 ?_); refine aLoad H _ rfl rfl (part_all HQQ.out) HQQ.out rfl ?_)
            | (go_at_call 25; have y := HDO.out _ (H.subS (D := bankL bk bd bo bm vw ss 7 st u)) (fun w2 hc => HT.out _ (H.chgS (D := bankL bk bd bo bm vw ss 7 st u) hc).below) (fun w2 hc => HRB.out.below (H.chgS (D := bankL bk bd bo bm vw ss 7 st u) hc).below); refine y.mono ?_; clear y; rintro e w' ⟨rfl, vw1, ss1, kk⟩; replace H := H.viaS kk; (try dsimp only at H); clear kk)
            | ((with_reducible refine gSto (.tmp 11) (.tmp 62) ?_); refine aStore H _ _ rfl rfl rfl ⟨by rfl, TD.len _⟩ (TD.one _) rfl ?_; clear H; intro w' H; (try dsimp only at H))
            | ((with_reducible refine gDst 64 ?_); refine aLoad1 H _ rfl rfl HX0.out rfl ?_)
            | ((with_reducible refine gDst 68 ?_); refine aLoad1 H _ rfl rfl HT39.out rfl ?_)
            | ((with_reducible refine gDst 73 ?_); refine aLoad H _ rfl rfl (TD.cP _) (PT.len _) rfl ?_)
            | ((with_reducible refine gDst 74 ?_); refine stepV (xSlit1 sPT _ rfl _ rfl (PT.len _) (by decide)) rfl ?_)
            | ((with_reducible refine gDst 75 ?_); refine aAppLit sPT [T.p] _ (pF_one _) (by simp) 1 rfl H _ _ rfl rfl rfl HMM.out rfl ?_; clear H; intro v75 w75 zs hz H; (try dsimp only at H))
            | ((with_reducible refine gDst 3 ?_); refine aBox H _ rfl rfl rfl ?_; clear H; intro b3 w3 H)
            | ((with_reducible refine gDst 9 ?_); refine aAlloc H rfl rfl ?_; clear H; intro b9 w9 H)
            | ((with_reducible refine gDst 10 ?_); refine aAlloc H rfl rfl ?_; clear H; intro b10 w10 H)
            | ((with_reducible refine gDst 11 ?_); refine aAlloc H rfl rfl ?_; clear H; intro b11 w11 H)
            | ((with_reducible refine gLoad ?_); first | (refine aLoad1 H _ rfl rfl (by first | exact (rfl : _ = some (Value.int _ _)) | exact (rfl : _ = some (Value.slice _ _ _)) | exact (rfl : _ = some (Value.bool _)) | exact (rfl : _ = some (Value.string _)) | exact (rfl : _ = some (Value.pointer _)) | rfl | (simp [List.getElem?_append]; done)) rfl ?_) | (refine aLoadC _ rfl rfl (by assumption) rfl ?_) | (refine aLoad H _ rfl rfl (by first | exact part_all (by first | rfl | simp []) | (simp only [List.drop_succ_cons, List.drop_zero, List.take_succ_cons, List.take_zero]; rfl) | (simp [List.drop_append, List.take_append]; rfl)) (by first | rfl | simp []) rfl ?_))
            | ((with_reducible refine gStore ?_); (first | (refine aStore H _ _ rfl rfl rfl (by (first | exact ⟨rfl, rfl⟩ | exact ⟨by decide, rfl⟩ | (simp []; done) | (constructor <;> simp [] <;> omega))) (by first | rfl | simp [List.all_append, one_all]) rfl ?_) | (refine aLay H _ _ rfl rfl rfl (by (first | exact ⟨rfl, rfl⟩ | exact ⟨by decide, rfl⟩ | (simp []; done) | (constructor <;> simp [] <;> omega))) (by first | rfl | simp [List.all_append, one_all]) (by simp only [lay, List.take_succ_cons, List.take_zero, List.drop_succ_cons, List.drop_zero, List.nil_append, List.cons_append, List.length_cons, List.length_nil, Nat.zero_add, Nat.reduceAdd]; rfl) rfl ?_)); clear H; intro w' H; try dsimp only at H)
            | (at_builtin; refine aAppB1 _ H _ _ rfl rfl rfl (by first | omega | (have := HCL.out; omega)) rfl ?_; clear H; intro v' w' ys HY H; (try dsimp only at H); obtain ⟨A', c', rfl, hc'⟩ := (H.hold.rr v').len))
          (try simp only [Act.put, List.setIfInBounds_toArray, List.set_cons_zero, List.set_cons_succ])
          go_cut [52] (fun v52 wx => v52 = .bool (decide (0 ≤ wh ∧ wh < (m : Int))) ∧ SH Nil w wx (.blk b10 33 pp.cells :: .blk b9 54 X :: .row PTT (.slice (some adq) m cp) made :: .blk b3 33 p.cells :: bankL bk bd bo bm vw ss 7 st u))
          case first =>
            by_cases hw0 : wh < 0
            · have hw0a : (0 ≤ wh) = False := eq_false (by omega)
              have hw0b : (wh < 0) = True := eq_true hw0
              go_wp2_with (first
                | ((with_reducible refine gDst 36 ?_); refine stepV (exec_loadA 54 _ rfl (ad0.add (i * 40)) rfl X _ (fun j u hu => HXC.out _ H.below j u hu) Tryd.underlying54 rfl HXI.out) rfl ?_)
                | ((with_reducible refine gSto (.tmp 9) (.tmp 36) ?_); refine aStore H _ _ rfl rfl rfl ⟨by rfl, HXL.out⟩ HXO.out rfl ?_; clear H; intro w' H; (try dsimp only at H))
                | ((with_reducible refine gDst 38 ?_); refine aLoad1 H _ rfl rfl HX39.out rfl ?_)
                | ((with_reducible refine gDst 42 ?_); refine aLoad H _ rfl rfl HXP.out HPPL.out rfl ?_)
                | ((with_reducible refine gSto (.tmp 10) (.tmp 42) ?_); refine aStore H _ _ rfl rfl rfl ⟨by rfl, HPPL.out⟩ HPPO.out rfl ?_; clear H; intro w' H; (try dsimp only at H))
                | ((with_reducible refine gDst 44 ?_); refine aLoad1 H _ rfl rfl HX2.out rfl ?_)
                | ((with_reducible refine gDst 48 ?_); refine aLoad1 H _ rfl rfl HX2.out rfl ?_)
                | ((with_reducible refine gDst 55 ?_); refine aLoad1 H _ rfl rfl HX2k.out rfl ?_)
                | ((with_reducible refine gDst 57 ?_); refine stepV (exec_loadA 33 _ rfl (adq.add (kq * 35)) rfl mk.cells _ (fun j u hu => HCQ.out _ (H.hold.rr (.slice (some adq) m cp)) j u hu) Tryd.underlying33 rfl (PT.info mk)) rfl ?_)
                | ((with_reducible refine gSto (.tmp 10) (.tmp 57) ?_); refine aStore H _ _ rfl rfl rfl ⟨HPPL.out, HMKL.out⟩ HMKO.out rfl ?_; clear H; intro w' H; (try dsimp only at H))
                | ((with_reducible refine gDst 60 ?_); refine aLoad H _ rfl rfl (part_all HXL.out) HXL.out rfl ?_)
                | ((with_reducible refine gDst 61 ?_); refine aLoad H _ rfl rfl (part_all HQQ.out) HQQ.out rfl ?_)
                | (go_at_call 25; have y := HDO.out _ (H.subS (D := bankL bk bd bo bm vw ss 7 st u)) (fun w2 hc => HT.out _ (H.chgS (D := bankL bk bd bo bm vw ss 7 st u) hc).below) (fun w2 hc => HRB.out.below (H.chgS (D := bankL bk bd bo bm vw ss 7 st u) hc).below); refine y.mono ?_; clear y; rintro e w' ⟨rfl, vw1, ss1, kk⟩; replace H := H.viaS kk; (try dsimp only at H); clear kk)
                | ((with_reducible refine gSto (.tmp 11) (.tmp 62) ?_); refine aStore H _ _ rfl rfl rfl ⟨by rfl, TD.len _⟩ (TD.one _) rfl ?_; clear H; intro w' H; (try dsimp only at H))
                | ((with_reducible refine gDst 64 ?_); refine aLoad1 H _ rfl rfl HX0.out rfl ?_)
                | ((with_reducible refine gDst 68 ?_); refine aLoad1 H _ rfl rfl HT39.out rfl ?_)
                | ((with_reducible refine gDst 73 ?_); refine aLoad H _ rfl rfl (TD.cP _) (PT.len _) rfl ?_)
                | ((with_reducible refine gDst 74 ?_); refine stepV (xSlit1 sPT _ rfl _ rfl (PT.len _) (by decide)) rfl ?_)
                | ((with_reducible refine gDst 75 ?_); refine aAppLit sPT [T.p] _ (pF_one _) (by simp) 1 rfl H _ _ rfl rfl rfl HMM.out rfl ?_; clear H; intro v75 w75 zs hz H; (try dsimp only at H))
                | ((with_reducible refine gDst 3 ?_); refine aBox H _ rfl rfl rfl ?_; clear H; intro b3 w3 H)
                | ((with_reducible refine gDst 9 ?_); refine aAlloc H rfl rfl ?_; clear H; intro b9 w9 H)
                | ((with_reducible refine gDst 10 ?_); refine aAlloc H rfl rfl ?_; clear H; intro b10 w10 H)
                | ((with_reducible refine gDst 11 ?_); refine aAlloc H rfl rfl ?_; clear H; intro b11 w11 H)
                | ((with_reducible refine gLoad ?_); first | (refine aLoad1 H _ rfl rfl (by first | exact (rfl : _ = some (Value.int _ _)) | exact (rfl : _ = some (Value.slice _ _ _)) | exact (rfl : _ = some (Value.bool _)) | exact (rfl : _ = some (Value.string _)) | exact (rfl : _ = some (Value.pointer _)) | rfl | (simp [List.getElem?_append]; done)) rfl ?_) | (refine aLoadC _ rfl rfl (by assumption) rfl ?_) | (refine aLoad H _ rfl rfl (by first | exact part_all (by first | rfl | simp []) | (simp only [List.drop_succ_cons, List.drop_zero, List.take_succ_cons, List.take_zero]; rfl) | (simp [List.drop_append, List.take_append]; rfl)) (by first | rfl | simp []) rfl ?_))
                | ((with_reducible refine gStore ?_); (first | (refine aStore H _ _ rfl rfl rfl (by (first | exact ⟨rfl, rfl⟩ | exact ⟨by decide, rfl⟩ | (simp []; done) | (constructor <;> simp [] <;> omega))) (by first | rfl | simp [List.all_append, one_all]) rfl ?_) | (refine aLay H _ _ rfl rfl rfl (by (first | exact ⟨rfl, rfl⟩ | exact ⟨by decide, rfl⟩ | (simp []; done) | (constructor <;> simp [] <;> omega))) (by first | rfl | simp [List.all_append, one_all]) (by simp only [lay, List.take_succ_cons, List.take_zero, List.drop_succ_cons, List.drop_zero, List.nil_append, List.cons_append, List.length_cons, List.length_nil, Nat.zero_add, Nat.reduceAdd]; rfl) rfl ?_)); clear H; intro w' H; try dsimp only at H)
                | (at_builtin; refine aAppB1 _ H _ _ rfl rfl rfl (by first | omega | (have := HCL.out; omega)) rfl ?_; clear H; intro v' w' ys HY H; (try dsimp only at H); obtain ⟨A', c', rfl, hc'⟩ := (H.hold.rr v').len))
              go_meet
              case rel => exact ⟨by rw [decide_eq_false (by omega)], H⟩
            · have hw0a : (0 ≤ wh) = True := eq_true (by omega)
              have hw0b : (wh < 0) = False := eq_false hw0
              by_cases hwm : wh < (m : Int)
              · have hwmb : (wh < (m : Int)) = True := eq_true hwm
                go_wp2_with (first
                  | ((with_reducible refine gDst 36 ?_); refine stepV (exec_loadA 54 _ rfl (ad0.add (i * 40)) rfl X _ (fun j u hu => HXC.out _ H.below j u hu) Tryd.underlying54 rfl HXI.out) rfl ?_)
                  | ((with_reducible refine gSto (.tmp 9) (.tmp 36) ?_); refine aStore H _ _ rfl rfl rfl ⟨by rfl, HXL.out⟩ HXO.out rfl ?_; clear H; intro w' H; (try dsimp only at H))
                  | ((with_reducible refine gDst 38 ?_); refine aLoad1 H _ rfl rfl HX39.out rfl ?_)
                  | ((with_reducible refine gDst 42 ?_); refine aLoad H _ rfl rfl HXP.out HPPL.out rfl ?_)
                  | ((with_reducible refine gSto (.tmp 10) (.tmp 42) ?_); refine aStore H _ _ rfl rfl rfl ⟨by rfl, HPPL.out⟩ HPPO.out rfl ?_; clear H; intro w' H; (try dsimp only at H))
                  | ((with_reducible refine gDst 44 ?_); refine aLoad1 H _ rfl rfl HX2.out rfl ?_)
                  | ((with_reducible refine gDst 48 ?_); refine aLoad1 H _ rfl rfl HX2.out rfl ?_)
                  | ((with_reducible refine gDst 55 ?_); refine aLoad1 H _ rfl rfl HX2k.out rfl ?_)
                  | ((with_reducible refine gDst 57 ?_); refine stepV (exec_loadA 33 _ rfl (adq.add (kq * 35)) rfl mk.cells _ (fun j u hu => HCQ.out _ (H.hold.rr (.slice (some adq) m cp)) j u hu) Tryd.underlying33 rfl (PT.info mk)) rfl ?_)
                  | ((with_reducible refine gSto (.tmp 10) (.tmp 57) ?_); refine aStore H _ _ rfl rfl rfl ⟨HPPL.out, HMKL.out⟩ HMKO.out rfl ?_; clear H; intro w' H; (try dsimp only at H))
                  | ((with_reducible refine gDst 60 ?_); refine aLoad H _ rfl rfl (part_all HXL.out) HXL.out rfl ?_)
                  | ((with_reducible refine gDst 61 ?_); refine aLoad H _ rfl rfl (part_all HQQ.out) HQQ.out rfl ?_)
                  | (go_at_call 25; have y := HDO.out _ (H.subS (D := bankL bk bd bo bm vw ss 7 st u)) (fun w2 hc => HT.out _ (H.chgS (D := bankL bk bd bo bm vw ss 7 st u) hc).below) (fun w2 hc => HRB.out.below (H.chgS (D := bankL bk bd bo bm vw ss 7 st u) hc).below); refine y.mono ?_; clear y; rintro e w' ⟨rfl, vw1, ss1, kk⟩; replace H := H.viaS kk; (try dsimp only at H); clear kk)
                  | ((with_reducible refine gSto (.tmp 11) (.tmp 62) ?_); refine aStore H _ _ rfl rfl rfl ⟨by rfl, TD.len _⟩ (TD.one _) rfl ?_; clear H; intro w' H; (try dsimp only at H))
                  | ((with_reducible refine gDst 64 ?_); refine aLoad1 H _ rfl rfl HX0.out rfl ?_)
                  | ((with_reducible refine gDst 68 ?_); refine aLoad1 H _ rfl rfl HT39.out rfl ?_)
                  | ((with_reducible refine gDst 73 ?_); refine aLoad H _ rfl rfl (TD.cP _) (PT.len _) rfl ?_)
                  | ((with_reducible refine gDst 74 ?_); refine stepV (xSlit1 sPT _ rfl _ rfl (PT.len _) (by decide)) rfl ?_)
                  | ((with_reducible refine gDst 75 ?_); refine aAppLit sPT [T.p] _ (pF_one _) (by simp) 1 rfl H _ _ rfl rfl rfl HMM.out rfl ?_; clear H; intro v75 w75 zs hz H; (try dsimp only at H))
                  | ((with_reducible refine gDst 3 ?_); refine aBox H _ rfl rfl rfl ?_; clear H; intro b3 w3 H)
                  | ((with_reducible refine gDst 9 ?_); refine aAlloc H rfl rfl ?_; clear H; intro b9 w9 H)
                  | ((with_reducible refine gDst 10 ?_); refine aAlloc H rfl rfl ?_; clear H; intro b10 w10 H)
                  | ((with_reducible refine gDst 11 ?_); refine aAlloc H rfl rfl ?_; clear H; intro b11 w11 H)
                  | ((with_reducible refine gLoad ?_); first | (refine aLoad1 H _ rfl rfl (by first | exact (rfl : _ = some (Value.int _ _)) | exact (rfl : _ = some (Value.slice _ _ _)) | exact (rfl : _ = some (Value.bool _)) | exact (rfl : _ = some (Value.string _)) | exact (rfl : _ = some (Value.pointer _)) | rfl | (simp [List.getElem?_append]; done)) rfl ?_) | (refine aLoadC _ rfl rfl (by assumption) rfl ?_) | (refine aLoad H _ rfl rfl (by first | exact part_all (by first | rfl | simp []) | (simp only [List.drop_succ_cons, List.drop_zero, List.take_succ_cons, List.take_zero]; rfl) | (simp [List.drop_append, List.take_append]; rfl)) (by first | rfl | simp []) rfl ?_))
                  | ((with_reducible refine gStore ?_); (first | (refine aStore H _ _ rfl rfl rfl (by (first | exact ⟨rfl, rfl⟩ | exact ⟨by decide, rfl⟩ | (simp []; done) | (constructor <;> simp [] <;> omega))) (by first | rfl | simp [List.all_append, one_all]) rfl ?_) | (refine aLay H _ _ rfl rfl rfl (by (first | exact ⟨rfl, rfl⟩ | exact ⟨by decide, rfl⟩ | (simp []; done) | (constructor <;> simp [] <;> omega))) (by first | rfl | simp [List.all_append, one_all]) (by simp only [lay, List.take_succ_cons, List.take_zero, List.drop_succ_cons, List.drop_zero, List.nil_append, List.cons_append, List.length_cons, List.length_nil, Nat.zero_add, Nat.reduceAdd]; rfl) rfl ?_)); clear H; intro w' H; try dsimp only at H)
                  | (at_builtin; refine aAppB1 _ H _ _ rfl rfl rfl (by first | omega | (have := HCL.out; omega)) rfl ?_; clear H; intro v' w' ys HY H; (try dsimp only at H); obtain ⟨A', c', rfl, hc'⟩ := (H.hold.rr v').len))
                go_meet
                case rel => exact ⟨by rw [decide_eq_true (by omega)], H⟩
              · have hwmb : (wh < (m : Int)) = False := eq_false hwm
                go_wp2_with (first
                  | ((with_reducible refine gDst 36 ?_); refine stepV (exec_loadA 54 _ rfl (ad0.add (i * 40)) rfl X _ (fun j u hu => HXC.out _ H.below j u hu) Tryd.underlying54 rfl HXI.out) rfl ?_)
                  | ((with_reducible refine gSto (.tmp 9) (.tmp 36) ?_); refine aStore H _ _ rfl rfl rfl ⟨by rfl, HXL.out⟩ HXO.out rfl ?_; clear H; intro w' H; (try dsimp only at H))
                  | ((with_reducible refine gDst 38 ?_); refine aLoad1 H _ rfl rfl HX39.out rfl ?_)
                  | ((with_reducible refine gDst 42 ?_); refine aLoad H _ rfl rfl HXP.out HPPL.out rfl ?_)
                  | ((with_reducible refine gSto (.tmp 10) (.tmp 42) ?_); refine aStore H _ _ rfl rfl rfl ⟨by rfl, HPPL.out⟩ HPPO.out rfl ?_; clear H; intro w' H; (try dsimp only at H))
                  | ((with_reducible refine gDst 44 ?_); refine aLoad1 H _ rfl rfl HX2.out rfl ?_)
                  | ((with_reducible refine gDst 48 ?_); refine aLoad1 H _ rfl rfl HX2.out rfl ?_)
                  | ((with_reducible refine gDst 55 ?_); refine aLoad1 H _ rfl rfl HX2k.out rfl ?_)
                  | ((with_reducible refine gDst 57 ?_); refine stepV (exec_loadA 33 _ rfl (adq.add (kq * 35)) rfl mk.cells _ (fun j u hu => HCQ.out _ (H.hold.rr (.slice (some adq) m cp)) j u hu) Tryd.underlying33 rfl (PT.info mk)) rfl ?_)
                  | ((with_reducible refine gSto (.tmp 10) (.tmp 57) ?_); refine aStore H _ _ rfl rfl rfl ⟨HPPL.out, HMKL.out⟩ HMKO.out rfl ?_; clear H; intro w' H; (try dsimp only at H))
                  | ((with_reducible refine gDst 60 ?_); refine aLoad H _ rfl rfl (part_all HXL.out) HXL.out rfl ?_)
                  | ((with_reducible refine gDst 61 ?_); refine aLoad H _ rfl rfl (part_all HQQ.out) HQQ.out rfl ?_)
                  | (go_at_call 25; have y := HDO.out _ (H.subS (D := bankL bk bd bo bm vw ss 7 st u)) (fun w2 hc => HT.out _ (H.chgS (D := bankL bk bd bo bm vw ss 7 st u) hc).below) (fun w2 hc => HRB.out.below (H.chgS (D := bankL bk bd bo bm vw ss 7 st u) hc).below); refine y.mono ?_; clear y; rintro e w' ⟨rfl, vw1, ss1, kk⟩; replace H := H.viaS kk; (try dsimp only at H); clear kk)
                  | ((with_reducible refine gSto (.tmp 11) (.tmp 62) ?_); refine aStore H _ _ rfl rfl rfl ⟨by rfl, TD.len _⟩ (TD.one _) rfl ?_; clear H; intro w' H; (try dsimp only at H))
                  | ((with_reducible refine gDst 64 ?_); refine aLoad1 H _ rfl rfl HX0.out rfl ?_)
                  | ((with_reducible refine gDst 68 ?_); refine aLoad1 H _ rfl rfl HT39.out rfl ?_)
                  | ((with_reducible refine gDst 73 ?_); refine aLoad H _ rfl rfl (TD.cP _) (PT.len _) rfl ?_)
                  | ((with_reducible refine gDst 74 ?_); refine stepV (xSlit1 sPT _ rfl _ rfl (PT.len _) (by decide)) rfl ?_)
                  | ((with_reducible refine gDst 75 ?_); refine aAppLit sPT [T.p] _ (pF_one _) (by simp) 1 rfl H _ _ rfl rfl rfl HMM.out rfl ?_; clear H; intro v75 w75 zs hz H; (try dsimp only at H))
                  | ((with_reducible refine gDst 3 ?_); refine aBox H _ rfl rfl rfl ?_; clear H; intro b3 w3 H)
                  | ((with_reducible refine gDst 9 ?_); refine aAlloc H rfl rfl ?_; clear H; intro b9 w9 H)
                  | ((with_reducible refine gDst 10 ?_); refine aAlloc H rfl rfl ?_; clear H; intro b10 w10 H)
                  | ((with_reducible refine gDst 11 ?_); refine aAlloc H rfl rfl ?_; clear H; intro b11 w11 H)
                  | ((with_reducible refine gLoad ?_); first | (refine aLoad1 H _ rfl rfl (by first | exact (rfl : _ = some (Value.int _ _)) | exact (rfl : _ = some (Value.slice _ _ _)) | exact (rfl : _ = some (Value.bool _)) | exact (rfl : _ = some (Value.string _)) | exact (rfl : _ = some (Value.pointer _)) | rfl | (simp [List.getElem?_append]; done)) rfl ?_) | (refine aLoadC _ rfl rfl (by assumption) rfl ?_) | (refine aLoad H _ rfl rfl (by first | exact part_all (by first | rfl | simp []) | (simp only [List.drop_succ_cons, List.drop_zero, List.take_succ_cons, List.take_zero]; rfl) | (simp [List.drop_append, List.take_append]; rfl)) (by first | rfl | simp []) rfl ?_))
                  | ((with_reducible refine gStore ?_); (first | (refine aStore H _ _ rfl rfl rfl (by (first | exact ⟨rfl, rfl⟩ | exact ⟨by decide, rfl⟩ | (simp []; done) | (constructor <;> simp [] <;> omega))) (by first | rfl | simp [List.all_append, one_all]) rfl ?_) | (refine aLay H _ _ rfl rfl rfl (by (first | exact ⟨rfl, rfl⟩ | exact ⟨by decide, rfl⟩ | (simp []; done) | (constructor <;> simp [] <;> omega))) (by first | rfl | simp [List.all_append, one_all]) (by simp only [lay, List.take_succ_cons, List.take_zero, List.drop_succ_cons, List.drop_zero, List.nil_append, List.cons_append, List.length_cons, List.length_nil, Nat.zero_add, Nat.reduceAdd]; rfl) rfl ?_)); clear H; intro w' H; try dsimp only at H)
                  | (at_builtin; refine aAppB1 _ H _ _ rfl rfl rfl (by first | omega | (have := HCL.out; omega)) rfl ?_; clear H; intro v' w' ys HY H; (try dsimp only at H); obtain ⟨A', c', rfl, hc'⟩ := (H.hold.rr v').len))
                go_meet
                case rel => exact ⟨by rw [decide_eq_false (by omega)], H⟩
          case rest =>
            obtain ⟨rfl, HS⟩ := hcut
            clear H
            have H := HS
            clear HS
            go_upto_if 52 with fail
            (try simp only [Act.put, List.setIfInBounds_toArray, List.set_cons_zero, List.set_cons_succ])
            go_cut [] (fun wx => ∃ q : PT, SH Nil w wx (.blk b10 33 q.cells :: .blk b9 54 X :: .row PTT (.slice (some adq) m cp) made :: .blk b3 33 p.cells :: bankL bk bd bo bm vw ss 7 st u))
            case first =>
              by_cases hw : 0 ≤ wh ∧ wh < (m : Int)
              · obtain ⟨kq, hkq⟩ : ∃ k : Nat, wh = (k : Int) := ⟨wh.toNat, by omega⟩
                have hkm : kq < m := by omega
                have HX2k : Hid (X[2]? = some (.int .i64 (kq : Int))) := Lib.hid (by rw [← hkq]; exact HX2.out)
                have HCQ := Lib.hid (fun W (k : RR PTT W (.slice (some adq) m cp) made) => (by
                  obtain ⟨ad3, e2, hc2⟩ := ptCell k kq (by rw [HJ.out]; exact hkm)
                  injection e2 with e2
                  subst e2
                  exact hc2 : ∀ (j : Nat) (u : Value), (made.getD kq PT.hole).cells[j]? = some u → W.cell? ((adq.add (kq * 35)).add j) = some u))
                generalize made.getD kq PT.hole = mk at *
                have HMKL := Lib.hid mk.len
                have HMKO := Lib.hid (List.all_eq_true.2 mk.one)
                have hwd : decide (0 ≤ wh ∧ wh < (m : Int)) = true := decide_eq_true hw
                rw [hwd]
                clear hw hwd hkq
                go_wp2_with (first
                  | ((with_reducible refine gDst 36 ?_); refine stepV (exec_loadA 54 _ rfl (ad0.add (i * 40)) rfl X _ (fun j u hu => HXC.out _ H.below j u hu) Tryd.underlying54 rfl HXI.out) rfl ?_)
                  | ((with_reducible refine gSto (.tmp 9) (.tmp 36) ?_); refine aStore H _ _ rfl rfl rfl ⟨by rfl, HXL.out⟩ HXO.out rfl ?_; clear H; intro w' H; (try dsimp only at H))
                  | ((with_reducible refine gDst 38 ?_); refine aLoad1 H _ rfl rfl HX39.out rfl ?_)
                  | ((with_reducible refine gDst 42 ?_); refine aLoad H _ rfl rfl HXP.out HPPL.out rfl ?_)
                  | ((with_reducible refine gSto (.tmp 10) (.tmp 42) ?_); refine aStore H _ _ rfl rfl rfl ⟨by rfl, HPPL.out⟩ HPPO.out rfl ?_; clear H; intro w' H; (try dsimp only at H))
                  | ((with_reducible refine gDst 44 ?_); refine aLoad1 H _ rfl rfl HX2.out rfl ?_)
                  | ((with_reducible refine gDst 48 ?_); refine aLoad1 H _ rfl rfl HX2.out rfl ?_)
                  | ((with_reducible refine gDst 55 ?_); refine aLoad1 H _ rfl rfl HX2k.out rfl ?_)
                  | ((with_reducible refine gDst 57 ?_); refine stepV (exec_loadA 33 _ rfl (adq.add (kq * 35)) rfl mk.cells _ (fun j u hu => HCQ.out _ (H.hold.rr (.slice (some adq) m cp)) j u hu) Tryd.underlying33 rfl (PT.info mk)) rfl ?_)
                  | ((with_reducible refine gSto (.tmp 10) (.tmp 57) ?_); refine aStore H _ _ rfl rfl rfl ⟨HPPL.out, HMKL.out⟩ HMKO.out rfl ?_; clear H; intro w' H; (try dsimp only at H))
                  | ((with_reducible refine gDst 60 ?_); refine aLoad H _ rfl rfl (part_all HXL.out) HXL.out rfl ?_)
                  | ((with_reducible refine gDst 61 ?_); refine aLoad H _ rfl rfl (part_all HQQ.out) HQQ.out rfl ?_)
                  | (go_at_call 25; have y := HDO.out _ (H.subS (D := bankL bk bd bo bm vw ss 7 st u)) (fun w2 hc => HT.out _ (H.chgS (D := bankL bk bd bo bm vw ss 7 st u) hc).below) (fun w2 hc => HRB.out.below (H.chgS (D := bankL bk bd bo bm vw ss 7 st u) hc).below); refine y.mono ?_; clear y; rintro e w' ⟨rfl, vw1, ss1, kk⟩; replace H := H.viaS kk; (try dsimp only at H); clear kk)
                  | ((with_reducible refine gSto (.tmp 11) (.tmp 62) ?_); refine aStore H _ _ rfl rfl rfl ⟨by rfl, TD.len _⟩ (TD.one _) rfl ?_; clear H; intro w' H; (try dsimp only at H))
                  | ((with_reducible refine gDst 64 ?_); refine aLoad1 H _ rfl rfl HX0.out rfl ?_)
                  | ((with_reducible refine gDst 68 ?_); refine aLoad1 H _ rfl rfl HT39.out rfl ?_)
                  | ((with_reducible refine gDst 73 ?_); refine aLoad H _ rfl rfl (TD.cP _) (PT.len _) rfl ?_)
                  | ((with_reducible refine gDst 74 ?_); refine stepV (xSlit1 sPT _ rfl _ rfl (PT.len _) (by decide)) rfl ?_)
                  | ((with_reducible refine gDst 75 ?_); refine aAppLit sPT [T.p] _ (pF_one _) (by simp) 1 rfl H _ _ rfl rfl rfl HMM.out rfl ?_; clear H; intro v75 w75 zs hz H; (try dsimp only at H))
                  | ((with_reducible refine gDst 3 ?_); refine aBox H _ rfl rfl rfl ?_; clear H; intro b3 w3 H)
                  | ((with_reducible refine gDst 9 ?_); refine aAlloc H rfl rfl ?_; clear H; intro b9 w9 H)
                  | ((with_reducible refine gDst 10 ?_); refine aAlloc H rfl rfl ?_; clear H; intro b10 w10 H)
                  | ((with_reducible refine gDst 11 ?_); refine aAlloc H rfl rfl ?_; clear H; intro b11 w11 H)
                  | ((with_reducible refine gLoad ?_); first | (refine aLoad1 H _ rfl rfl (by first | exact (rfl : _ = some (Value.int _ _)) | exact (rfl : _ = some (Value.slice _ _ _)) | exact (rfl : _ = some (Value.bool _)) | exact (rfl : _ = some (Value.string _)) | exact (rfl : _ = some (Value.pointer _)) | rfl | (simp [List.getElem?_append]; done)) rfl ?_) | (refine aLoadC _ rfl rfl (by assumption) rfl ?_) | (refine aLoad H _ rfl rfl (by first | exact part_all (by first | rfl | simp []) | (simp only [List.drop_succ_cons, List.drop_zero, List.take_succ_cons, List.take_zero]; rfl) | (simp [List.drop_append, List.take_append]; rfl)) (by first | rfl | simp []) rfl ?_))
                  | ((with_reducible refine gStore ?_); (first | (refine aStore H _ _ rfl rfl rfl (by (first | exact ⟨rfl, rfl⟩ | exact ⟨by decide, rfl⟩ | (simp []; done) | (constructor <;> simp [] <;> omega))) (by first | rfl | simp [List.all_append, one_all]) rfl ?_) | (refine aLay H _ _ rfl rfl rfl (by (first | exact ⟨rfl, rfl⟩ | exact ⟨by decide, rfl⟩ | (simp []; done) | (constructor <;> simp [] <;> omega))) (by first | rfl | simp [List.all_append, one_all]) (by simp only [lay, List.take_succ_cons, List.take_zero, List.drop_succ_cons, List.drop_zero, List.nil_append, List.cons_append, List.length_cons, List.length_nil, Nat.zero_add, Nat.reduceAdd]; rfl) rfl ?_)); clear H; intro w' H; try dsimp only at H)
                  | (at_builtin; refine aAppB1 _ H _ _ rfl rfl rfl (by first | omega | (have := HCL.out; omega)) rfl ?_; clear H; intro v' w' ys HY H; (try dsimp only at H); obtain ⟨A', c', rfl, hc'⟩ := (H.hold.rr v').len))
                go_meet
                case rel => exact ⟨mk, H⟩
              · have hwd : decide (0 ≤ wh ∧ wh < (m : Int)) = false := decide_eq_false hw
                rw [hwd]
                clear hw hwd
                go_wp2_with (first
                  | ((with_reducible refine gDst 36 ?_); refine stepV (exec_loadA 54 _ rfl (ad0.add (i * 40)) rfl X _ (fun j u hu => HXC.out _ H.below j u hu) Tryd.underlying54 rfl HXI.out) rfl ?_)
                  | ((with_reducible refine gSto (.tmp 9) (.tmp 36) ?_); refine aStore H _ _ rfl rfl rfl ⟨by rfl, HXL.out⟩ HXO.out rfl ?_; clear H; intro w' H; (try dsimp only at H))
                  | ((with_reducible refine gDst 38 ?_); refine aLoad1 H _ rfl rfl HX39.out rfl ?_)
                  | ((with_reducible refine gDst 42 ?_); refine aLoad H _ rfl rfl HXP.out HPPL.out rfl ?_)
                  | ((with_reducible refine gSto (.tmp 10) (.tmp 42) ?_); refine aStore H _ _ rfl rfl rfl ⟨by rfl, HPPL.out⟩ HPPO.out rfl ?_; clear H; intro w' H; (try dsimp only at H))
                  | ((with_reducible refine gDst 44 ?_); refine aLoad1 H _ rfl rfl HX2.out rfl ?_)
                  | ((with_reducible refine gDst 48 ?_); refine aLoad1 H _ rfl rfl HX2.out rfl ?_)
                  | ((with_reducible refine gDst 55 ?_); refine aLoad1 H _ rfl rfl HX2k.out rfl ?_)
                  | ((with_reducible refine gDst 57 ?_); refine stepV (exec_loadA 33 _ rfl (adq.add (kq * 35)) rfl mk.cells _ (fun j u hu => HCQ.out _ (H.hold.rr (.slice (some adq) m cp)) j u hu) Tryd.underlying33 rfl (PT.info mk)) rfl ?_)
                  | ((with_reducible refine gSto (.tmp 10) (.tmp 57) ?_); refine aStore H _ _ rfl rfl rfl ⟨HPPL.out, HMKL.out⟩ HMKO.out rfl ?_; clear H; intro w' H; (try dsimp only at H))
                  | ((with_reducible refine gDst 60 ?_); refine aLoad H _ rfl rfl (part_all HXL.out) HXL.out rfl ?_)
                  | ((with_reducible refine gDst 61 ?_); refine aLoad H _ rfl rfl (part_all HQQ.out) HQQ.out rfl ?_)
                  | (go_at_call 25; have y := HDO.out _ (H.subS (D := bankL bk bd bo bm vw ss 7 st u)) (fun w2 hc => HT.out _ (H.chgS (D := bankL bk bd bo bm vw ss 7 st u) hc).below) (fun w2 hc => HRB.out.below (H.chgS (D := bankL bk bd bo bm vw ss 7 st u) hc).below); refine y.mono ?_; clear y; rintro e w' ⟨rfl, vw1, ss1, kk⟩; replace H := H.viaS kk; (try dsimp only at H); clear kk)
                  | ((with_reducible refine gSto (.tmp 11) (.tmp 62) ?_); refine aStore H _ _ rfl rfl rfl ⟨by rfl, TD.len _⟩ (TD.one _) rfl ?_; clear H; intro w' H; (try dsimp only at H))
                  | ((with_reducible refine gDst 64 ?_); refine aLoad1 H _ rfl rfl HX0.out rfl ?_)
                  | ((with_reducible refine gDst 68 ?_); refine aLoad1 H _ rfl rfl HT39.out rfl ?_)
                  | ((with_reducible refine gDst 73 ?_); refine aLoad H _ rfl rfl (TD.cP _) (PT.len _) rfl ?_)
                  | ((with_reducible refine gDst 74 ?_); refine stepV (xSlit1 sPT _ rfl _ rfl (PT.len _) (by decide)) rfl ?_)
                  | ((with_reducible refine gDst 75 ?_); refine aAppLit sPT [T.p] _ (pF_one _) (by simp) 1 rfl H _ _ rfl rfl rfl HMM.out rfl ?_; clear H; intro v75 w75 zs hz H; (try dsimp only at H))
                  | ((with_reducible refine gDst 3 ?_); refine aBox H _ rfl rfl rfl ?_; clear H; intro b3 w3 H)
                  | ((with_reducible refine gDst 9 ?_); refine aAlloc H rfl rfl ?_; clear H; intro b9 w9 H)
                  | ((with_reducible refine gDst 10 ?_); refine aAlloc H rfl rfl ?_; clear H; intro b10 w10 H)
                  | ((with_reducible refine gDst 11 ?_); refine aAlloc H rfl rfl ?_; clear H; intro b11 w11 H)
                  | ((with_reducible refine gLoad ?_); first | (refine aLoad1 H _ rfl rfl (by first | exact (rfl : _ = some (Value.int _ _)) | exact (rfl : _ = some (Value.slice _ _ _)) | exact (rfl : _ = some (Value.bool _)) | exact (rfl : _ = some (Value.string _)) | exact (rfl : _ = some (Value.pointer _)) | rfl | (simp [List.getElem?_append]; done)) rfl ?_) | (refine aLoadC _ rfl rfl (by assumption) rfl ?_) | (refine aLoad H _ rfl rfl (by first | exact part_all (by first | rfl | simp []) | (simp only [List.drop_succ_cons, List.drop_zero, List.take_succ_cons, List.take_zero]; rfl) | (simp [List.drop_append, List.take_append]; rfl)) (by first | rfl | simp []) rfl ?_))
                  | ((with_reducible refine gStore ?_); (first | (refine aStore H _ _ rfl rfl rfl (by (first | exact ⟨rfl, rfl⟩ | exact ⟨by decide, rfl⟩ | (simp []; done) | (constructor <;> simp [] <;> omega))) (by first | rfl | simp [List.all_append, one_all]) rfl ?_) | (refine aLay H _ _ rfl rfl rfl (by (first | exact ⟨rfl, rfl⟩ | exact ⟨by decide, rfl⟩ | (simp []; done) | (constructor <;> simp [] <;> omega))) (by first | rfl | simp [List.all_append, one_all]) (by simp only [lay, List.take_succ_cons, List.take_zero, List.drop_succ_cons, List.drop_zero, List.nil_append, List.cons_append, List.length_cons, List.length_nil, Nat.zero_add, Nat.reduceAdd]; rfl) rfl ?_)); clear H; intro w' H; try dsimp only at H)
                  | (at_builtin; refine aAppB1 _ H _ _ rfl rfl rfl (by first | omega | (have := HCL.out; omega)) rfl ?_; clear H; intro v' w' ys HY H; (try dsimp only at H); obtain ⟨A', c', rfl, hc'⟩ := (H.hold.rr v').len))
                go_meet
                case rel => exact ⟨pp, H⟩
            case rest =>
              obtain ⟨q, HS⟩ := hcut
              clear H
              have H := HS
              clear HS
              have HDO2 := Lib.hid (HDO.out q)
              have hact := HACT.out q
              clear HDO HACT
              have HDO := HDO2
              clear HDO2
              generalize doR 7 st u ⟨kd, cpx, wh, at_, pp, b⟩ q = DR at *
              obtain ⟨T, s1, uq⟩ := DR
              have HBK : Hid (BKw s1 uq 32 (2 * (i + 1))) := Lib.hid hact
              have HQQ := Lib.hid q.len
              have HT39 := Lib.hid T.c39
              generalize hTe : T.e = te at *
              clear hact hTe
              go_upto_region 14 with (first
                | ((with_reducible refine gDst 36 ?_); refine stepV (exec_loadA 54 _ rfl (ad0.add (i * 40)) rfl X _ (fun j u hu => HXC.out _ H.below j u hu) Tryd.underlying54 rfl HXI.out) rfl ?_)
                | ((with_reducible refine gSto (.tmp 9) (.tmp 36) ?_); refine aStore H _ _ rfl rfl rfl ⟨by rfl, HXL.out⟩ HXO.out rfl ?_; clear H; intro w' H; (try dsimp only at H))
                | ((with_reducible refine gDst 38 ?_); refine aLoad1 H _ rfl rfl HX39.out rfl ?_)
                | ((with_reducible refine gDst 42 ?_); refine aLoad H _ rfl rfl HXP.out HPPL.out rfl ?_)
                | ((with_reducible refine gSto (.tmp 10) (.tmp 42) ?_); refine aStore H _ _ rfl rfl rfl ⟨by rfl, HPPL.out⟩ HPPO.out rfl ?_; clear H; intro w' H; (try dsimp only at H))
                | ((with_reducible refine gDst 44 ?_); refine aLoad1 H _ rfl rfl HX2.out rfl ?_)
                | ((with_reducible refine gDst 48 ?_); refine aLoad1 H _ rfl rfl HX2.out rfl ?_)
                | ((with_reducible refine gDst 55 ?_); refine aLoad1 H _ rfl rfl HX2k.out rfl ?_)
                | ((with_reducible refine gDst 57 ?_); refine stepV (exec_loadA 33 _ rfl (adq.add (kq * 35)) rfl mk.cells _ (fun j u hu => HCQ.out _ (H.hold.rr (.slice (some adq) m cp)) j u hu) Tryd.underlying33 rfl (PT.info mk)) rfl ?_)
                | ((with_reducible refine gSto (.tmp 10) (.tmp 57) ?_); refine aStore H _ _ rfl rfl rfl ⟨HPPL.out, HMKL.out⟩ HMKO.out rfl ?_; clear H; intro w' H; (try dsimp only at H))
                | ((with_reducible refine gDst 60 ?_); refine aLoad H _ rfl rfl (part_all HXL.out) HXL.out rfl ?_)
                | ((with_reducible refine gDst 61 ?_); refine aLoad H _ rfl rfl (part_all HQQ.out) HQQ.out rfl ?_)
                | (go_at_call 25; have y := HDO.out _ (H.subS (D := bankL bk bd bo bm vw ss 7 st u)) (fun w2 hc => HT.out _ (H.chgS (D := bankL bk bd bo bm vw ss 7 st u) hc).below) (fun w2 hc => HRB.out.below (H.chgS (D := bankL bk bd bo bm vw ss 7 st u) hc).below); refine y.mono ?_; clear y; rintro e w' ⟨rfl, vw1, ss1, kk⟩; replace H := H.viaS kk; (try dsimp only at H); clear kk)
                | ((with_reducible refine gSto (.tmp 11) (.tmp 62) ?_); refine aStore H _ _ rfl rfl rfl ⟨by rfl, TD.len _⟩ (TD.one _) rfl ?_; clear H; intro w' H; (try dsimp only at H))
                | ((with_reducible refine gDst 64 ?_); refine aLoad1 H _ rfl rfl HX0.out rfl ?_)
                | ((with_reducible refine gDst 68 ?_); refine aLoad1 H _ rfl rfl HT39.out rfl ?_)
                | ((with_reducible refine gDst 73 ?_); refine aLoad H _ rfl rfl (TD.cP _) (PT.len _) rfl ?_)
                | ((with_reducible refine gDst 74 ?_); refine stepV (xSlit1 sPT _ rfl _ rfl (PT.len _) (by decide)) rfl ?_)
                | ((with_reducible refine gDst 75 ?_); refine aAppLit sPT [T.p] _ (pF_one _) (by simp) 1 rfl H _ _ rfl rfl rfl HMM.out rfl ?_; clear H; intro v75 w75 zs hz H; (try dsimp only at H))
                | ((with_reducible refine gDst 3 ?_); refine aBox H _ rfl rfl rfl ?_; clear H; intro b3 w3 H)
                | ((with_reducible refine gDst 9 ?_); refine aAlloc H rfl rfl ?_; clear H; intro b9 w9 H)
                | ((with_reducible refine gDst 10 ?_); refine aAlloc H rfl rfl ?_; clear H; intro b10 w10 H)
                | ((with_reducible refine gDst 11 ?_); refine aAlloc H rfl rfl ?_; clear H; intro b11 w11 H)
                | ((with_reducible refine gLoad ?_); first | (refine aLoad1 H _ rfl rfl (by first | exact (rfl : _ = some (Value.int _ _)) | exact (rfl : _ = some (Value.slice _ _ _)) | exact (rfl : _ = some (Value.bool _)) | exact (rfl : _ = some (Value.string _)) | exact (rfl : _ = some (Value.pointer _)) | rfl | (simp [List.getElem?_append]; done)) rfl ?_) | (refine aLoadC _ rfl rfl (by assumption) rfl ?_) | (refine aLoad H _ rfl rfl (by first | exact part_all (by first | rfl | simp []) | (simp only [List.drop_succ_cons, List.drop_zero, List.take_succ_cons, List.take_zero]; rfl) | (simp [List.drop_append, List.take_append]; rfl)) (by first | rfl | simp []) rfl ?_))
                | ((with_reducible refine gStore ?_); (first | (refine aStore H _ _ rfl rfl rfl (by (first | exact ⟨rfl, rfl⟩ | exact ⟨by decide, rfl⟩ | (simp []; done) | (constructor <;> simp [] <;> omega))) (by first | rfl | simp [List.all_append, one_all]) rfl ?_) | (refine aLay H _ _ rfl rfl rfl (by (first | exact ⟨rfl, rfl⟩ | exact ⟨by decide, rfl⟩ | (simp []; done) | (constructor <;> simp [] <;> omega))) (by first | rfl | simp [List.all_append, one_all]) (by simp only [lay, List.take_succ_cons, List.take_zero, List.drop_succ_cons, List.drop_zero, List.nil_append, List.cons_append, List.length_cons, List.length_nil, Nat.zero_add, Nat.reduceAdd]; rfl) rfl ?_)); clear H; intro w' H; try dsimp only at H)
                | (at_builtin; refine aAppB1 _ H _ _ rfl rfl rfl (by first | omega | (have := HCL.out; omega)) rfl ?_; clear H; intro v' w' ys HY H; (try dsimp only at H); obtain ⟨A', c', rfl, hc'⟩ := (H.hold.rr v').len))
              (try simp only [Act.put, List.setIfInBounds_toArray, List.set_cons_zero, List.set_cons_succ])
              go_cut [70] (fun v70 wx => v70 = .bool (decide (kd = 1 ∧ te = 0)) ∧ SH Nil w wx (.blk b11 56 T.cells :: .blk b10 33 q.cells :: .blk b9 54 X :: .row PTT (.slice (some adq) m cp) made :: .blk b3 33 p.cells :: bankL bk bd bo bm vw1 ss1 7 s1 uq))
              case first =>
                by_cases hk1 : kd = 1
                · have hk1a : (kd = 1) = True := eq_true hk1
                  have hk1b : (kd == 1) = true := beq_iff_eq.2 hk1
                  by_cases he0 : te = 0
                  · have he0a : (te = 0) = True := eq_true he0
                    have he0b : (te == 0) = true := beq_iff_eq.2 he0
                    have hd := decide_eq_true (And.intro hk1 he0)
                    clear hk1 he0
                    go_wp2_with (first
                      | ((with_reducible refine gDst 36 ?_); refine stepV (exec_loadA 54 _ rfl (ad0.add (i * 40)) rfl X _ (fun j u hu => HXC.out _ H.below j u hu) Tryd.underlying54 rfl HXI.out) rfl ?_)
                      | ((with_reducible refine gSto (.tmp 9) (.tmp 36) ?_); refine aStore H _ _ rfl rfl rfl ⟨by rfl, HXL.out⟩ HXO.out rfl ?_; clear H; intro w' H; (try dsimp only at H))
                      | ((with_reducible refine gDst 38 ?_); refine aLoad1 H _ rfl rfl HX39.out rfl ?_)
                      | ((with_reducible refine gDst 42 ?_); refine aLoad H _ rfl rfl HXP.out HPPL.out rfl ?_)
                      | ((with_reducible refine gSto (.tmp 10) (.tmp 42) ?_); refine aStore H _ _ rfl rfl rfl ⟨by rfl, HPPL.out⟩ HPPO.out rfl ?_; clear H; intro w' H; (try dsimp only at H))
                      | ((with_reducible refine gDst 44 ?_); refine aLoad1 H _ rfl rfl HX2.out rfl ?_)
                      | ((with_reducible refine gDst 48 ?_); refine aLoad1 H _ rfl rfl HX2.out rfl ?_)
                      | ((with_reducible refine gDst 55 ?_); refine aLoad1 H _ rfl rfl HX2k.out rfl ?_)
                      | ((with_reducible refine gDst 57 ?_); refine stepV (exec_loadA 33 _ rfl (adq.add (kq * 35)) rfl mk.cells _ (fun j u hu => HCQ.out _ (H.hold.rr (.slice (some adq) m cp)) j u hu) Tryd.underlying33 rfl (PT.info mk)) rfl ?_)
                      | ((with_reducible refine gSto (.tmp 10) (.tmp 57) ?_); refine aStore H _ _ rfl rfl rfl ⟨HPPL.out, HMKL.out⟩ HMKO.out rfl ?_; clear H; intro w' H; (try dsimp only at H))
                      | ((with_reducible refine gDst 60 ?_); refine aLoad H _ rfl rfl (part_all HXL.out) HXL.out rfl ?_)
                      | ((with_reducible refine gDst 61 ?_); refine aLoad H _ rfl rfl (part_all HQQ.out) HQQ.out rfl ?_)
                      | (go_at_call 25; have y := HDO.out _ (H.subS (D := bankL bk bd bo bm vw ss 7 st u)) (fun w2 hc => HT.out _ (H.chgS (D := bankL bk bd bo bm vw ss 7 st u) hc).below) (fun w2 hc => HRB.out.below (H.chgS (D := bankL bk bd bo bm vw ss 7 st u) hc).below); refine y.mono ?_; clear y; rintro e w' ⟨rfl, vw1, ss1, kk⟩; replace H := H.viaS kk; (try dsimp only at H); clear kk)
                      | ((with_reducible refine gSto (.tmp 11) (.tmp 62) ?_); refine aStore H _ _ rfl rfl rfl ⟨by rfl, TD.len _⟩ (TD.one _) rfl ?_; clear H; intro w' H; (try dsimp only at H))
                      | ((with_reducible refine gDst 64 ?_); refine aLoad1 H _ rfl rfl HX0.out rfl ?_)
                      | ((with_reducible refine gDst 68 ?_); refine aLoad1 H _ rfl rfl HT39.out rfl ?_)
                      | ((with_reducible refine gDst 73 ?_); refine aLoad H _ rfl rfl (TD.cP _) (PT.len _) rfl ?_)
                      | ((with_reducible refine gDst 74 ?_); refine stepV (xSlit1 sPT _ rfl _ rfl (PT.len _) (by decide)) rfl ?_)
                      | ((with_reducible refine gDst 75 ?_); refine aAppLit sPT [T.p] _ (pF_one _) (by simp) 1 rfl H _ _ rfl rfl rfl HMM.out rfl ?_; clear H; intro v75 w75 zs hz H; (try dsimp only at H))
                      | ((with_reducible refine gDst 3 ?_); refine aBox H _ rfl rfl rfl ?_; clear H; intro b3 w3 H)
                      | ((with_reducible refine gDst 9 ?_); refine aAlloc H rfl rfl ?_; clear H; intro b9 w9 H)
                      | ((with_reducible refine gDst 10 ?_); refine aAlloc H rfl rfl ?_; clear H; intro b10 w10 H)
                      | ((with_reducible refine gDst 11 ?_); refine aAlloc H rfl rfl ?_; clear H; intro b11 w11 H)
                      | ((with_reducible refine gLoad ?_); first | (refine aLoad1 H _ rfl rfl (by first | exact (rfl : _ = some (Value.int _ _)) | exact (rfl : _ = some (Value.slice _ _ _)) | exact (rfl : _ = some (Value.bool _)) | exact (rfl : _ = some (Value.string _)) | exact (rfl : _ = some (Value.pointer _)) | rfl | (simp [List.getElem?_append]; done)) rfl ?_) | (refine aLoadC _ rfl rfl (by assumption) rfl ?_) | (refine aLoad H _ rfl rfl (by first | exact part_all (by first | rfl | simp []) | (simp only [List.drop_succ_cons, List.drop_zero, List.take_succ_cons, List.take_zero]; rfl) | (simp [List.drop_append, List.take_append]; rfl)) (by first | rfl | simp []) rfl ?_))
                      | ((with_reducible refine gStore ?_); (first | (refine aStore H _ _ rfl rfl rfl (by (first | exact ⟨rfl, rfl⟩ | exact ⟨by decide, rfl⟩ | (simp []; done) | (constructor <;> simp [] <;> omega))) (by first | rfl | simp [List.all_append, one_all]) rfl ?_) | (refine aLay H _ _ rfl rfl rfl (by (first | exact ⟨rfl, rfl⟩ | exact ⟨by decide, rfl⟩ | (simp []; done) | (constructor <;> simp [] <;> omega))) (by first | rfl | simp [List.all_append, one_all]) (by simp only [lay, List.take_succ_cons, List.take_zero, List.drop_succ_cons, List.drop_zero, List.nil_append, List.cons_append, List.length_cons, List.length_nil, Nat.zero_add, Nat.reduceAdd]; rfl) rfl ?_)); clear H; intro w' H; try dsimp only at H)
                      | (at_builtin; refine aAppB1 _ H _ _ rfl rfl rfl (by first | omega | (have := HCL.out; omega)) rfl ?_; clear H; intro v' w' ys HY H; (try dsimp only at H); obtain ⟨A', c', rfl, hc'⟩ := (H.hold.rr v').len))
                    go_meet
                    case rel => exact ⟨by rw [hd], H⟩
                  · have he0a : (te = 0) = False := eq_false he0
                    have he0b : (te == 0) = false := beq_eq_false_iff_ne.2 he0
                    have hd : decide (kd = 1 ∧ te = 0) = false := decide_eq_false (fun h => he0 h.2)
                    clear hk1 he0
                    go_wp2_with (first
                      | ((with_reducible refine gDst 36 ?_); refine stepV (exec_loadA 54 _ rfl (ad0.add (i * 40)) rfl X _ (fun j u hu => HXC.out _ H.below j u hu) Tryd.underlying54 rfl HXI.out) rfl ?_)
                      | ((with_reducible refine gSto (.tmp 9) (.tmp 36) ?_); refine aStore H _ _ rfl rfl rfl ⟨by rfl, HXL.out⟩ HXO.out rfl ?_; clear H; intro w' H; (try dsimp only at H))
                      | ((with_reducible refine gDst 38 ?_); refine aLoad1 H _ rfl rfl HX39.out rfl ?_)
                      | ((with_reducible refine gDst 42 ?_); refine aLoad H _ rfl rfl HXP.out HPPL.out rfl ?_)
                      | ((with_reducible refine gSto (.tmp 10) (.tmp 42) ?_); refine aStore H _ _ rfl rfl rfl ⟨by rfl, HPPL.out⟩ HPPO.out rfl ?_; clear H; intro w' H; (try dsimp only at H))
                      | ((with_reducible refine gDst 44 ?_); refine aLoad1 H _ rfl rfl HX2.out rfl ?_)
                      | ((with_reducible refine gDst 48 ?_); refine aLoad1 H _ rfl rfl HX2.out rfl ?_)
                      | ((with_reducible refine gDst 55 ?_); refine aLoad1 H _ rfl rfl HX2k.out rfl ?_)
                      | ((with_reducible refine gDst 57 ?_); refine stepV (exec_loadA 33 _ rfl (adq.add (kq * 35)) rfl mk.cells _ (fun j u hu => HCQ.out _ (H.hold.rr (.slice (some adq) m cp)) j u hu) Tryd.underlying33 rfl (PT.info mk)) rfl ?_)
                      | ((with_reducible refine gSto (.tmp 10) (.tmp 57) ?_); refine aStore H _ _ rfl rfl rfl ⟨HPPL.out, HMKL.out⟩ HMKO.out rfl ?_; clear H; intro w' H; (try dsimp only at H))
                      | ((with_reducible refine gDst 60 ?_); refine aLoad H _ rfl rfl (part_all HXL.out) HXL.out rfl ?_)
                      | ((with_reducible refine gDst 61 ?_); refine aLoad H _ rfl rfl (part_all HQQ.out) HQQ.out rfl ?_)
                      | (go_at_call 25; have y := HDO.out _ (H.subS (D := bankL bk bd bo bm vw ss 7 st u)) (fun w2 hc => HT.out _ (H.chgS (D := bankL bk bd bo bm vw ss 7 st u) hc).below) (fun w2 hc => HRB.out.below (H.chgS (D := bankL bk bd bo bm vw ss 7 st u) hc).below); refine y.mono ?_; clear y; rintro e w' ⟨rfl, vw1, ss1, kk⟩; replace H := H.viaS kk; (try dsimp only at H); clear kk)
                      | ((with_reducible refine gSto (.tmp 11) (.tmp 62) ?_); refine aStore H _ _ rfl rfl rfl ⟨by rfl, TD.len _⟩ (TD.one _) rfl ?_; clear H; intro w' H; (try dsimp only at H))
                      | ((with_reducible refine gDst 64 ?_); refine aLoad1 H _ rfl rfl HX0.out rfl ?_)
                      | ((with_reducible refine gDst 68 ?_); refine aLoad1 H _ rfl rfl HT39.out rfl ?_)
                      | ((with_reducible refine gDst 73 ?_); refine aLoad H _ rfl rfl (TD.cP _) (PT.len _) rfl ?_)
                      | ((with_reducible refine gDst 74 ?_); refine stepV (xSlit1 sPT _ rfl _ rfl (PT.len _) (by decide)) rfl ?_)
                      | ((with_reducible refine gDst 75 ?_); refine aAppLit sPT [T.p] _ (pF_one _) (by simp) 1 rfl H _ _ rfl rfl rfl HMM.out rfl ?_; clear H; intro v75 w75 zs hz H; (try dsimp only at H))
                      | ((with_reducible refine gDst 3 ?_); refine aBox H _ rfl rfl rfl ?_; clear H; intro b3 w3 H)
                      | ((with_reducible refine gDst 9 ?_); refine aAlloc H rfl rfl ?_; clear H; intro b9 w9 H)
                      | ((with_reducible refine gDst 10 ?_); refine aAlloc H rfl rfl ?_; clear H; intro b10 w10 H)
                      | ((with_reducible refine gDst 11 ?_); refine aAlloc H rfl rfl ?_; clear H; intro b11 w11 H)
                      | ((with_reducible refine gLoad ?_); first | (refine aLoad1 H _ rfl rfl (by first | exact (rfl : _ = some (Value.int _ _)) | exact (rfl : _ = some (Value.slice _ _ _)) | exact (rfl : _ = some (Value.bool _)) | exact (rfl : _ = some (Value.string _)) | exact (rfl : _ = some (Value.pointer _)) | rfl | (simp [List.getElem?_append]; done)) rfl ?_) | (refine aLoadC _ rfl rfl (by assumption) rfl ?_) | (refine aLoad H _ rfl rfl (by first | exact part_all (by first | rfl | simp []) | (simp only [List.drop_succ_cons, List.drop_zero, List.take_succ_cons, List.take_zero]; rfl) | (simp [List.drop_append, List.take_append]; rfl)) (by first | rfl | simp []) rfl ?_))
                      | ((with_reducible refine gStore ?_); (first | (refine aStore H _ _ rfl rfl rfl (by (first | exact ⟨rfl, rfl⟩ | exact ⟨by decide, rfl⟩ | (simp []; done) | (constructor <;> simp [] <;> omega))) (by first | rfl | simp [List.all_append, one_all]) rfl ?_) | (refine aLay H _ _ rfl rfl rfl (by (first | exact ⟨rfl, rfl⟩ | exact ⟨by decide, rfl⟩ | (simp []; done) | (constructor <;> simp [] <;> omega))) (by first | rfl | simp [List.all_append, one_all]) (by simp only [lay, List.take_succ_cons, List.take_zero, List.drop_succ_cons, List.drop_zero, List.nil_append, List.cons_append, List.length_cons, List.length_nil, Nat.zero_add, Nat.reduceAdd]; rfl) rfl ?_)); clear H; intro w' H; try dsimp only at H)
                      | (at_builtin; refine aAppB1 _ H _ _ rfl rfl rfl (by first | omega | (have := HCL.out; omega)) rfl ?_; clear H; intro v' w' ys HY H; (try dsimp only at H); obtain ⟨A', c', rfl, hc'⟩ := (H.hold.rr v').len))
                    go_meet
                    case rel => exact ⟨by rw [hd], H⟩
                · have hk1a : (kd = 1) = False := eq_false hk1
                  have hk1b : (kd == 1) = false := beq_eq_false_iff_ne.2 hk1
                  have hd : decide (kd = 1 ∧ te = 0) = false := decide_eq_false (fun h => hk1 h.1)
                  clear hk1
                  go_wp2_with (first
                    | ((with_reducible refine gDst 36 ?_); refine stepV (exec_loadA 54 _ rfl (ad0.add (i * 40)) rfl X _ (fun j u hu => HXC.out _ H.below j u hu) Tryd.underlying54 rfl HXI.out) rfl ?_)
                    | ((with_reducible refine gSto (.tmp 9) (.tmp 36) ?_); refine aStore H _ _ rfl rfl rfl ⟨by rfl, HXL.out⟩ HXO.out rfl ?_; clear H; intro w' H; (try dsimp only at H))
                    | ((with_reducible refine gDst 38 ?_); refine aLoad1 H _ rfl rfl HX39.out rfl ?_)
                    | ((with_reducible refine gDst 42 ?_); refine aLoad H _ rfl rfl HXP.out HPPL.out rfl ?_)
                    | ((with_reducible refine gSto (.tmp 10) (.tmp 42) ?_); refine aStore H _ _ rfl rfl rfl ⟨by rfl, HPPL.out⟩ HPPO.out rfl ?_; clear H; intro w' H; (try dsimp only at H))
                    | ((with_reducible refine gDst 44 ?_); refine aLoad1 H _ rfl rfl HX2.out rfl ?_)
                    | ((with_reducible refine gDst 48 ?_); refine aLoad1 H _ rfl rfl HX2.out rfl ?_)
                    | ((with_reducible refine gDst 55 ?_); refine aLoad1 H _ rfl rfl HX2k.out rfl ?_)
                    | ((with_reducible refine gDst 57 ?_); refine stepV (exec_loadA 33 _ rfl (adq.add (kq * 35)) rfl mk.cells _ (fun j u hu => HCQ.out _ (H.hold.rr (.slice (some adq) m cp)) j u hu) Tryd.underlying33 rfl (PT.info mk)) rfl ?_)
                    | ((with_reducible refine gSto (.tmp 10) (.tmp 57) ?_); refine aStore H _ _ rfl rfl rfl ⟨HPPL.out, HMKL.out⟩ HMKO.out rfl ?_; clear H; intro w' H; (try dsimp only at H))
                    | ((with_reducible refine gDst 60 ?_); refine aLoad H _ rfl rfl (part_all HXL.out) HXL.out rfl ?_)
                    | ((with_reducible refine gDst 61 ?_); refine aLoad H _ rfl rfl (part_all HQQ.out) HQQ.out rfl ?_)
                    | (go_at_call 25; have y := HDO.out _ (H.subS (D := bankL bk bd bo bm vw ss 7 st u)) (fun w2 hc => HT.out _ (H.chgS (D := bankL bk bd bo bm vw ss 7 st u) hc).below) (fun w2 hc => HRB.out.below (H.chgS (D := bankL bk bd bo bm vw ss 7 st u) hc).below); refine y.mono ?_; clear y; rintro e w' ⟨rfl, vw1, ss1, kk⟩; replace H := H.viaS kk; (try dsimp only at H); clear kk)
                    | ((with_reducible refine gSto (.tmp 11) (.tmp 62) ?_); refine aStore H _ _ rfl rfl rfl ⟨by rfl, TD.len _⟩ (TD.one _) rfl ?_; clear H; intro w' H; (try dsimp only at H))
                    | ((with_reducible refine gDst 64 ?_); refine aLoad1 H _ rfl rfl HX0.out rfl ?_)
                    | ((with_reducible refine gDst 68 ?_); refine aLoad1 H _ rfl rfl HT39.out rfl ?_)
                    | ((with_reducible refine gDst 73 ?_); refine aLoad H _ rfl rfl (TD.cP _) (PT.len _) rfl ?_)
                    | ((with_reducible refine gDst 74 ?_); refine stepV (xSlit1 sPT _ rfl _ rfl (PT.len _) (by decide)) rfl ?_)
                    | ((with_reducible refine gDst 75 ?_); refine aAppLit sPT [T.p] _ (pF_one _) (by simp) 1 rfl H _ _ rfl rfl rfl HMM.out rfl ?_; clear H; intro v75 w75 zs hz H; (try dsimp only at H))
                    | ((with_reducible refine gDst 3 ?_); refine aBox H _ rfl rfl rfl ?_; clear H; intro b3 w3 H)
                    | ((with_reducible refine gDst 9 ?_); refine aAlloc H rfl rfl ?_; clear H; intro b9 w9 H)
                    | ((with_reducible refine gDst 10 ?_); refine aAlloc H rfl rfl ?_; clear H; intro b10 w10 H)
                    | ((with_reducible refine gDst 11 ?_); refine aAlloc H rfl rfl ?_; clear H; intro b11 w11 H)
                    | ((with_reducible refine gLoad ?_); first | (refine aLoad1 H _ rfl rfl (by first | exact (rfl : _ = some (Value.int _ _)) | exact (rfl : _ = some (Value.slice _ _ _)) | exact (rfl : _ = some (Value.bool _)) | exact (rfl : _ = some (Value.string _)) | exact (rfl : _ = some (Value.pointer _)) | rfl | (simp [List.getElem?_append]; done)) rfl ?_) | (refine aLoadC _ rfl rfl (by assumption) rfl ?_) | (refine aLoad H _ rfl rfl (by first | exact part_all (by first | rfl | simp []) | (simp only [List.drop_succ_cons, List.drop_zero, List.take_succ_cons, List.take_zero]; rfl) | (simp [List.drop_append, List.take_append]; rfl)) (by first | rfl | simp []) rfl ?_))
                    | ((with_reducible refine gStore ?_); (first | (refine aStore H _ _ rfl rfl rfl (by (first | exact ⟨rfl, rfl⟩ | exact ⟨by decide, rfl⟩ | (simp []; done) | (constructor <;> simp [] <;> omega))) (by first | rfl | simp [List.all_append, one_all]) rfl ?_) | (refine aLay H _ _ rfl rfl rfl (by (first | exact ⟨rfl, rfl⟩ | exact ⟨by decide, rfl⟩ | (simp []; done) | (constructor <;> simp [] <;> omega))) (by first | rfl | simp [List.all_append, one_all]) (by simp only [lay, List.take_succ_cons, List.take_zero, List.drop_succ_cons, List.drop_zero, List.nil_append, List.cons_append, List.length_cons, List.length_nil, Nat.zero_add, Nat.reduceAdd]; rfl) rfl ?_)); clear H; intro w' H; try dsimp only at H)
                    | (at_builtin; refine aAppB1 _ H _ _ rfl rfl rfl (by first | omega | (have := HCL.out; omega)) rfl ?_; clear H; intro v' w' ys HY H; (try dsimp only at H); obtain ⟨A', c', rfl, hc'⟩ := (H.hold.rr v').len))
                  go_meet
                  case rel => exact ⟨by rw [hd], H⟩
              case rest =>
                obtain ⟨rfl, HS⟩ := hcut
                clear H
                have H := HS
                clear HS
                go_upto_if 70 with fail
                (try simp only [Act.put, List.setIfInBounds_toArray, List.set_cons_zero, List.set_cons_succ])
                go_cut [7] (fun v7 wx => ∃ (ad2 : Addr) (m2 c2 : Nat) (made2 : List PT), v7 = .slice (some ad2) m2 c2 ∧ Hid (made2.length = m2 ∧ 1 ≤ m2 ∧ m2 ≤ i + 1 + 1) ∧ SH Nil w wx (.blk b11 56 T.cells :: .blk b10 33 q.cells :: .blk b9 54 X :: .row PTT (.slice (some ad2) m2 c2) made2 :: .blk b3 33 p.cells :: bankL bk bd bo bm vw1 ss1 7 s1 uq))
                case first =>
                  cases hd : decide (kd = 1 ∧ te = 0) with
                  | true =>
                    clear hd
                    have HMM := Lib.hid (show (made.length + 1) * sPT.bytes ≤ 140737488355328 by rw [show sPT.bytes = 44 from rfl, HJ.out]; omega)
                    go_wp2_with (first
                      | ((with_reducible refine gDst 36 ?_); refine stepV (exec_loadA 54 _ rfl (ad0.add (i * 40)) rfl X _ (fun j u hu => HXC.out _ H.below j u hu) Tryd.underlying54 rfl HXI.out) rfl ?_)
                      | ((with_reducible refine gSto (.tmp 9) (.tmp 36) ?_); refine aStore H _ _ rfl rfl rfl ⟨by rfl, HXL.out⟩ HXO.out rfl ?_; clear H; intro w' H; (try dsimp only at H))
                      | ((with_reducible refine gDst 38 ?_); refine aLoad1 H _ rfl rfl HX39.out rfl ?_)
                      | ((with_reducible refine gDst 42 ?_); refine aLoad H _ rfl rfl HXP.out HPPL.out rfl ?_)
                      | ((with_reducible refine gSto (.tmp 10) (.tmp 42) ?_); refine aStore H _ _ rfl rfl rfl ⟨by rfl, HPPL.out⟩ HPPO.out rfl ?_; clear H; intro w' H; (try dsimp only at H))
                      | ((with_reducible refine gDst 44 ?_); refine aLoad1 H _ rfl rfl HX2.out rfl ?_)
                      | ((with_reducible refine gDst 48 ?_); refine aLoad1 H _ rfl rfl HX2.out rfl ?_)
                      | ((with_reducible refine gDst 55 ?_); refine aLoad1 H _ rfl rfl HX2k.out rfl ?_)
                      | ((with_reducible refine gDst 57 ?_); refine stepV (exec_loadA 33 _ rfl (adq.add (kq * 35)) rfl mk.cells _ (fun j u hu => HCQ.out _ (H.hold.rr (.slice (some adq) m cp)) j u hu) Tryd.underlying33 rfl (PT.info mk)) rfl ?_)
                      | ((with_reducible refine gSto (.tmp 10) (.tmp 57) ?_); refine aStore H _ _ rfl rfl rfl ⟨HPPL.out, HMKL.out⟩ HMKO.out rfl ?_; clear H; intro w' H; (try dsimp only at H))
                      | ((with_reducible refine gDst 60 ?_); refine aLoad H _ rfl rfl (part_all HXL.out) HXL.out rfl ?_)
                      | ((with_reducible refine gDst 61 ?_); refine aLoad H _ rfl rfl (part_all HQQ.out) HQQ.out rfl ?_)
                      | (go_at_call 25; have y := HDO.out _ (H.subS (D := bankL bk bd bo bm vw ss 7 st u)) (fun w2 hc => HT.out _ (H.chgS (D := bankL bk bd bo bm vw ss 7 st u) hc).below) (fun w2 hc => HRB.out.below (H.chgS (D := bankL bk bd bo bm vw ss 7 st u) hc).below); refine y.mono ?_; clear y; rintro e w' ⟨rfl, vw1, ss1, kk⟩; replace H := H.viaS kk; (try dsimp only at H); clear kk)
                      | ((with_reducible refine gSto (.tmp 11) (.tmp 62) ?_); refine aStore H _ _ rfl rfl rfl ⟨by rfl, TD.len _⟩ (TD.one _) rfl ?_; clear H; intro w' H; (try dsimp only at H))
                      | ((with_reducible refine gDst 64 ?_); refine aLoad1 H _ rfl rfl HX0.out rfl ?_)
                      | ((with_reducible refine gDst 68 ?_); refine aLoad1 H _ rfl rfl HT39.out rfl ?_)
                      | ((with_reducible refine gDst 73 ?_); refine aLoad H _ rfl rfl (TD.cP _) (PT.len _) rfl ?_)
                      | ((with_reducible refine gDst 74 ?_); refine stepV (xSlit1 sPT _ rfl _ rfl (PT.len _) (by decide)) rfl ?_)
                      | ((with_reducible refine gDst 75 ?_); refine aAppLit sPT [T.p] _ (pF_one _) (by simp) 1 rfl H _ _ rfl rfl rfl HMM.out rfl ?_; clear H; intro v75 w75 zs hz H; (try dsimp only at H))
                      | ((with_reducible refine gDst 3 ?_); refine aBox H _ rfl rfl rfl ?_; clear H; intro b3 w3 H)
                      | ((with_reducible refine gDst 9 ?_); refine aAlloc H rfl rfl ?_; clear H; intro b9 w9 H)
                      | ((with_reducible refine gDst 10 ?_); refine aAlloc H rfl rfl ?_; clear H; intro b10 w10 H)
                      | ((with_reducible refine gDst 11 ?_); refine aAlloc H rfl rfl ?_; clear H; intro b11 w11 H)
                      | ((with_reducible refine gLoad ?_); first | (refine aLoad1 H _ rfl rfl (by first | exact (rfl : _ = some (Value.int _ _)) | exact (rfl : _ = some (Value.slice _ _ _)) | exact (rfl : _ = some (Value.bool _)) | exact (rfl : _ = some (Value.string _)) | exact (rfl : _ = some (Value.pointer _)) | rfl | (simp [List.getElem?_append]; done)) rfl ?_) | (refine aLoadC _ rfl rfl (by assumption) rfl ?_) | (refine aLoad H _ rfl rfl (by first | exact part_all (by first | rfl | simp []) | (simp only [List.drop_succ_cons, List.drop_zero, List.take_succ_cons, List.take_zero]; rfl) | (simp [List.drop_append, List.take_append]; rfl)) (by first | rfl | simp []) rfl ?_))
                      | ((with_reducible refine gStore ?_); (first | (refine aStore H _ _ rfl rfl rfl (by (first | exact ⟨rfl, rfl⟩ | exact ⟨by decide, rfl⟩ | (simp []; done) | (constructor <;> simp [] <;> omega))) (by first | rfl | simp [List.all_append, one_all]) rfl ?_) | (refine aLay H _ _ rfl rfl rfl (by (first | exact ⟨rfl, rfl⟩ | exact ⟨by decide, rfl⟩ | (simp []; done) | (constructor <;> simp [] <;> omega))) (by first | rfl | simp [List.all_append, one_all]) (by simp only [lay, List.take_succ_cons, List.take_zero, List.drop_succ_cons, List.drop_zero, List.nil_append, List.cons_append, List.length_cons, List.length_nil, Nat.zero_add, Nat.reduceAdd]; rfl) rfl ?_)); clear H; intro w' H; try dsimp only at H)
                      | (at_builtin; refine aAppB1 _ H _ _ rfl rfl rfl (by first | omega | (have := HCL.out; omega)) rfl ?_; clear H; intro v' w' ys HY H; (try dsimp only at H); obtain ⟨A', c', rfl, hc'⟩ := (H.hold.rr v').len))
                    rw [hz.out] at H
                    clear hz
                    have HML : Hid ((made ++ [T.p]).length = m + 1) := Lib.hid (by rw [List.length_append, HJ.out]; rfl)
                    go_meet
                    case rel =>
                      obtain ⟨A2, c2, hv75, -⟩ := (H.hold.rr v75).len
                      rw [HML.out] at hv75
                      subst hv75
                      obtain ⟨ad2, hA2, -⟩ := ptCell (H.hold.rr (.slice A2 (m + 1) c2)) 0 (by rw [HML.out]; omega)
                      subst hA2
                      exact ⟨ad2, m + 1, c2, made ++ [T.p], rfl, Lib.hid ⟨HML.out, by omega, by omega⟩, H⟩
                  | false =>
                    clear hd
                    go_wp2_with (first
                      | ((with_reducible refine gDst 36 ?_); refine stepV (exec_loadA 54 _ rfl (ad0.add (i * 40)) rfl X _ (fun j u hu => HXC.out _ H.below j u hu) Tryd.underlying54 rfl HXI.out) rfl ?_)
                      | ((with_reducible refine gSto (.tmp 9) (.tmp 36) ?_); refine aStore H _ _ rfl rfl rfl ⟨by rfl, HXL.out⟩ HXO.out rfl ?_; clear H; intro w' H; (try dsimp only at H))
                      | ((with_reducible refine gDst 38 ?_); refine aLoad1 H _ rfl rfl HX39.out rfl ?_)
                      | ((with_reducible refine gDst 42 ?_); refine aLoad H _ rfl rfl HXP.out HPPL.out rfl ?_)
                      | ((with_reducible refine gSto (.tmp 10) (.tmp 42) ?_); refine aStore H _ _ rfl rfl rfl ⟨by rfl, HPPL.out⟩ HPPO.out rfl ?_; clear H; intro w' H; (try dsimp only at H))
                      | ((with_reducible refine gDst 44 ?_); refine aLoad1 H _ rfl rfl HX2.out rfl ?_)
                      | ((with_reducible refine gDst 48 ?_); refine aLoad1 H _ rfl rfl HX2.out rfl ?_)
                      | ((with_reducible refine gDst 55 ?_); refine aLoad1 H _ rfl rfl HX2k.out rfl ?_)
                      | ((with_reducible refine gDst 57 ?_); refine stepV (exec_loadA 33 _ rfl (adq.add (kq * 35)) rfl mk.cells _ (fun j u hu => HCQ.out _ (H.hold.rr (.slice (some adq) m cp)) j u hu) Tryd.underlying33 rfl (PT.info mk)) rfl ?_)
                      | ((with_reducible refine gSto (.tmp 10) (.tmp 57) ?_); refine aStore H _ _ rfl rfl rfl ⟨HPPL.out, HMKL.out⟩ HMKO.out rfl ?_; clear H; intro w' H; (try dsimp only at H))
                      | ((with_reducible refine gDst 60 ?_); refine aLoad H _ rfl rfl (part_all HXL.out) HXL.out rfl ?_)
                      | ((with_reducible refine gDst 61 ?_); refine aLoad H _ rfl rfl (part_all HQQ.out) HQQ.out rfl ?_)
                      | (go_at_call 25; have y := HDO.out _ (H.subS (D := bankL bk bd bo bm vw ss 7 st u)) (fun w2 hc => HT.out _ (H.chgS (D := bankL bk bd bo bm vw ss 7 st u) hc).below) (fun w2 hc => HRB.out.below (H.chgS (D := bankL bk bd bo bm vw ss 7 st u) hc).below); refine y.mono ?_; clear y; rintro e w' ⟨rfl, vw1, ss1, kk⟩; replace H := H.viaS kk; (try dsimp only at H); clear kk)
                      | ((with_reducible refine gSto (.tmp 11) (.tmp 62) ?_); refine aStore H _ _ rfl rfl rfl ⟨by rfl, TD.len _⟩ (TD.one _) rfl ?_; clear H; intro w' H; (try dsimp only at H))
                      | ((with_reducible refine gDst 64 ?_); refine aLoad1 H _ rfl rfl HX0.out rfl ?_)
                      | ((with_reducible refine gDst 68 ?_); refine aLoad1 H _ rfl rfl HT39.out rfl ?_)
                      | ((with_reducible refine gDst 73 ?_); refine aLoad H _ rfl rfl (TD.cP _) (PT.len _) rfl ?_)
                      | ((with_reducible refine gDst 74 ?_); refine stepV (xSlit1 sPT _ rfl _ rfl (PT.len _) (by decide)) rfl ?_)
                      | ((with_reducible refine gDst 75 ?_); refine aAppLit sPT [T.p] _ (pF_one _) (by simp) 1 rfl H _ _ rfl rfl rfl HMM.out rfl ?_; clear H; intro v75 w75 zs hz H; (try dsimp only at H))
                      | ((with_reducible refine gDst 3 ?_); refine aBox H _ rfl rfl rfl ?_; clear H; intro b3 w3 H)
                      | ((with_reducible refine gDst 9 ?_); refine aAlloc H rfl rfl ?_; clear H; intro b9 w9 H)
                      | ((with_reducible refine gDst 10 ?_); refine aAlloc H rfl rfl ?_; clear H; intro b10 w10 H)
                      | ((with_reducible refine gDst 11 ?_); refine aAlloc H rfl rfl ?_; clear H; intro b11 w11 H)
                      | ((with_reducible refine gLoad ?_); first | (refine aLoad1 H _ rfl rfl (by first | exact (rfl : _ = some (Value.int _ _)) | exact (rfl : _ = some (Value.slice _ _ _)) | exact (rfl : _ = some (Value.bool _)) | exact (rfl : _ = some (Value.string _)) | exact (rfl : _ = some (Value.pointer _)) | rfl | (simp [List.getElem?_append]; done)) rfl ?_) | (refine aLoadC _ rfl rfl (by assumption) rfl ?_) | (refine aLoad H _ rfl rfl (by first | exact part_all (by first | rfl | simp []) | (simp only [List.drop_succ_cons, List.drop_zero, List.take_succ_cons, List.take_zero]; rfl) | (simp [List.drop_append, List.take_append]; rfl)) (by first | rfl | simp []) rfl ?_))
                      | ((with_reducible refine gStore ?_); (first | (refine aStore H _ _ rfl rfl rfl (by (first | exact ⟨rfl, rfl⟩ | exact ⟨by decide, rfl⟩ | (simp []; done) | (constructor <;> simp [] <;> omega))) (by first | rfl | simp [List.all_append, one_all]) rfl ?_) | (refine aLay H _ _ rfl rfl rfl (by (first | exact ⟨rfl, rfl⟩ | exact ⟨by decide, rfl⟩ | (simp []; done) | (constructor <;> simp [] <;> omega))) (by first | rfl | simp [List.all_append, one_all]) (by simp only [lay, List.take_succ_cons, List.take_zero, List.drop_succ_cons, List.drop_zero, List.nil_append, List.cons_append, List.length_cons, List.length_nil, Nat.zero_add, Nat.reduceAdd]; rfl) rfl ?_)); clear H; intro w' H; try dsimp only at H)
                      | (at_builtin; refine aAppB1 _ H _ _ rfl rfl rfl (by first | omega | (have := HCL.out; omega)) rfl ?_; clear H; intro v' w' ys HY H; (try dsimp only at H); obtain ⟨A', c', rfl, hc'⟩ := (H.hold.rr v').len))
                    go_meet
                    case rel => exact ⟨adq, m, cp, made, rfl, Lib.hid ⟨HJ.out, by omega, by omega⟩, H⟩
                case rest =>
                  obtain ⟨ad2, m2, c2, made2, rfl, HML, HS⟩ := hcut
                  clear H
                  have H := HS
                  clear HS
                  have hm2b : m2 ≤ 31 := by have := HML.out.2.2; omega
                  go_wp2_with (first
                    | ((with_reducible refine gDst 36 ?_); refine stepV (exec_loadA 54 _ rfl (ad0.add (i * 40)) rfl X _ (fun j u hu => HXC.out _ H.below j u hu) Tryd.underlying54 rfl HXI.out) rfl ?_)
                    | ((with_reducible refine gSto (.tmp 9) (.tmp 36) ?_); refine aStore H _ _ rfl rfl rfl ⟨by rfl, HXL.out⟩ HXO.out rfl ?_; clear H; intro w' H; (try dsimp only at H))
                    | ((with_reducible refine gDst 38 ?_); refine aLoad1 H _ rfl rfl HX39.out rfl ?_)
                    | ((with_reducible refine gDst 42 ?_); refine aLoad H _ rfl rfl HXP.out HPPL.out rfl ?_)
                    | ((with_reducible refine gSto (.tmp 10) (.tmp 42) ?_); refine aStore H _ _ rfl rfl rfl ⟨by rfl, HPPL.out⟩ HPPO.out rfl ?_; clear H; intro w' H; (try dsimp only at H))
                    | ((with_reducible refine gDst 44 ?_); refine aLoad1 H _ rfl rfl HX2.out rfl ?_)
                    | ((with_reducible refine gDst 48 ?_); refine aLoad1 H _ rfl rfl HX2.out rfl ?_)
                    | ((with_reducible refine gDst 55 ?_); refine aLoad1 H _ rfl rfl HX2k.out rfl ?_)
                    | ((with_reducible refine gDst 57 ?_); refine stepV (exec_loadA 33 _ rfl (adq.add (kq * 35)) rfl mk.cells _ (fun j u hu => HCQ.out _ (H.hold.rr (.slice (some adq) m cp)) j u hu) Tryd.underlying33 rfl (PT.info mk)) rfl ?_)
                    | ((with_reducible refine gSto (.tmp 10) (.tmp 57) ?_); refine aStore H _ _ rfl rfl rfl ⟨HPPL.out, HMKL.out⟩ HMKO.out rfl ?_; clear H; intro w' H; (try dsimp only at H))
                    | ((with_reducible refine gDst 60 ?_); refine aLoad H _ rfl rfl (part_all HXL.out) HXL.out rfl ?_)
                    | ((with_reducible refine gDst 61 ?_); refine aLoad H _ rfl rfl (part_all HQQ.out) HQQ.out rfl ?_)
                    | (go_at_call 25; have y := HDO.out _ (H.subS (D := bankL bk bd bo bm vw ss 7 st u)) (fun w2 hc => HT.out _ (H.chgS (D := bankL bk bd bo bm vw ss 7 st u) hc).below) (fun w2 hc => HRB.out.below (H.chgS (D := bankL bk bd bo bm vw ss 7 st u) hc).below); refine y.mono ?_; clear y; rintro e w' ⟨rfl, vw1, ss1, kk⟩; replace H := H.viaS kk; (try dsimp only at H); clear kk)
                    | ((with_reducible refine gSto (.tmp 11) (.tmp 62) ?_); refine aStore H _ _ rfl rfl rfl ⟨by rfl, TD.len _⟩ (TD.one _) rfl ?_; clear H; intro w' H; (try dsimp only at H))
                    | ((with_reducible refine gDst 64 ?_); refine aLoad1 H _ rfl rfl HX0.out rfl ?_)
                    | ((with_reducible refine gDst 68 ?_); refine aLoad1 H _ rfl rfl HT39.out rfl ?_)
                    | ((with_reducible refine gDst 73 ?_); refine aLoad H _ rfl rfl (TD.cP _) (PT.len _) rfl ?_)
                    | ((with_reducible refine gDst 74 ?_); refine stepV (xSlit1 sPT _ rfl _ rfl (PT.len _) (by decide)) rfl ?_)
                    | ((with_reducible refine gDst 75 ?_); refine aAppLit sPT [T.p] _ (pF_one _) (by simp) 1 rfl H _ _ rfl rfl rfl HMM.out rfl ?_; clear H; intro v75 w75 zs hz H; (try dsimp only at H))
                    | ((with_reducible refine gDst 3 ?_); refine aBox H _ rfl rfl rfl ?_; clear H; intro b3 w3 H)
                    | ((with_reducible refine gDst 9 ?_); refine aAlloc H rfl rfl ?_; clear H; intro b9 w9 H)
                    | ((with_reducible refine gDst 10 ?_); refine aAlloc H rfl rfl ?_; clear H; intro b10 w10 H)
                    | ((with_reducible refine gDst 11 ?_); refine aAlloc H rfl rfl ?_; clear H; intro b11 w11 H)
                    | ((with_reducible refine gLoad ?_); first | (refine aLoad1 H _ rfl rfl (by first | exact (rfl : _ = some (Value.int _ _)) | exact (rfl : _ = some (Value.slice _ _ _)) | exact (rfl : _ = some (Value.bool _)) | exact (rfl : _ = some (Value.string _)) | exact (rfl : _ = some (Value.pointer _)) | rfl | (simp [List.getElem?_append]; done)) rfl ?_) | (refine aLoadC _ rfl rfl (by assumption) rfl ?_) | (refine aLoad H _ rfl rfl (by first | exact part_all (by first | rfl | simp []) | (simp only [List.drop_succ_cons, List.drop_zero, List.take_succ_cons, List.take_zero]; rfl) | (simp [List.drop_append, List.take_append]; rfl)) (by first | rfl | simp []) rfl ?_))
                    | ((with_reducible refine gStore ?_); (first | (refine aStore H _ _ rfl rfl rfl (by (first | exact ⟨rfl, rfl⟩ | exact ⟨by decide, rfl⟩ | (simp []; done) | (constructor <;> simp [] <;> omega))) (by first | rfl | simp [List.all_append, one_all]) rfl ?_) | (refine aLay H _ _ rfl rfl rfl (by (first | exact ⟨rfl, rfl⟩ | exact ⟨by decide, rfl⟩ | (simp []; done) | (constructor <;> simp [] <;> omega))) (by first | rfl | simp [List.all_append, one_all]) (by simp only [lay, List.take_succ_cons, List.take_zero, List.drop_succ_cons, List.drop_zero, List.nil_append, List.cons_append, List.length_cons, List.length_nil, Nat.zero_add, Nat.reduceAdd]; rfl) rfl ?_)); clear H; intro w' H; try dsimp only at H)
                    | (at_builtin; refine aAppB1 _ H _ _ rfl rfl rfl (by first | omega | (have := HCL.out; omega)) rfl ?_; clear H; intro v' w' ys HY H; (try dsimp only at H); obtain ⟨A', c', rfl, hc'⟩ := (H.hold.rr v').len))
                  have HL2 := H
                  clear H
                  go_loopw [12] (fun v12 wr => Kept (∃ jj : Nat, v12 = .int .i64 (jj : Int) ∧ jj ≤ m2 ∧ SH Nil w wr (.blk b11 56 T.cells :: .blk b10 33 q.cells :: .blk b9 54 X :: .row PTT (.slice (some ad2) m2 c2) made2 :: .blk b3 33 p.cells :: bankL bk bd bo bm vw1 ss1 7 s1 uq))) (fun v _ => m2 - (intOf v).toNat)
                  case atStart => exact ⟨⟨0, rfl, by omega, HL2⟩⟩
                  case round =>
                    obtain ⟨jj, rfl, hjj, HS⟩ := hrel.out
                    clear HL2
                    have H := HS
                    clear HS
                    by_cases hjm : jj < m2
                    · have hjmi : (jj : Int) < (m2 : Int) := by omega
                      have HCELL := Lib.hid (fun W (k : RR PTT W (.slice (some ad2) m2 c2) made2) => (by
                        obtain ⟨ad3, e2, hc2⟩ := ptCell k jj (by rw [HML.out.1]; exact hjm)
                        injection e2 with e2
                        subst e2
                        exact hc2 : ∀ (j : Nat) (u : Value), ((made2).getD jj PT.hole).cells[j]? = some u → W.cell? ((ad2.add (jj * 35)).add j) = some u))
                      generalize (made2).getD jj PT.hole = q2 at *
                      have hbr := fun W y => bRead_any (bk := bk) (bd := bd) (bo := bo) (bm := bm) (vw := vw1) (ss := ss1) (t := 7) q2 HBK.out.ok W y
                      rw [HBK.out.len] at hbr
                      have HHI := Lib.hid (show (Tryd.prog.info? 29).map (·.size) = some (q2.hash.map cb).length by rw [List.length_map, q2.hl]; kernel_rfl)
                      by_cases hE : brE s1 32 q2 = 0
                      · have hbl : (brB s1 32 q2).length = 256 := brB_len HBK.out.d.ok hE
                        have hrt := brB_right hE
                        rw [hE] at hbr
                        have HRD : Hid (∀ W, HOLD (bankL bk bd bo bm vw1 ss1 7 s1 uq) W → Calls Tryd.prog 18 #[.pointer (some ⟨bk, 0, none⟩), .agg q2.cells.toArray] W fun e w' => ∃ A c, e = .returned (.tuple #[.slice A 256 c, .int .i64 0]) ∧ OB w' W.heap.size (.slice A 256 c) (brB s1 32 q2) ∧ Below W.heap.size W w') := Lib.hid fun W y => (hbr W y).mono fun e w' ⟨v, h1, h2, _, h3⟩ => by
                          obtain ⟨A, c, rfl, -⟩ := (h2 rfl).reads.len
                          rw [hbl] at h1 h2
                          exact ⟨A, c, h1, h2 rfl, h3⟩
                        have HSUM := Lib.hid (fun v W (h : RB W v (brB s1 32 q2)) => Sum_any v _ W h (by rw [hbl]; decide))
                        have HEQ := Lib.hid (fun W => bh32_eql (shaL (brB s1 32 q2)) q2.hash (shaL_len _) q2.hl W)
                        clear hbr hbl hE
                        generalize brB s1 32 q2 = B at *
                        by_cases hs : shaL B = q2.hash
                        · have hse : (shaL B == q2.hash) = true := beq_iff_eq.2 hs
                          rw [hse] at HEQ
                          clear hse hs hrt
                          go_wp2_with (first
                            | ((with_reducible refine gDst 87 ?_); refine stepV (exec_loadA 33 _ rfl (ad2.add (jj * 35)) rfl q2.cells _ (fun j u hu => HCELL.out _ (H.hold.rr (.slice (some ad2) m2 c2)) j u hu) Tryd.underlying33 rfl (PT.info q2)) rfl ?_)
                            | (go_at_call 18; refine (HRD.out _ (HOLD.suf (D := bankL bk bd bo bm vw1 ss1 7 s1 uq) H.hold)).mono ?_; first | (rintro e w' ⟨A88, c88, rfl, ho, hb⟩; replace H := H.pushRow hb ho; clear hb ho) | (rintro e w' ⟨rfl, hb⟩; replace H := H.step hb; clear hb))
                            | ((with_reducible refine gDst 3 ?_); refine aBox H _ rfl rfl rfl ?_; clear H; intro b3 w3 H)
                            | ((with_reducible refine gDst 9 ?_); refine aAlloc H rfl rfl ?_; clear H; intro b9 w9 H)
                            | ((with_reducible refine gDst 10 ?_); refine aAlloc H rfl rfl ?_; clear H; intro b10 w10 H)
                            | ((with_reducible refine gDst 11 ?_); refine aAlloc H rfl rfl ?_; clear H; intro b11 w11 H)
                            | ((with_reducible refine gLoad ?_); first | (refine aLoad1 H _ rfl rfl (by first | exact (rfl : _ = some (Value.int _ _)) | exact (rfl : _ = some (Value.slice _ _ _)) | exact (rfl : _ = some (Value.bool _)) | exact (rfl : _ = some (Value.string _)) | exact (rfl : _ = some (Value.pointer _)) | rfl | (simp [List.getElem?_append]; done)) rfl ?_) | (refine aLoadC _ rfl rfl (by assumption) rfl ?_) | (refine aLoad H _ rfl rfl (by first | exact part_all (by first | rfl | simp []) | (simp only [List.drop_succ_cons, List.drop_zero, List.take_succ_cons, List.take_zero]; rfl) | (simp [List.drop_append, List.take_append]; rfl)) (by first | rfl | simp []) rfl ?_))
                            | ((with_reducible refine gStore ?_); (first | (refine aStore H _ _ rfl rfl rfl (by (first | exact ⟨rfl, rfl⟩ | exact ⟨by decide, rfl⟩ | (simp []; done) | (constructor <;> simp [] <;> omega))) (by first | rfl | simp [List.all_append, one_all]) rfl ?_) | (refine aLay H _ _ rfl rfl rfl (by (first | exact ⟨rfl, rfl⟩ | exact ⟨by decide, rfl⟩ | (simp []; done) | (constructor <;> simp [] <;> omega))) (by first | rfl | simp [List.all_append, one_all]) (by simp only [lay, List.take_succ_cons, List.take_zero, List.drop_succ_cons, List.drop_zero, List.nil_append, List.cons_append, List.length_cons, List.length_nil, Nat.zero_add, Nat.reduceAdd]; rfl) rfl ?_)); clear H; intro w' H; try dsimp only at H)
                            | (at_builtin; refine aAppB1 _ H _ _ rfl rfl rfl (by first | omega | (have := HCL.out; omega)) rfl ?_; clear H; intro v' w' ys HY H; (try dsimp only at H); obtain ⟨A', c', rfl, hc'⟩ := (H.hold.rr v').len))
                          refine startA (fun i => false) (by kernel_rfl) (fun wS hS => ?_)
                          replace H := H.drew
                          rw [← hS] at H
                          have HH := H.hold
                          have HS0 : Below wS.heap.size wS wS := Below.refl _ _
                          clear hS
                          refine takeP 0 rfl (by kernel_rfl) (by kernel_rfl) (by kernel_rfl) (by kernel_rfl) (fun _ _ _ h => h) rfl (v := ?_) ?_ ?_
                          rotate_left
                          · intro w'; go_simp; (try with_reducible rfl)
                          (try simp only [Act.put, List.setIfInBounds_toArray, List.set_cons_zero, List.set_cons_succ])
                          refine takeP 1 rfl (by kernel_rfl) (by kernel_rfl) (by kernel_rfl) (by kernel_rfl) (fun _ _ _ h => h) rfl (v := ?_) ?_ ?_
                          rotate_left
                          · intro w'; go_simp; (try with_reducible rfl)
                          (try simp only [Act.put, List.setIfInBounds_toArray, List.set_cons_zero, List.set_cons_succ])
                          refine takeP 2 rfl (by kernel_rfl) (by kernel_rfl) (by kernel_rfl) (by kernel_rfl) (fun _ _ _ h => h) rfl (v := ?_) ?_ ?_
                          rotate_left
                          · intro w'; go_simp; (try with_reducible rfl)
                          (try simp only [Act.put, List.setIfInBounds_toArray, List.set_cons_zero, List.set_cons_succ])
                          refine takeP 3 rfl (by kernel_rfl) (by kernel_rfl) (by kernel_rfl) (by kernel_rfl) (fun _ _ _ h => h) rfl (v := ?_) ?_ ?_
                          rotate_left
                          · intro w'; go_simp; (try with_reducible rfl)
                          (try simp only [Act.put, List.setIfInBounds_toArray, List.set_cons_zero, List.set_cons_succ])
                          refine takeP 4 rfl (by kernel_rfl) (by kernel_rfl) (by kernel_rfl) (by kernel_rfl) (fun _ _ _ h => h) rfl (v := ?_) ?_ ?_
                          rotate_left
                          · intro w'; go_simp; (try with_reducible rfl)
                          (try simp only [Act.put, List.setIfInBounds_toArray, List.set_cons_zero, List.set_cons_succ])
                          refine takeP 5 rfl (by kernel_rfl) (by kernel_rfl) (by kernel_rfl) (by kernel_rfl) (fun _ _ _ h => h) rfl (v := ?_) ?_ ?_
                          rotate_left
                          · intro w'; go_simp; (try with_reducible rfl)
                          (try simp only [Act.put, List.setIfInBounds_toArray, List.set_cons_zero, List.set_cons_succ])
                          refine takeP 6 rfl (by kernel_rfl) (by kernel_rfl) (by kernel_rfl) (by kernel_rfl) (fun _ _ _ h => h) rfl (v := ?_) ?_ ?_
                          rotate_left
                          · intro w'; go_simp; (try with_reducible rfl)
                          (try simp only [Act.put, List.setIfInBounds_toArray, List.set_cons_zero, List.set_cons_succ])
                          refine takeP 7 rfl (by kernel_rfl) (by kernel_rfl) (by kernel_rfl) (by kernel_rfl) (fun _ _ _ h => h) rfl (v := ?_) ?_ ?_
                          rotate_left
                          · intro w'; go_simp; (try with_reducible rfl)
                          (try simp only [Act.put, List.setIfInBounds_toArray, List.set_cons_zero, List.set_cons_succ])
                          refine takeP 9 rfl (by kernel_rfl) (by kernel_rfl) (by kernel_rfl) (by kernel_rfl) (fun _ _ _ h => h) rfl (v := ?_) ?_ ?_
                          rotate_left
                          · intro w'; go_simp; (try with_reducible rfl)
                          (try simp only [Act.put, List.setIfInBounds_toArray, List.set_cons_zero, List.set_cons_succ])
                          refine takeP 10 rfl (by kernel_rfl) (by kernel_rfl) (by kernel_rfl) (by kernel_rfl) (fun _ _ _ h => h) rfl (v := ?_) ?_ ?_
                          rotate_left
                          · intro w'; go_simp; (try with_reducible rfl)
                          (try simp only [Act.put, List.setIfInBounds_toArray, List.set_cons_zero, List.set_cons_succ])
                          refine takeP 11 rfl (by kernel_rfl) (by kernel_rfl) (by kernel_rfl) (by kernel_rfl) (fun _ _ _ h => h) rfl (v := ?_) ?_ ?_
                          rotate_left
                          · intro w'; go_simp; (try with_reducible rfl)
                          (try simp only [Act.put, List.setIfInBounds_toArray, List.set_cons_zero, List.set_cons_succ])
                          refine takeP 12 rfl (by kernel_rfl) (by kernel_rfl) (by kernel_rfl) (by kernel_rfl) (fun _ _ _ h => h) rfl (v := ?_) ?_ ?_
                          rotate_left
                          · intro w'; go_simp; (try with_reducible rfl)
                          (try simp only [Act.put, List.setIfInBounds_toArray, List.set_cons_zero, List.set_cons_succ])
                          refine takeL 13 HS0 rfl (by kernel_rfl) (by kernel_rfl) (by kernel_rfl) (by kernel_rfl) (by kernel_rfl) (fun _ _ _ h => h) rfl (v := ?_) ?_ ?_
                          rotate_left
                          · intro w' hw'; refine Eq.trans (exec_loadA 29 _ rfl (ad2.add (jj * 35)) rfl (q2.hash.map cb) _ (fun j u hu => HCELL.out _ ((HH.below hw').rr (.slice (some ad2) m2 c2)) j u (hash_cell q2 j u hu)) Tryd.underlying29 rfl HHI.out) ?_; with_reducible rfl
                          (try simp only [Act.put, List.setIfInBounds_toArray, List.set_cons_zero, List.set_cons_succ])
                          refine stepL 8 rfl (by kernel_rfl) rfl (fun K hK => ?_)
                          (go_simp; (with_reducible refine ((HSUM.out _ _ (H.hold.rr (.slice A88 256 c88)))).mono ?_); rintro e w' ⟨rfl, hb⟩; replace H := H.step hb; first | (replace HS0 := below_two HS0 HS0.size hb; clear hb; refine hK.out _ _ (fun _ _ => HS0) ?_; clear K hK) | (refine hK.out _ _ (fun _ h => below_two h h.size hb) ?_; clear hb K hK))
                          (try simp only [Act.put, List.setIfInBounds_toArray, List.set_cons_zero, List.set_cons_succ])
                          refine takeL 14 HS0 rfl (by kernel_rfl) (by kernel_rfl) (by kernel_rfl) (by kernel_rfl) (by kernel_rfl) (fun _ _ _ h => h) rfl (v := ?_) ?_ ?_
                          rotate_left
                          · intro w' hw'; refine Eq.trans (exec_neq 29 _ _ _ rfl _ _ rfl rfl bh32_guard _ (HEQ.out _)) ?_; with_reducible rfl
                          (try simp only [Act.put, List.setIfInBounds_toArray, List.set_cons_zero, List.set_cons_succ])
                          refine takeP 15 rfl (by kernel_rfl) (by kernel_rfl) (by kernel_rfl) (by kernel_rfl) (fun _ _ _ h => h) rfl (v := ?_) ?_ ?_
                          rotate_left
                          · intro w'; go_simp; (try with_reducible rfl)
                          (try simp only [Act.put, List.setIfInBounds_toArray, List.set_cons_zero, List.set_cons_succ])
                          refine skipL 16 rfl (by kernel_rfl) (by kernel_rfl) (by kernel_rfl) (by kernel_rfl) (fun _ _ _ h => h) rfl ?_
                          (try simp only [Act.put, List.setIfInBounds_toArray, List.set_cons_zero, List.set_cons_succ])
                          refine skipL 17 rfl (by kernel_rfl) (by kernel_rfl) (by kernel_rfl) (by kernel_rfl) (fun _ _ _ h => h) rfl ?_
                          (try simp only [Act.put, List.setIfInBounds_toArray, List.set_cons_zero, List.set_cons_succ])
                          refine skipL 18 rfl (by kernel_rfl) (by kernel_rfl) (by kernel_rfl) (by kernel_rfl) (fun _ _ _ h => h) rfl ?_
                          (try simp only [Act.put, List.setIfInBounds_toArray, List.set_cons_zero, List.set_cons_succ])
                          refine skipL 19 rfl (by kernel_rfl) (by kernel_rfl) (by kernel_rfl) (by kernel_rfl) (fun _ _ _ h => h) rfl ?_
                          (try simp only [Act.put, List.setIfInBounds_toArray, List.set_cons_zero, List.set_cons_succ])
                          refine skipL 20 rfl (by kernel_rfl) (by kernel_rfl) (by kernel_rfl) (by kernel_rfl) (fun _ _ _ h => h) rfl ?_
                          (try simp only [Act.put, List.setIfInBounds_toArray, List.set_cons_zero, List.set_cons_succ])
                          refine skipL 21 rfl (by kernel_rfl) (by kernel_rfl) (by kernel_rfl) (by kernel_rfl) (fun _ _ _ h => h) rfl ?_
                          (try simp only [Act.put, List.setIfInBounds_toArray, List.set_cons_zero, List.set_cons_succ])
                          refine takeP 22 rfl (by kernel_rfl) (by kernel_rfl) (by kernel_rfl) (by kernel_rfl) (fun _ _ _ h => h) rfl (v := ?_) ?_ ?_
                          rotate_left
                          · intro w'; go_simp; (try with_reducible rfl)
                          (try simp only [Act.put, List.setIfInBounds_toArray, List.set_cons_zero, List.set_cons_succ])
                          refine takeP 23 rfl (by kernel_rfl) (by kernel_rfl) (by kernel_rfl) (by kernel_rfl) (fun _ _ _ h => h) rfl (v := ?_) ?_ ?_
                          rotate_left
                          · intro w'; go_simp; (try with_reducible rfl)
                          (try simp only [Act.put, List.setIfInBounds_toArray, List.set_cons_zero, List.set_cons_succ])
                          refine takeP 24 rfl (by kernel_rfl) (by kernel_rfl) (by kernel_rfl) (by kernel_rfl) (fun _ _ _ h => h) rfl (v := ?_) ?_ ?_
                          rotate_left
                          · intro w'; go_simp; (try with_reducible rfl)
                          (try simp only [Act.put, List.setIfInBounds_toArray, List.set_cons_zero, List.set_cons_succ])
                          refine doneL (by kernel_rfl) ?_
                          clear HH
                          go_wp2
                          go_roundw
                          case rel => first | exact Kept.mk ⟨jj + 1, by go_num, by omega, H.tail⟩ | ((repeat (apply Exists.intro)); exact ⟨Kept.mk ⟨jj + 1, by go_num, by omega, H.tail⟩, rfl⟩)
                          case measure => simp [intOf] <;> omega
                        · have hse : (shaL B == q2.hash) = false := beq_eq_false_iff_ne.2 hs
                          rw [hse] at HEQ
                          have HQ := Lib.hid (fun W => ptr_eqlA q2 PT.hole W)
                          have hqh : (q2 == PT.hole) = true := beq_iff_eq.2 (hrt.resolve_left hs)
                          rw [hqh] at HQ
                          clear hse hs hrt hqh
                          go_wp2_with (first
                            | ((with_reducible refine gDst 87 ?_); refine stepV (exec_loadA 33 _ rfl (ad2.add (jj * 35)) rfl q2.cells _ (fun j u hu => HCELL.out _ (H.hold.rr (.slice (some ad2) m2 c2)) j u hu) Tryd.underlying33 rfl (PT.info q2)) rfl ?_)
                            | (go_at_call 18; refine (HRD.out _ (HOLD.suf (D := bankL bk bd bo bm vw1 ss1 7 s1 uq) H.hold)).mono ?_; first | (rintro e w' ⟨A88, c88, rfl, ho, hb⟩; replace H := H.pushRow hb ho; clear hb ho) | (rintro e w' ⟨rfl, hb⟩; replace H := H.step hb; clear hb))
                            | ((with_reducible refine gDst 3 ?_); refine aBox H _ rfl rfl rfl ?_; clear H; intro b3 w3 H)
                            | ((with_reducible refine gDst 9 ?_); refine aAlloc H rfl rfl ?_; clear H; intro b9 w9 H)
                            | ((with_reducible refine gDst 10 ?_); refine aAlloc H rfl rfl ?_; clear H; intro b10 w10 H)
                            | ((with_reducible refine gDst 11 ?_); refine aAlloc H rfl rfl ?_; clear H; intro b11 w11 H)
                            | ((with_reducible refine gLoad ?_); first | (refine aLoad1 H _ rfl rfl (by first | exact (rfl : _ = some (Value.int _ _)) | exact (rfl : _ = some (Value.slice _ _ _)) | exact (rfl : _ = some (Value.bool _)) | exact (rfl : _ = some (Value.string _)) | exact (rfl : _ = some (Value.pointer _)) | rfl | (simp [List.getElem?_append]; done)) rfl ?_) | (refine aLoadC _ rfl rfl (by assumption) rfl ?_) | (refine aLoad H _ rfl rfl (by first | exact part_all (by first | rfl | simp []) | (simp only [List.drop_succ_cons, List.drop_zero, List.take_succ_cons, List.take_zero]; rfl) | (simp [List.drop_append, List.take_append]; rfl)) (by first | rfl | simp []) rfl ?_))
                            | ((with_reducible refine gStore ?_); (first | (refine aStore H _ _ rfl rfl rfl (by (first | exact ⟨rfl, rfl⟩ | exact ⟨by decide, rfl⟩ | (simp []; done) | (constructor <;> simp [] <;> omega))) (by first | rfl | simp [List.all_append, one_all]) rfl ?_) | (refine aLay H _ _ rfl rfl rfl (by (first | exact ⟨rfl, rfl⟩ | exact ⟨by decide, rfl⟩ | (simp []; done) | (constructor <;> simp [] <;> omega))) (by first | rfl | simp [List.all_append, one_all]) (by simp only [lay, List.take_succ_cons, List.take_zero, List.drop_succ_cons, List.drop_zero, List.nil_append, List.cons_append, List.length_cons, List.length_nil, Nat.zero_add, Nat.reduceAdd]; rfl) rfl ?_)); clear H; intro w' H; try dsimp only at H)
                            | (at_builtin; refine aAppB1 _ H _ _ rfl rfl rfl (by first | omega | (have := HCL.out; omega)) rfl ?_; clear H; intro v' w' ys HY H; (try dsimp only at H); obtain ⟨A', c', rfl, hc'⟩ := (H.hold.rr v').len))
                          refine startA (fun i => false) (by kernel_rfl) (fun wS hS => ?_)
                          replace H := H.drew
                          rw [← hS] at H
                          have HH := H.hold
                          have HS0 : Below wS.heap.size wS wS := Below.refl _ _
                          clear hS
                          refine takeP 0 rfl (by kernel_rfl) (by kernel_rfl) (by kernel_rfl) (by kernel_rfl) (fun _ _ _ h => h) rfl (v := ?_) ?_ ?_
                          rotate_left
                          · intro w'; go_simp; (try with_reducible rfl)
                          (try simp only [Act.put, List.setIfInBounds_toArray, List.set_cons_zero, List.set_cons_succ])
                          refine takeP 1 rfl (by kernel_rfl) (by kernel_rfl) (by kernel_rfl) (by kernel_rfl) (fun _ _ _ h => h) rfl (v := ?_) ?_ ?_
                          rotate_left
                          · intro w'; go_simp; (try with_reducible rfl)
                          (try simp only [Act.put, List.setIfInBounds_toArray, List.set_cons_zero, List.set_cons_succ])
                          refine takeP 2 rfl (by kernel_rfl) (by kernel_rfl) (by kernel_rfl) (by kernel_rfl) (fun _ _ _ h => h) rfl (v := ?_) ?_ ?_
                          rotate_left
                          · intro w'; go_simp; (try with_reducible rfl)
                          (try simp only [Act.put, List.setIfInBounds_toArray, List.set_cons_zero, List.set_cons_succ])
                          refine takeP 3 rfl (by kernel_rfl) (by kernel_rfl) (by kernel_rfl) (by kernel_rfl) (fun _ _ _ h => h) rfl (v := ?_) ?_ ?_
                          rotate_left
                          · intro w'; go_simp; (try with_reducible rfl)
                          (try simp only [Act.put, List.setIfInBounds_toArray, List.set_cons_zero, List.set_cons_succ])
                          refine takeP 4 rfl (by kernel_rfl) (by kernel_rfl) (by kernel_rfl) (by kernel_rfl) (fun _ _ _ h => h) rfl (v := ?_) ?_ ?_
                          rotate_left
                          · intro w'; go_simp; (try with_reducible rfl)
                          (try simp only [Act.put, List.setIfInBounds_toArray, List.set_cons_zero, List.set_cons_succ])
                          refine takeP 5 rfl (by kernel_rfl) (by kernel_rfl) (by kernel_rfl) (by kernel_rfl) (fun _ _ _ h => h) rfl (v := ?_) ?_ ?_
                          rotate_left
                          · intro w'; go_simp; (try with_reducible rfl)
                          (try simp only [Act.put, List.setIfInBounds_toArray, List.set_cons_zero, List.set_cons_succ])
                          refine takeP 6 rfl (by kernel_rfl) (by kernel_rfl) (by kernel_rfl) (by kernel_rfl) (fun _ _ _ h => h) rfl (v := ?_) ?_ ?_
                          rotate_left
                          · intro w'; go_simp; (try with_reducible rfl)
                          (try simp only [Act.put, List.setIfInBounds_toArray, List.set_cons_zero, List.set_cons_succ])
                          refine takeP 7 rfl (by kernel_rfl) (by kernel_rfl) (by kernel_rfl) (by kernel_rfl) (fun _ _ _ h => h) rfl (v := ?_) ?_ ?_
                          rotate_left
                          · intro w'; go_simp; (try with_reducible rfl)
                          (try simp only [Act.put, List.setIfInBounds_toArray, List.set_cons_zero, List.set_cons_succ])
                          refine takeP 9 rfl (by kernel_rfl) (by kernel_rfl) (by kernel_rfl) (by kernel_rfl) (fun _ _ _ h => h) rfl (v := ?_) ?_ ?_
                          rotate_left
                          · intro w'; go_simp; (try with_reducible rfl)
                          (try simp only [Act.put, List.setIfInBounds_toArray, List.set_cons_zero, List.set_cons_succ])
                          refine takeP 10 rfl (by kernel_rfl) (by kernel_rfl) (by kernel_rfl) (by kernel_rfl) (fun _ _ _ h => h) rfl (v := ?_) ?_ ?_
                          rotate_left
                          · intro w'; go_simp; (try with_reducible rfl)
                          (try simp only [Act.put, List.setIfInBounds_toArray, List.set_cons_zero, List.set_cons_succ])
                          refine takeP 11 rfl (by kernel_rfl) (by kernel_rfl) (by kernel_rfl) (by kernel_rfl) (fun _ _ _ h => h) rfl (v := ?_) ?_ ?_
                          rotate_left
                          · intro w'; go_simp; (try with_reducible rfl)
                          (try simp only [Act.put, List.setIfInBounds_toArray, List.set_cons_zero, List.set_cons_succ])
                          refine takeP 12 rfl (by kernel_rfl) (by kernel_rfl) (by kernel_rfl) (by kernel_rfl) (fun _ _ _ h => h) rfl (v := ?_) ?_ ?_
                          rotate_left
                          · intro w'; go_simp; (try with_reducible rfl)
                          (try simp only [Act.put, List.setIfInBounds_toArray, List.set_cons_zero, List.set_cons_succ])
                          refine takeL 13 HS0 rfl (by kernel_rfl) (by kernel_rfl) (by kernel_rfl) (by kernel_rfl) (by kernel_rfl) (fun _ _ _ h => h) rfl (v := ?_) ?_ ?_
                          rotate_left
                          · intro w' hw'; refine Eq.trans (exec_loadA 29 _ rfl (ad2.add (jj * 35)) rfl (q2.hash.map cb) _ (fun j u hu => HCELL.out _ ((HH.below hw').rr (.slice (some ad2) m2 c2)) j u (hash_cell q2 j u hu)) Tryd.underlying29 rfl HHI.out) ?_; with_reducible rfl
                          (try simp only [Act.put, List.setIfInBounds_toArray, List.set_cons_zero, List.set_cons_succ])
                          refine stepL 8 rfl (by kernel_rfl) rfl (fun K hK => ?_)
                          (go_simp; (with_reducible refine ((HSUM.out _ _ (H.hold.rr (.slice A88 256 c88)))).mono ?_); rintro e w' ⟨rfl, hb⟩; replace H := H.step hb; first | (replace HS0 := below_two HS0 HS0.size hb; clear hb; refine hK.out _ _ (fun _ _ => HS0) ?_; clear K hK) | (refine hK.out _ _ (fun _ h => below_two h h.size hb) ?_; clear hb K hK))
                          (try simp only [Act.put, List.setIfInBounds_toArray, List.set_cons_zero, List.set_cons_succ])
                          refine takeL 14 HS0 rfl (by kernel_rfl) (by kernel_rfl) (by kernel_rfl) (by kernel_rfl) (by kernel_rfl) (fun _ _ _ h => h) rfl (v := ?_) ?_ ?_
                          rotate_left
                          · intro w' hw'; refine Eq.trans (exec_neq 29 _ _ _ rfl _ _ rfl rfl bh32_guard _ (HEQ.out _)) ?_; with_reducible rfl
                          (try simp only [Act.put, List.setIfInBounds_toArray, List.set_cons_zero, List.set_cons_succ])
                          refine takeP 15 rfl (by kernel_rfl) (by kernel_rfl) (by kernel_rfl) (by kernel_rfl) (fun _ _ _ h => h) rfl (v := ?_) ?_ ?_
                          rotate_left
                          · intro w'; go_simp; (try with_reducible rfl)
                          (try simp only [Act.put, List.setIfInBounds_toArray, List.set_cons_zero, List.set_cons_succ])
                          refine takeP 16 rfl (by kernel_rfl) (by kernel_rfl) (by kernel_rfl) (by kernel_rfl) (fun _ _ _ h => h) rfl (v := ?_) ?_ ?_
                          rotate_left
                          · intro w'; go_simp; (try with_reducible rfl)
                          (try simp only [Act.put, List.setIfInBounds_toArray, List.set_cons_zero, List.set_cons_succ])
                          refine takeP 17 rfl (by kernel_rfl) (by kernel_rfl) (by kernel_rfl) (by kernel_rfl) (fun _ _ _ h => h) rfl (v := ?_) ?_ ?_
                          rotate_left
                          · intro w'; go_simp; (try with_reducible rfl)
                          (try simp only [Act.put, List.setIfInBounds_toArray, List.set_cons_zero, List.set_cons_succ])
                          refine takeP 18 rfl (by kernel_rfl) (by kernel_rfl) (by kernel_rfl) (by kernel_rfl) (fun _ _ _ h => h) rfl (v := ?_) ?_ ?_
                          rotate_left
                          · intro w'; go_simp; (try with_reducible rfl)
                          (try simp only [Act.put, List.setIfInBounds_toArray, List.set_cons_zero, List.set_cons_succ])
                          refine takeL 19 HS0 rfl (by kernel_rfl) (by kernel_rfl) (by kernel_rfl) (by kernel_rfl) (by kernel_rfl) (fun _ _ _ h => h) rfl (v := ?_) ?_ ?_
                          rotate_left
                          · intro w' hw'; refine Eq.trans (exec_loadA 33 _ rfl (ad2.add (jj * 35)) rfl q2.cells _ (fun j u hu => HCELL.out _ ((HH.below hw').rr (.slice (some ad2) m2 c2)) j u hu) Tryd.underlying33 rfl (PT.info q2)) ?_; with_reducible rfl
                          (try simp only [Act.put, List.setIfInBounds_toArray, List.set_cons_zero, List.set_cons_succ])
                          refine takeL 20 HS0 rfl (by kernel_rfl) (by kernel_rfl) (by kernel_rfl) (by kernel_rfl) (by kernel_rfl) (fun _ _ _ h => h) rfl (v := ?_) ?_ ?_
                          rotate_left
                          · intro w' hw'; refine Eq.trans (exec_zero 33 rfl PT.hole.cells (by kernel_rfl)) ?_; with_reducible rfl
                          (try simp only [Act.put, List.setIfInBounds_toArray, List.set_cons_zero, List.set_cons_succ])
                          refine takeL 21 HS0 rfl (by kernel_rfl) (by kernel_rfl) (by kernel_rfl) (by kernel_rfl) (by kernel_rfl) (fun _ _ _ h => h) rfl (v := ?_) ?_ ?_
                          rotate_left
                          · intro w' hw'; refine Eq.trans (exec_neq 33 _ _ _ rfl _ _ rfl rfl ptr_guard _ (HQ.out _)) ?_; with_reducible rfl
                          (try simp only [Act.put, List.setIfInBounds_toArray, List.set_cons_zero, List.set_cons_succ])
                          refine takeP 22 rfl (by kernel_rfl) (by kernel_rfl) (by kernel_rfl) (by kernel_rfl) (fun _ _ _ h => h) rfl (v := ?_) ?_ ?_
                          rotate_left
                          · intro w'; go_simp; (try with_reducible rfl)
                          (try simp only [Act.put, List.setIfInBounds_toArray, List.set_cons_zero, List.set_cons_succ])
                          refine takeP 23 rfl (by kernel_rfl) (by kernel_rfl) (by kernel_rfl) (by kernel_rfl) (fun _ _ _ h => h) rfl (v := ?_) ?_ ?_
                          rotate_left
                          · intro w'; go_simp; (try with_reducible rfl)
                          (try simp only [Act.put, List.setIfInBounds_toArray, List.set_cons_zero, List.set_cons_succ])
                          refine takeP 24 rfl (by kernel_rfl) (by kernel_rfl) (by kernel_rfl) (by kernel_rfl) (fun _ _ _ h => h) rfl (v := ?_) ?_ ?_
                          rotate_left
                          · intro w'; go_simp; (try with_reducible rfl)
                          (try simp only [Act.put, List.setIfInBounds_toArray, List.set_cons_zero, List.set_cons_succ])
                          refine doneL (by kernel_rfl) ?_
                          clear HH
                          go_wp2
                          go_roundw
                          case rel => first | exact Kept.mk ⟨jj + 1, by go_num, by omega, H.tail⟩ | ((repeat (apply Exists.intro)); exact ⟨Kept.mk ⟨jj + 1, by go_num, by omega, H.tail⟩, rfl⟩)
                          case measure => simp [intOf] <;> omega
                      · have HRD : Hid (∀ W, HOLD (bankL bk bd bo bm vw1 ss1 7 s1 uq) W → Calls Tryd.prog 18 #[.pointer (some ⟨bk, 0, none⟩), .agg q2.cells.toArray] W fun e w' => e = .returned (.tuple #[.slice none 0 0, .int .i64 (brE s1 32 q2)]) ∧ Below W.heap.size W w') := Lib.hid fun W y => (hbr W y).mono fun e w' ⟨v, h1, _, h2, h3⟩ => by
                          rw [h2 hE] at h1
                          exact ⟨h1, h3⟩
                        clear hbr
                        generalize brE s1 32 q2 = E at *
                        have hE0 : (E = 0) = False := eq_false hE
                        have hE1 : (E == 0) = false := beq_eq_false_iff_ne.2 hE
                        clear hE
                        go_wp2_with (first
                          | ((with_reducible refine gDst 87 ?_); refine stepV (exec_loadA 33 _ rfl (ad2.add (jj * 35)) rfl q2.cells _ (fun j u hu => HCELL.out _ (H.hold.rr (.slice (some ad2) m2 c2)) j u hu) Tryd.underlying33 rfl (PT.info q2)) rfl ?_)
                          | (go_at_call 18; refine (HRD.out _ (HOLD.suf (D := bankL bk bd bo bm vw1 ss1 7 s1 uq) H.hold)).mono ?_; first | (rintro e w' ⟨A88, c88, rfl, ho, hb⟩; replace H := H.pushRow hb ho; clear hb ho) | (rintro e w' ⟨rfl, hb⟩; replace H := H.step hb; clear hb))
                          | ((with_reducible refine gDst 3 ?_); refine aBox H _ rfl rfl rfl ?_; clear H; intro b3 w3 H)
                          | ((with_reducible refine gDst 9 ?_); refine aAlloc H rfl rfl ?_; clear H; intro b9 w9 H)
                          | ((with_reducible refine gDst 10 ?_); refine aAlloc H rfl rfl ?_; clear H; intro b10 w10 H)
                          | ((with_reducible refine gDst 11 ?_); refine aAlloc H rfl rfl ?_; clear H; intro b11 w11 H)
                          | ((with_reducible refine gLoad ?_); first | (refine aLoad1 H _ rfl rfl (by first | exact (rfl : _ = some (Value.int _ _)) | exact (rfl : _ = some (Value.slice _ _ _)) | exact (rfl : _ = some (Value.bool _)) | exact (rfl : _ = some (Value.string _)) | exact (rfl : _ = some (Value.pointer _)) | rfl | (simp [List.getElem?_append]; done)) rfl ?_) | (refine aLoadC _ rfl rfl (by assumption) rfl ?_) | (refine aLoad H _ rfl rfl (by first | exact part_all (by first | rfl | simp []) | (simp only [List.drop_succ_cons, List.drop_zero, List.take_succ_cons, List.take_zero]; rfl) | (simp [List.drop_append, List.take_append]; rfl)) (by first | rfl | simp []) rfl ?_))
                          | ((with_reducible refine gStore ?_); (first | (refine aStore H _ _ rfl rfl rfl (by (first | exact ⟨rfl, rfl⟩ | exact ⟨by decide, rfl⟩ | (simp []; done) | (constructor <;> simp [] <;> omega))) (by first | rfl | simp [List.all_append, one_all]) rfl ?_) | (refine aLay H _ _ rfl rfl rfl (by (first | exact ⟨rfl, rfl⟩ | exact ⟨by decide, rfl⟩ | (simp []; done) | (constructor <;> simp [] <;> omega))) (by first | rfl | simp [List.all_append, one_all]) (by simp only [lay, List.take_succ_cons, List.take_zero, List.drop_succ_cons, List.drop_zero, List.nil_append, List.cons_append, List.length_cons, List.length_nil, Nat.zero_add, Nat.reduceAdd]; rfl) rfl ?_)); clear H; intro w' H; try dsimp only at H)
                          | (at_builtin; refine aAppB1 _ H _ _ rfl rfl rfl (by first | omega | (have := HCL.out; omega)) rfl ?_; clear H; intro v' w' ys HY H; (try dsimp only at H); obtain ⟨A', c', rfl, hc'⟩ := (H.hold.rr v').len))
                        refine startA (fun i => false) (by kernel_rfl) (fun wS hS => ?_)
                        replace H := H.drew
                        rw [← hS] at H
                        have HH := H.hold
                        have HS0 : Below wS.heap.size wS wS := Below.refl _ _
                        clear hS
                        refine takeP 0 rfl (by kernel_rfl) (by kernel_rfl) (by kernel_rfl) (by kernel_rfl) (fun _ _ _ h => h) rfl (v := ?_) ?_ ?_
                        rotate_left
                        · intro w'; go_simp; (try with_reducible rfl)
                        (try simp only [Act.put, List.setIfInBounds_toArray, List.set_cons_zero, List.set_cons_succ])
                        refine takeP 1 rfl (by kernel_rfl) (by kernel_rfl) (by kernel_rfl) (by kernel_rfl) (fun _ _ _ h => h) rfl (v := ?_) ?_ ?_
                        rotate_left
                        · intro w'; go_simp; (try with_reducible rfl)
                        (try simp only [Act.put, List.setIfInBounds_toArray, List.set_cons_zero, List.set_cons_succ])
                        refine takeP 2 rfl (by kernel_rfl) (by kernel_rfl) (by kernel_rfl) (by kernel_rfl) (fun _ _ _ h => h) rfl (v := ?_) ?_ ?_
                        rotate_left
                        · intro w'; go_simp; (try with_reducible rfl)
                        (try simp only [Act.put, List.setIfInBounds_toArray, List.set_cons_zero, List.set_cons_succ])
                        refine skipL 3 rfl (by kernel_rfl) (by kernel_rfl) (by kernel_rfl) (by kernel_rfl) (fun _ _ _ h => h) rfl ?_
                        (try simp only [Act.put, List.setIfInBounds_toArray, List.set_cons_zero, List.set_cons_succ])
                        refine skipL 4 rfl (by kernel_rfl) (by kernel_rfl) (by kernel_rfl) (by kernel_rfl) (fun _ _ _ h => h) rfl ?_
                        (try simp only [Act.put, List.setIfInBounds_toArray, List.set_cons_zero, List.set_cons_succ])
                        refine skipL 5 rfl (by kernel_rfl) (by kernel_rfl) (by kernel_rfl) (by kernel_rfl) (fun _ _ _ h => h) rfl ?_
                        (try simp only [Act.put, List.setIfInBounds_toArray, List.set_cons_zero, List.set_cons_succ])
                        refine skipL 6 rfl (by kernel_rfl) (by kernel_rfl) (by kernel_rfl) (by kernel_rfl) (fun _ _ _ h => h) rfl ?_
                        (try simp only [Act.put, List.setIfInBounds_toArray, List.set_cons_zero, List.set_cons_succ])
                        refine skipL 7 rfl (by kernel_rfl) (by kernel_rfl) (by kernel_rfl) (by kernel_rfl) (fun _ _ _ h => h) rfl ?_
                        (try simp only [Act.put, List.setIfInBounds_toArray, List.set_cons_zero, List.set_cons_succ])
                        refine skipL 8 rfl (by kernel_rfl) (by kernel_rfl) (by kernel_rfl) (by kernel_rfl) (fun _ _ _ h => h) rfl ?_
                        (try simp only [Act.put, List.setIfInBounds_toArray, List.set_cons_zero, List.set_cons_succ])
                        refine skipL 9 rfl (by kernel_rfl) (by kernel_rfl) (by kernel_rfl) (by kernel_rfl) (fun _ _ _ h => h) rfl ?_
                        (try simp only [Act.put, List.setIfInBounds_toArray, List.set_cons_zero, List.set_cons_succ])
                        refine skipL 10 rfl (by kernel_rfl) (by kernel_rfl) (by kernel_rfl) (by kernel_rfl) (fun _ _ _ h => h) rfl ?_
                        (try simp only [Act.put, List.setIfInBounds_toArray, List.set_cons_zero, List.set_cons_succ])
                        refine skipL 11 rfl (by kernel_rfl) (by kernel_rfl) (by kernel_rfl) (by kernel_rfl) (fun _ _ _ h => h) rfl ?_
                        (try simp only [Act.put, List.setIfInBounds_toArray, List.set_cons_zero, List.set_cons_succ])
                        refine skipL 12 rfl (by kernel_rfl) (by kernel_rfl) (by kernel_rfl) (by kernel_rfl) (fun _ _ _ h => h) rfl ?_
                        (try simp only [Act.put, List.setIfInBounds_toArray, List.set_cons_zero, List.set_cons_succ])
                        refine skipL 13 rfl (by kernel_rfl) (by kernel_rfl) (by kernel_rfl) (by kernel_rfl) (fun _ _ _ h => h) rfl ?_
                        (try simp only [Act.put, List.setIfInBounds_toArray, List.set_cons_zero, List.set_cons_succ])
                        refine skipL 14 rfl (by kernel_rfl) (by kernel_rfl) (by kernel_rfl) (by kernel_rfl) (fun _ _ _ h => h) rfl ?_
                        (try simp only [Act.put, List.setIfInBounds_toArray, List.set_cons_zero, List.set_cons_succ])
                        refine skipL 15 rfl (by kernel_rfl) (by kernel_rfl) (by kernel_rfl) (by kernel_rfl) (fun _ _ _ h => h) rfl ?_
                        (try simp only [Act.put, List.setIfInBounds_toArray, List.set_cons_zero, List.set_cons_succ])
                        refine skipL 16 rfl (by kernel_rfl) (by kernel_rfl) (by kernel_rfl) (by kernel_rfl) (fun _ _ _ h => h) rfl ?_
                        (try simp only [Act.put, List.setIfInBounds_toArray, List.set_cons_zero, List.set_cons_succ])
                        refine skipL 17 rfl (by kernel_rfl) (by kernel_rfl) (by kernel_rfl) (by kernel_rfl) (fun _ _ _ h => h) rfl ?_
                        (try simp only [Act.put, List.setIfInBounds_toArray, List.set_cons_zero, List.set_cons_succ])
                        refine skipL 18 rfl (by kernel_rfl) (by kernel_rfl) (by kernel_rfl) (by kernel_rfl) (fun _ _ _ h => h) rfl ?_
                        (try simp only [Act.put, List.setIfInBounds_toArray, List.set_cons_zero, List.set_cons_succ])
                        refine skipL 19 rfl (by kernel_rfl) (by kernel_rfl) (by kernel_rfl) (by kernel_rfl) (fun _ _ _ h => h) rfl ?_
                        (try simp only [Act.put, List.setIfInBounds_toArray, List.set_cons_zero, List.set_cons_succ])
                        refine skipL 20 rfl (by kernel_rfl) (by kernel_rfl) (by kernel_rfl) (by kernel_rfl) (fun _ _ _ h => h) rfl ?_
                        (try simp only [Act.put, List.setIfInBounds_toArray, List.set_cons_zero, List.set_cons_succ])
                        refine skipL 21 rfl (by kernel_rfl) (by kernel_rfl) (by kernel_rfl) (by kernel_rfl) (fun _ _ _ h => h) rfl ?_
                        (try simp only [Act.put, List.setIfInBounds_toArray, List.set_cons_zero, List.set_cons_succ])
                        refine skipL 22 rfl (by kernel_rfl) (by kernel_rfl) (by kernel_rfl) (by kernel_rfl) (fun _ _ _ h => h) rfl ?_
                        (try simp only [Act.put, List.setIfInBounds_toArray, List.set_cons_zero, List.set_cons_succ])
                        refine skipL 23 rfl (by kernel_rfl) (by kernel_rfl) (by kernel_rfl) (by kernel_rfl) (fun _ _ _ h => h) rfl ?_
                        (try simp only [Act.put, List.setIfInBounds_toArray, List.set_cons_zero, List.set_cons_succ])
                        refine takeP 24 rfl (by kernel_rfl) (by kernel_rfl) (by kernel_rfl) (by kernel_rfl) (fun _ _ _ h => h) rfl (v := ?_) ?_ ?_
                        rotate_left
                        · intro w'; go_simp; (try with_reducible rfl)
                        (try simp only [Act.put, List.setIfInBounds_toArray, List.set_cons_zero, List.set_cons_succ])
                        refine doneL (by kernel_rfl) ?_
                        clear HH
                        go_wp2
                        go_roundw
                        case rel => first | exact Kept.mk ⟨jj + 1, by go_num, by omega, H⟩ | ((repeat (apply Exists.intro)); exact ⟨Kept.mk ⟨jj + 1, by go_num, by omega, H⟩, rfl⟩)
                        case measure => simp [intOf] <;> omega
                    · obtain rfl : m2 = jj := by omega
                      go_wp2_with (first
                        | ((with_reducible refine gDst 3 ?_); refine aBox H _ rfl rfl rfl ?_; clear H; intro b3 w3 H)
                        | ((with_reducible refine gDst 9 ?_); refine aAlloc H rfl rfl ?_; clear H; intro b9 w9 H)
                        | ((with_reducible refine gDst 10 ?_); refine aAlloc H rfl rfl ?_; clear H; intro b10 w10 H)
                        | ((with_reducible refine gDst 11 ?_); refine aAlloc H rfl rfl ?_; clear H; intro b11 w11 H)
                        | ((with_reducible refine gLoad ?_); first | (refine aLoad1 H _ rfl rfl (by first | exact (rfl : _ = some (Value.int _ _)) | exact (rfl : _ = some (Value.slice _ _ _)) | exact (rfl : _ = some (Value.bool _)) | exact (rfl : _ = some (Value.string _)) | exact (rfl : _ = some (Value.pointer _)) | rfl | (simp [List.getElem?_append]; done)) rfl ?_) | (refine aLoadC _ rfl rfl (by assumption) rfl ?_) | (refine aLoad H _ rfl rfl (by first | exact part_all (by first | rfl | simp []) | (simp only [List.drop_succ_cons, List.drop_zero, List.take_succ_cons, List.take_zero]; rfl) | (simp [List.drop_append, List.take_append]; rfl)) (by first | rfl | simp []) rfl ?_))
                        | ((with_reducible refine gStore ?_); (first | (refine aStore H _ _ rfl rfl rfl (by (first | exact ⟨rfl, rfl⟩ | exact ⟨by decide, rfl⟩ | (simp []; done) | (constructor <;> simp [] <;> omega))) (by first | rfl | simp [List.all_append, one_all]) rfl ?_) | (refine aLay H _ _ rfl rfl rfl (by (first | exact ⟨rfl, rfl⟩ | exact ⟨by decide, rfl⟩ | (simp []; done) | (constructor <;> simp [] <;> omega))) (by first | rfl | simp [List.all_append, one_all]) (by simp only [lay, List.take_succ_cons, List.take_zero, List.drop_succ_cons, List.drop_zero, List.nil_append, List.cons_append, List.length_cons, List.length_nil, Nat.zero_add, Nat.reduceAdd]; rfl) rfl ?_)); clear H; intro w' H; try dsimp only at H)
                        | (at_builtin; refine aAppB1 _ H _ _ rfl rfl rfl (by first | omega | (have := HCL.out; omega)) rfl ?_; clear H; intro v' w' ys HY H; (try dsimp only at H); obtain ⟨A', c', rfl, hc'⟩ := (H.hold.rr v').len))
                      go_roundw
                      case rel => first | exact Kept.mk ⟨i + 1, m2, some ad2, c2, vw1, ss1, s1, uq, made2, by go_num, by omega, by omega, rfl, HML.out.1, HML.out.2.1, HML.out.2.2, HBK, H.tail.tail.tail⟩ | ((repeat (apply Exists.intro)); exact ⟨Kept.mk ⟨i + 1, m2, some ad2, c2, vw1, ss1, s1, uq, made2, by go_num, by omega, by omega, rfl, HML.out.1, HML.out.2.1, HML.out.2.2, HBK, H.tail.tail.tail⟩, rfl⟩)
                      case measure => simp [intOf] <;> omega
      · have h30' : ((i : Int) < 30) = False := eq_false (by omega)
        go_wp2_with (first
          | (go_at_call 15; refine (alive08_any _ (HT.out _ H.below)).mono ?_; rintro e w' ⟨rfl, hb⟩; replace H := H.step hb; clear hb)
          | ((with_reducible refine gDst 3 ?_); refine aBox H _ rfl rfl rfl ?_; clear H; intro b3 w3 H)
          | ((with_reducible refine gDst 9 ?_); refine aAlloc H rfl rfl ?_; clear H; intro b9 w9 H)
          | ((with_reducible refine gDst 10 ?_); refine aAlloc H rfl rfl ?_; clear H; intro b10 w10 H)
          | ((with_reducible refine gDst 11 ?_); refine aAlloc H rfl rfl ?_; clear H; intro b11 w11 H)
          | ((with_reducible refine gLoad ?_); first | (refine aLoad1 H _ rfl rfl (by first | exact (rfl : _ = some (Value.int _ _)) | exact (rfl : _ = some (Value.slice _ _ _)) | exact (rfl : _ = some (Value.bool _)) | exact (rfl : _ = some (Value.string _)) | exact (rfl : _ = some (Value.pointer _)) | rfl | (simp [List.getElem?_append]; done)) rfl ?_) | (refine aLoadC _ rfl rfl (by assumption) rfl ?_) | (refine aLoad H _ rfl rfl (by first | exact part_all (by first | rfl | simp []) | (simp only [List.drop_succ_cons, List.drop_zero, List.take_succ_cons, List.take_zero]; rfl) | (simp [List.drop_append, List.take_append]; rfl)) (by first | rfl | simp []) rfl ?_))
          | ((with_reducible refine gStore ?_); (first | (refine aStore H _ _ rfl rfl rfl (by (first | exact ⟨rfl, rfl⟩ | exact ⟨by decide, rfl⟩ | (simp []; done) | (constructor <;> simp [] <;> omega))) (by first | rfl | simp [List.all_append, one_all]) rfl ?_) | (refine aLay H _ _ rfl rfl rfl (by (first | exact ⟨rfl, rfl⟩ | exact ⟨by decide, rfl⟩ | (simp []; done) | (constructor <;> simp [] <;> omega))) (by first | rfl | simp [List.all_append, one_all]) (by simp only [lay, List.take_succ_cons, List.take_zero, List.drop_succ_cons, List.drop_zero, List.nil_append, List.cons_append, List.length_cons, List.length_nil, Nat.zero_add, Nat.reduceAdd]; rfl) rfl ?_)); clear H; intro w' H; try dsimp only at H)
          | (at_builtin; refine aAppB1 _ H _ _ rfl rfl rfl (by first | omega | (have := HCL.out; omega)) rfl ?_; clear H; intro v' w' ys HY H; (try dsimp only at H); obtain ⟨A', c', rfl, hc'⟩ := (H.hold.rr v').len))
        go_ret
        exact ⟨rfl, H.below⟩
    · have hlt' : ((i : Int) < (n : Int)) = False := eq_false (by omega)
      go_wp2_with (first
        | (go_at_call 15; refine (alive08_any _ (HT.out _ H.below)).mono ?_; rintro e w' ⟨rfl, hb⟩; replace H := H.step hb; clear hb)
        | ((with_reducible refine gDst 3 ?_); refine aBox H _ rfl rfl rfl ?_; clear H; intro b3 w3 H)
        | ((with_reducible refine gDst 9 ?_); refine aAlloc H rfl rfl ?_; clear H; intro b9 w9 H)
        | ((with_reducible refine gDst 10 ?_); refine aAlloc H rfl rfl ?_; clear H; intro b10 w10 H)
        | ((with_reducible refine gDst 11 ?_); refine aAlloc H rfl rfl ?_; clear H; intro b11 w11 H)
        | ((with_reducible refine gLoad ?_); first | (refine aLoad1 H _ rfl rfl (by first | exact (rfl : _ = some (Value.int _ _)) | exact (rfl : _ = some (Value.slice _ _ _)) | exact (rfl : _ = some (Value.bool _)) | exact (rfl : _ = some (Value.string _)) | exact (rfl : _ = some (Value.pointer _)) | rfl | (simp [List.getElem?_append]; done)) rfl ?_) | (refine aLoadC _ rfl rfl (by assumption) rfl ?_) | (refine aLoad H _ rfl rfl (by first | exact part_all (by first | rfl | simp []) | (simp only [List.drop_succ_cons, List.drop_zero, List.take_succ_cons, List.take_zero]; rfl) | (simp [List.drop_append, List.take_append]; rfl)) (by first | rfl | simp []) rfl ?_))
        | ((with_reducible refine gStore ?_); (first | (refine aStore H _ _ rfl rfl rfl (by (first | exact ⟨rfl, rfl⟩ | exact ⟨by decide, rfl⟩ | (simp []; done) | (constructor <;> simp [] <;> omega))) (by first | rfl | simp [List.all_append, one_all]) rfl ?_) | (refine aLay H _ _ rfl rfl rfl (by (first | exact ⟨rfl, rfl⟩ | exact ⟨by decide, rfl⟩ | (simp []; done) | (constructor <;> simp [] <;> omega))) (by first | rfl | simp [List.all_append, one_all]) (by simp only [lay, List.take_succ_cons, List.take_zero, List.drop_succ_cons, List.drop_zero, List.nil_append, List.cons_append, List.length_cons, List.length_nil, Nat.zero_add, Nat.reduceAdd]; rfl) rfl ?_)); clear H; intro w' H; try dsimp only at H)
        | (at_builtin; refine aAppB1 _ H _ _ rfl rfl rfl (by first | omega | (have := HCL.out; omega)) rfl ?_; clear H; intro v' w' ys HY H; (try dsimp only at H); obtain ⟨A', c', rfl, hc'⟩ := (H.hold.rr v').len))
      go_ret
      exact ⟨rfl, H.below⟩
end Go.Proofs.YticfcelbnkiopaaDoor

namespace Go.Proofs.YticfcelbnkiopaaDoor
set_option maxRecDepth 100000
open Go.RowKit Go.ChangeShapes Go.WideShapes

set_option linter.unusedSimpArgs false
set_option linter.unusedVariables false
theorem open_act {H : Type} {enc : TypeId × Value → H} {W : World} {base : Nat} {spare : Nat → Bool} {held : Bool} {cs : List Value} {x : DataW H × List MemPlace} {fuel : Nat}
    (h : DataW.trod enc Tryd.prog W base spare held fuel 54 cs = some x) : ∃ y : AX, cs = AXT.enc y ∧ AXok W y := by
  cases fuel with
  | zero => simp [DataW.trod] at h
  | succ fuel =>
    have hc40 : Tryd.prog.cellsOf 54 = 40 := by kernel_rfl
    have hc35 : Tryd.prog.cellsOf 33 = 35 := by kernel_rfl
    have hc1 : Tryd.prog.cellsOf 3 = 1 := by kernel_rfl
    have hcs : Tryd.prog.cellsOf 22 = 1 := by kernel_rfl
    obtain ⟨hl, hf⟩ := trod_fields Tryd.underlying54 h
    rw [hc40] at hl
    simp only [List.mem_cons, List.not_mem_nil, or_false, forall_eq_or_imp, forall_eq] at hf
    obtain ⟨⟨y0, h0⟩, ⟨y1, h1⟩, ⟨y2, h2⟩, ⟨y3, h3⟩, ⟨y4, h4⟩, ⟨y5, h5⟩⟩ := hf
    rw [hc1] at h0 h1 h2 h3
    rw [hc35] at h4
    rw [hcs] at h5
    obtain ⟨n0, e0, w0⟩ := trod_leaf Tryd.underlying3 h0
    obtain ⟨n1, e1, w1⟩ := trod_leaf Tryd.underlying3 h1
    obtain ⟨n2, e2, w2⟩ := trod_leaf Tryd.underlying3 h2
    obtain ⟨n3, e3, w3⟩ := trod_leaf Tryd.underlying3 h3
    obtain ⟨p, hp⟩ := open_pt h4
    obtain ⟨A, xs, cap, e5, hx, -, -⟩ := open_u8s h5
    have b1 := wf_i64 w1
    have b2 := wf_i64 w2
    have b3 := wf_i64 w3
    refine ⟨⟨n0, n1, n2, n3, p, (A, xs.length, cap), xs⟩, ?_, ⟨hx, ⟨b1.1, Int.lt_of_le_of_lt b1.2 (by decide)⟩, ⟨b2.1, Int.lt_of_le_of_lt b2.2 (by decide)⟩, b3.2⟩⟩
    obtain ⟨k0, g0⟩ := List.getElem?_eq_some_iff.1 (take_one e0)
    obtain ⟨k1, g1⟩ := List.getElem?_eq_some_iff.1 (take_one e1)
    obtain ⟨k2, g2⟩ := List.getElem?_eq_some_iff.1 (take_one e2)
    obtain ⟨k3, g3⟩ := List.getElem?_eq_some_iff.1 (take_one e3)
    obtain ⟨k5, g5⟩ := List.getElem?_eq_some_iff.1 (take_one e5)
    have hd : cs.drop 39 = [.slice A xs.length cap] := by
      rw [List.drop_eq_getElem_cons k5, g5, List.drop_of_length_le (by omega)]
    have hd4 : cs.drop 4 = p.cells ++ [.slice A xs.length cap] := by
      have e := List.take_append_drop 35 (cs.drop 4)
      simp only [List.drop_drop, Nat.reduceAdd] at e
      rw [hp, hd] at e
      exact e.symm
    have hd0 : cs.drop 0 = [.int .i64 n0, .int .i64 n1, .int .i64 n2, .int .i64 n3] ++ cs.drop 4 := by
      rw [List.drop_eq_getElem_cons k0, List.drop_eq_getElem_cons k1, List.drop_eq_getElem_cons k2, List.drop_eq_getElem_cons k3, g0, g1, g2, g3]
      rfl
    rw [List.drop_zero, hd4] at hd0
    exact hd0
theorem open_acts {H : Type} {enc : TypeId × Value → H} {W : World} {base : Nat} {spare : Nat → Bool} {held : Bool} {v : Value} {d : DataW H} {ps : List MemPlace} {r : Reach} {b2 : Nat} {W2 : World}
    (h : DataW.Trod enc Tryd.prog W base spare held 52 v d ps) (hv : Value.okWide Tryd.prog W2 r b2 52 v) : ∃ (A : Option Addr) (xs : List AX) (cap : Nat), v = .slice A xs.length cap ∧ RR AXT W (.slice A xs.length cap) xs ∧ ∀ x ∈ xs, AXok W x := by
  obtain ⟨a, l, c, rfl⟩ := okWide_slice Tryd.underlying52 hv
  obtain ⟨fuel, hf⟩ := h
  obtain ⟨A, xs, cap, h1, h2, -, -, h3⟩ := open_row AXT (AXok W) 54 Tryd.underlying52 (by kernel_rfl) (fun n ecs y hy => open_act hy) hf
  refine ⟨A, xs, cap, ?_, h2, h3⟩
  have h4 : [Value.slice a l c] = [Value.slice A xs.length cap] := by
    rw [← h1]
    simp [Value.cells]
  exact List.cons.inj h4 |>.1
end Go.Proofs.YticfcelbnkiopaaDoor
