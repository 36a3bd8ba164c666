/- Ground of the statements BankHealed, part 5: Bk1, Bk2, Dk14, Bk3, Bk4, Ptr8, Bk0, Bk5, Bk6. -/
import Derived.Test.YticfcelbnkiopaaDoorBBC4
namespace Go.Proofs.YticfcelbnkiopaaDoor
set_option maxRecDepth 100000
open Go.RowKit
set_option linter.unusedSimpArgs false
set_option linter.unusedVariables false

theorem bh32_guard : Tryd.prog.eqGuardType Tryd.prog.depth 29 = false := by kernel_rfl
theorem bh32_eql (x y : List UInt8) (hx : x.length = 32) (hy : y.length = 32) (w : World) : (binOp .eql 29 (.agg (x.map cb).toArray) (.agg (y.map cb).toArray)).run Tryd.prog w = .ok (.bool (x == y)) w := by
  rw [run_eql_struct]
  have h := eqHash.eqs 9998 w ⟨x, hx⟩ ⟨y, hy⟩
  simp only [zip_u8 x y (by rw [hx, hy])] at h
  rw [flatMap_one, flatMap_one] at h
  rw [h]
  rfl
/-- A bank's things. -/
def bankL (bk bd bo bm : Nat) (vw : Value) (ss : List SVV) (t : UInt32) (st : DS) (u : List Bool) : List Own :=
  .blk bk 133 [.pointer (some ⟨bd, 0, none⟩), .pointer (some ⟨bm, 0, none⟩), .int .u32 (t.toNat : Int)] :: .blk bm 161 (mC u.length (wL u)) :: diskL bd bo vw ss st
/-- A bank as it can be. -/
structure BKok (st : DS) (u : List Bool) : Prop where
  d : st.ok u.length
  lets : -1 ≤ st.lets ∧ st.lets ≤ 9223372036854775807
  lab : ∀ j, j < 4 → u.getD j false = true
/-- What a sector's reading tells. -/
def rdE (st : DS) (n : Nat) (i : Int) : Int := if st.off = true then 8 else if i < 0 ∨ (n : Int) ≤ i then 1 else 0
theorem diskRead_all (bd bo n : Nat) (i : Int) (vw : Value) (ss : List SVV) (st : DS) (hs : st.ok n) (w : World) (hD : HOLD (diskL bd bo vw ss st) w) :
    Calls Tryd.prog 101 #[.pointer (some ⟨bd, 0, none⟩), .int .i64 i] w fun e w' => ∃ v, e = .returned (.tuple #[v, .int .i64 (rdE st n i)]) ∧ (rdE st n i = 0 → OB w' w.heap.size v (st.read i.toNat)) ∧ Below w.heap.size w w' := by
  unfold rdE
  cases ho : st.off with
  | true =>
    rw [if_pos rfl]
    refine (diskRead_off bd bo i vw ss st ho w hD).mono ?_
    rintro e w' ⟨rfl, hb⟩
    exact ⟨_, rfl, fun h => by (cases h), hb⟩
  | false =>
    rw [if_neg (by decide)]
    by_cases hi : i < 0 ∨ (n : Int) ≤ i
    · rw [if_pos hi]
      refine (diskRead_bad bd bo n i vw ss st hs ho hi w hD).mono ?_
      rintro e w' ⟨rfl, hb⟩
      exact ⟨_, rfl, fun h => by (cases h), hb⟩
    · rw [if_neg hi]
      obtain ⟨k, rfl⟩ : ∃ k : Nat, i = (k : Int) := ⟨i.toNat, by omega⟩
      refine (diskRead_ok bd bo n k vw ss st hs ho (by omega) w hD).mono ?_
      rintro e w' ⟨v, rfl, hov, hb⟩
      exact ⟨v, rfl, fun _ => by simpa using hov, hb⟩
theorem bank_disk {bk bd bo bm : Nat} {vw : Value} {ss : List SVV} {t : UInt32} {st : DS} {u : List Bool} {w : World} (h : HOLD (bankL bk bd bo bm vw ss t st u) w) : HOLD (diskL bd bo vw ss st) w := by
  unfold bankL at h
  exact h.tail.tail
theorem bank_d {bk bd bo bm : Nat} {vw : Value} {ss : List SVV} {t : UInt32} {st : DS} {u : List Bool} {w : World} (h : HOLD (bankL bk bd bo bm vw ss t st u) w) : w.cell? ⟨bk, 0, none⟩ = some (.pointer (some ⟨bd, 0, none⟩)) := by
  unfold bankL at h
  exact (h.va (b := bk)).cell 0
theorem bank_m {bk bd bo bm : Nat} {vw : Value} {ss : List SVV} {t : UInt32} {st : DS} {u : List Bool} {w : World} (h : HOLD (bankL bk bd bo bm vw ss t st u) w) : w.cell? ⟨bk, 1, none⟩ = some (.pointer (some ⟨bm, 0, none⟩)) := by
  unfold bankL at h
  exact (h.va (b := bk)).cell 1
theorem bank_t {bk bd bo bm : Nat} {vw : Value} {ss : List SVV} {t : UInt32} {st : DS} {u : List Bool} {w : World} (h : HOLD (bankL bk bd bo bm vw ss t st u) w) : w.cell? ⟨bk, 2, none⟩ = some (.int .u32 (t.toNat : Int)) := by
  unfold bankL at h
  exact (h.va (b := bk)).cell 2
def pwE (st : DS) : Int := if st.off = true then 8 else 0
def ckE (st : DS) (p : PT) : Int := if st.off = true then 8 else if p.may = true then 0 else 1
section
variable {bk bd bo bm : Nat} {vw : Value} {ss : List SVV} {t : UInt32} {st : DS} {u : List Bool}
set_option maxHeartbeats 1600000 in
theorem bPower_any (hk : BKok st u) (w : World) (hD : HOLD (bankL bk bd bo bm vw ss t st u) w) : Calls Tryd.prog 63 #[.pointer (some ⟨bk, 0, none⟩)] w fun e w' => e = .returned (.int .i64 (pwE st)) ∧ Below w.heap.size w w' := by
  have H := SH.start Nil w
  have c0 := bank_d hD
  have HR := Lib.hid (fun W (k : HOLD (bankL bk bd bo bm vw ss t st u) W) => diskRead_all bd bo u.length 0 vw ss st hk.d W (bank_disk k))
  have e0 : rdE st u.length 0 = pwE st := by
    have := hk.d.n1
    rw [rdE, pwE, if_neg (show ¬ ((0 : Int) < 0 ∨ (u.length : Int) ≤ 0) by omega)]
  rw [e0] at HR
  have RO := hD
  clear hD e0 hk
  unfold pwE at HR ⊢
  cases ho : st.off with
  | true =>
    rw [ho, if_pos rfl] at HR
    rw [if_pos rfl]
    clear ho
    go_enter Tryd.func63, Tryd.ntmps63
    go_wp2_with (first
      | ((with_reducible refine gDst 9 ?_); refine aLoadC _ rfl rfl (cell_below H.below c0) rfl ?_)
      | (go_at_call 101; refine (HR.out _ (H.old RO)).mono ?_; rintro e w' ⟨v, rfl, -, hb⟩; replace H := H.step hb; clear hb)
      | ((with_reducible refine gLoad ?_); first | (refine aLoad1 H _ rfl rfl (by first | exact (rfl : _ = some (Value.int _ _)) | exact (rfl : _ = some (Value.slice _ _ _)) | exact (rfl : _ = some (Value.bool _)) | exact (rfl : _ = some (Value.string _)) | exact (rfl : _ = some (Value.pointer _)) | rfl | (simp [List.getElem?_append]; done)) rfl ?_) | (refine aLoadC _ rfl rfl (by assumption) rfl ?_)))
    go_ret
    exact ⟨rfl, H.below⟩
  | false =>
    rw [ho, if_neg (by decide)] at HR
    rw [if_neg (by decide)]
    clear ho
    go_enter Tryd.func63, Tryd.ntmps63
    go_wp2_with (first
      | ((with_reducible refine gDst 9 ?_); refine aLoadC _ rfl rfl (cell_below H.below c0) rfl ?_)
      | (go_at_call 101; refine (HR.out _ (H.old RO)).mono ?_; rintro e w' ⟨v, rfl, -, hb⟩; replace H := H.step hb; clear hb)
      | ((with_reducible refine gLoad ?_); first | (refine aLoad1 H _ rfl rfl (by first | exact (rfl : _ = some (Value.int _ _)) | exact (rfl : _ = some (Value.slice _ _ _)) | exact (rfl : _ = some (Value.bool _)) | exact (rfl : _ = some (Value.string _)) | exact (rfl : _ = some (Value.pointer _)) | rfl | (simp [List.getElem?_append]; done)) rfl ?_) | (refine aLoadC _ rfl rfl (by assumption) rfl ?_)))
    go_ret
    exact ⟨rfl, H.below⟩
set_option maxHeartbeats 1600000 in
theorem bCheck_any (p : PT) (hk : BKok st u) (w : World) (hD : HOLD (bankL bk bd bo bm vw ss t st u) w) : Calls Tryd.prog 67 #[.pointer (some ⟨bk, 0, none⟩), .agg p.cells.toArray] w fun e w' => e = .returned (.int .i64 (ckE st p)) ∧ Below w.heap.size w w' := by
  have H := SH.start Nil w
  have HP := Lib.hid (fun W (k : HOLD (bankL bk bd bo bm vw ss t st u) W) => bPower_any hk W k)
  have hM : ∀ W, Calls Tryd.prog 83 #[.agg p.cells.toArray] W fun e w' => e = .returned (.bool p.may) ∧ Below W.heap.size W w' := fun W => May_any p W
  have HM := Lib.hid hM
  have HPL := Lib.hid p.len
  have RO := hD
  clear hD hk hM
  unfold ckE
  unfold pwE at HP
  cases ho : st.off with
  | true =>
    rw [ho, if_pos rfl] at HP
    rw [if_pos rfl]
    clear ho
    go_enter Tryd.func67, Tryd.ntmps67
    go_wp2_with (first
      | ((with_reducible refine gDst 11 ?_); refine aLoad H _ rfl rfl (part_all HPL.out) HPL.out rfl ?_)
      | (go_at_call 63; refine (HP.out _ (H.old RO)).mono ?_; rintro e w' ⟨rfl, hb⟩; replace H := H.step hb; clear hb)
      | (go_at_call 83; refine (HM.out _).mono ?_; rintro e w' ⟨rfl, hb⟩; replace H := H.step hb; clear hb)
      | ((with_reducible refine gDst 3 ?_); refine aBox H _ rfl rfl rfl ?_; clear H; intro b3 w3 H)
      | ((with_reducible refine gLoad ?_); first | (refine aLoad H _ rfl rfl (by first | exact part_all (by first | rfl | simp []) | (simp only [List.drop_succ_cons, List.drop_zero, List.take_succ_cons, List.take_zero]; rfl) | (simp [List.drop_append, List.take_append]; rfl)) (by first | rfl | simp []) rfl ?_)))
    go_ret
    exact ⟨rfl, H.below⟩
  | false =>
    rw [ho, if_neg (by decide)] at HP
    rw [if_neg (by decide)]
    clear ho
    cases hm : p.may with
    | true =>
      rw [hm] at HM
      rw [if_pos rfl]
      clear hm
      go_enter Tryd.func67, Tryd.ntmps67
      go_wp2_with (first
        | ((with_reducible refine gDst 11 ?_); refine aLoad H _ rfl rfl (part_all HPL.out) HPL.out rfl ?_)
        | (go_at_call 63; refine (HP.out _ (H.old RO)).mono ?_; rintro e w' ⟨rfl, hb⟩; replace H := H.step hb; clear hb)
        | (go_at_call 83; refine (HM.out _).mono ?_; rintro e w' ⟨rfl, hb⟩; replace H := H.step hb; clear hb)
        | ((with_reducible refine gDst 3 ?_); refine aBox H _ rfl rfl rfl ?_; clear H; intro b3 w3 H)
        | ((with_reducible refine gLoad ?_); first | (refine aLoad H _ rfl rfl (by first | exact part_all (by first | rfl | simp []) | (simp only [List.drop_succ_cons, List.drop_zero, List.take_succ_cons, List.take_zero]; rfl) | (simp [List.drop_append, List.take_append]; rfl)) (by first | rfl | simp []) rfl ?_)))
      go_ret
      exact ⟨rfl, H.below⟩
    | false =>
      rw [hm] at HM
      rw [if_neg (by decide)]
      clear hm
      go_enter Tryd.func67, Tryd.ntmps67
      go_wp2_with (first
        | ((with_reducible refine gDst 11 ?_); refine aLoad H _ rfl rfl (part_all HPL.out) HPL.out rfl ?_)
        | (go_at_call 63; refine (HP.out _ (H.old RO)).mono ?_; rintro e w' ⟨rfl, hb⟩; replace H := H.step hb; clear hb)
        | (go_at_call 83; refine (HM.out _).mono ?_; rintro e w' ⟨rfl, hb⟩; replace H := H.step hb; clear hb)
        | ((with_reducible refine gDst 3 ?_); refine aBox H _ rfl rfl rfl ?_; clear H; intro b3 w3 H)
        | ((with_reducible refine gLoad ?_); first | (refine aLoad H _ rfl rfl (by first | exact part_all (by first | rfl | simp []) | (simp only [List.drop_succ_cons, List.drop_zero, List.take_succ_cons, List.take_zero]; rfl) | (simp [List.drop_append, List.take_append]; rfl)) (by first | rfl | simp []) rfl ?_)))
      go_ret
      exact ⟨rfl, H.below⟩
end
/-- A copy is right. -/
def rightB (st : DS) (n : Nat) (p : PT) (a : UInt32) : Bool := a != 0 && decide (a.toNat < n) && (shaL (st.read a.toNat) == p.hash)
def PT.at_ (p : PT) (i : Nat) : UInt32 := if i = 0 then p.a0 else p.a1
theorem PT.cellAt {w : World} {b : Nat} {t : TypeId} {p : PT} (h : VA w b t p.cells) (i : Nat) (hi : i < 2) : w.cell? ⟨b, 33 + i, none⟩ = some (.int .u32 ((p.at_ i).toNat : Int)) := by
  rcases i with _ | _ | i
  · exact PT.cell33 h
  · exact PT.cell34 h
  · omega
theorem slice_tupB {f : FuncId} {args : Array Value} {w : World} {l : List UInt8} {n : Nat} {y : Value} (hn : l.length = n) (h : Calls Tryd.prog f args w fun e w' => ∃ v, e = .returned (.tuple #[v, y]) ∧ OB w' w.heap.size v l ∧ Below w.heap.size w w') :
    Calls Tryd.prog f args w fun e w' => ∃ A c, e = .returned (.tuple #[.slice A n c, y]) ∧ OB w' w.heap.size (.slice A n c) l ∧ Below w.heap.size w w' :=
  h.mono fun e w' ⟨v, h1, h2, h3⟩ => by
    obtain ⟨A, c, rfl, -⟩ := h2.reads.len
    rw [hn] at h1 h2
    exact ⟨A, c, h1, h2, h3⟩
theorem DS.read_len {st : DS} {n : Nat} (h : st.ok n) (i : Nat) (hi : i < n) : (st.read i).length = 256 := DS.readK_len h i hi st.ws.length (Nat.le_refl _)
section
variable {bk bd bo bm : Nat} {vw : Value} {ss : List SVV} {t : UInt32} {st : DS} {u : List Bool}
set_option maxHeartbeats 3200000 in
theorem bCopy_any (p : PT) (i : Nat) (hi : i < 2) (hk : BKok st u) (hoff : st.off = false) (w : World) (hD : HOLD (bankL bk bd bo bm vw ss t st u) w) :
    Calls Tryd.prog 69 #[.pointer (some ⟨bk, 0, none⟩), .agg p.cells.toArray, .int .i64 (i : Int)] w fun e w' => ∃ v, e = .returned (.tuple #[v, .bool (rightB st u.length p (p.at_ i))]) ∧ (rightB st u.length p (p.at_ i) = true → OB w' w.heap.size v (st.read (p.at_ i).toNat)) ∧ Below w.heap.size w w' := by
  have H := SH.start Nil w
  have RO := hD
  have hii : (i : Int) < 2 := by omega
  have HPL := Lib.hid p.len
  have HCA := Lib.hid (fun W b t (h : VA W b t p.cells) => PT.cellAt h i hi)
  generalize hA : p.at_ i = a at *
  have hab : a.toNat < 4294967296 := UInt32.toNat_lt a
  by_cases h0 : a = 0
  · subst h0
    have e0 : rightB st u.length p 0 = false := by simp [rightB]
    rw [e0]
    clear hD hk hA
    go_enter Tryd.func69, Tryd.ntmps69
    go_wp2_with (first
      | ((with_reducible refine gDst 13 ?_); refine aLoadC _ rfl rfl (HCA.out _ _ _ (H.hold.va (b := b4))) rfl ?_)
      | ((with_reducible refine gDst 4 ?_); refine aBox H _ rfl rfl rfl ?_; clear H; intro b4 w4 H)
      | ((with_reducible refine gLoad ?_); first | (refine aLoad1 H _ rfl rfl (by first | exact (rfl : _ = some (Value.int _ _)) | exact (rfl : _ = some (Value.slice _ _ _)) | exact (rfl : _ = some (Value.bool _)) | exact (rfl : _ = some (Value.string _)) | exact (rfl : _ = some (Value.pointer _)) | rfl | (simp [List.getElem?_append]; done)) rfl ?_) | (refine aLoadC _ rfl rfl (by assumption) rfl ?_)))
    go_ret2
    exact ⟨_, rfl, fun h => (by cases h), H.below⟩
  · have h0i : ((a.toNat : Int) == 0) = false := beq_eq_false_iff_ne.2 (fun h => h0 (UInt32.toNat_inj.1 (by rw [UInt32.toNat_zero]; omega)))
    have haw : IntKind.i64.wrap (a.toNat : Int) = (a.toNat : Int) := i64w _ (by omega) (by omega)
    have HR := Lib.hid (fun W (k : HOLD (bankL bk bd bo bm vw ss t st u) W) => diskRead_all bd bo u.length (a.toNat : Int) vw ss st hk.d W (bank_disk k))
    by_cases hn : a.toNat < u.length
    · have hl := DS.read_len hk.d a.toNat hn
      have er : rightB st u.length p a = (shaL (st.read a.toNat) == p.hash) := by
        rw [rightB, bne, beq_eq_false_iff_ne.2 h0]; simp [hn]
      rw [er]
      have hR0 := fun W (k : HOLD (bankL bk bd bo bm vw ss t st u) W) => slice_tupB hl (diskRead_ok bd bo u.length a.toNat vw ss st hk.d hoff hn W (bank_disk k))
      have HR0 := Lib.hid hR0
      change Hid (∀ W, HOLD (bankL bk bd bo bm vw ss t st u) W → Calls Tryd.prog 101 #[.pointer (some ⟨bd, 0, none⟩), .int .i64 (a.toNat : Int)] W fun e w' => ∃ A c, e = .returned (.tuple #[.slice A 256 c, .int .i64 0]) ∧ OB w' W.heap.size (.slice A 256 c) (st.read a.toNat) ∧ Below W.heap.size W w') at HR0
      generalize st.read a.toNat = X at *
      have HS := Lib.hid (fun v W (h : RB W v X) => Sum_any v X W h (by rw [hl]; decide))
      have HEQ := Lib.hid (fun W => bh32_eql (shaL X) p.hash (shaL_len _) p.hl W)
      have HHL := Lib.hid (show (p.hash.map cb).length = 32 by rw [List.length_map, p.hl])
      have HDR := Lib.hid (show (p.cells.drop 0).take 32 = p.hash.map cb by rw [List.drop_zero, p.take32])
      clear hD hk hA hl er h0 hoff hn HR hR0
      go_enter Tryd.func69, Tryd.ntmps69
      go_wp2_with (first
        | ((with_reducible refine gDst 13 ?_); refine aLoadC _ rfl rfl (HCA.out _ _ _ (H.hold.va (b := b4))) rfl ?_)
        | ((with_reducible refine gDst 4 ?_); refine aBox H _ rfl rfl rfl ?_; clear H; intro b4 w4 H)
        | ((with_reducible refine gLoad ?_); first | (refine aLoad1 H _ rfl rfl (by first | exact (rfl : _ = some (Value.int _ _)) | exact (rfl : _ = some (Value.slice _ _ _)) | exact (rfl : _ = some (Value.bool _)) | exact (rfl : _ = some (Value.string _)) | exact (rfl : _ = some (Value.pointer _)) | rfl | (simp [List.getElem?_append]; done)) rfl ?_) | (refine aLoadC _ rfl rfl (by assumption) rfl ?_)))
      have hck := bank_d (H.old RO)
      have hca := HCA.out _ _ _ (H.hold.va (b := b4))
      refine startA (fun i => false) (by kernel_rfl) (fun wS hS => ?_)
      replace H := H.drew
      rw [← hS] at H
      have HH := H.hold
      have HS0 : Below wS.heap.size wS wS := Below.refl _ _
      replace hck := cellS hS hck
      replace hca := cellS hS hca
      clear hS
      refine takeP 0 rfl (by kernel_rfl) (by kernel_rfl) (by kernel_rfl) (by kernel_rfl) (fun _ _ _ h => h) rfl (v := ?_) ?_ ?_
      rotate_left
      · intro w'; go_simp; (try with_reducible rfl)
      (try simp only [Act.put, List.setIfInBounds_toArray, List.set_cons_zero, List.set_cons_succ])
      refine takeP 1 rfl (by kernel_rfl) (by kernel_rfl) (by kernel_rfl) (by kernel_rfl) (fun _ _ _ h => h) rfl (v := ?_) ?_ ?_
      rotate_left
      · intro w'; go_simp; (try with_reducible rfl)
      (try simp only [Act.put, List.setIfInBounds_toArray, List.set_cons_zero, List.set_cons_succ])
      refine takeP 2 rfl (by kernel_rfl) (by kernel_rfl) (by kernel_rfl) (by kernel_rfl) (fun _ _ _ h => h) rfl (v := ?_) ?_ ?_
      rotate_left
      · intro w'; go_simp; (try with_reducible rfl)
      (try simp only [Act.put, List.setIfInBounds_toArray, List.set_cons_zero, List.set_cons_succ])
      refine takeL 3 HS0 rfl (by kernel_rfl) (by kernel_rfl) (by kernel_rfl) (by kernel_rfl) (by kernel_rfl) (fun _ _ _ h => h) rfl (v := ?_) ?_ ?_
      rotate_left
      · intro w' hw'; first | (refine Eq.trans (xLoad1 (HH.below hw') _ rfl rfl (by first | exact (rfl : _ = some (Value.int _ _)) | exact (rfl : _ = some (Value.slice _ _ _)) | exact (rfl : _ = some (Value.bool _)) | exact (rfl : _ = some (Value.string _)) | exact (rfl : _ = some (Value.pointer _)) | rfl | (simp [List.getElem?_append]; done))) ?_; with_reducible rfl) | (refine Eq.trans (xLoadC _ rfl rfl (cell_below hw' (by assumption))) ?_; with_reducible rfl)
      (try simp only [Act.put, List.setIfInBounds_toArray, List.set_cons_zero, List.set_cons_succ])
      refine takeP 4 rfl (by kernel_rfl) (by kernel_rfl) (by kernel_rfl) (by kernel_rfl) (fun _ _ _ h => h) rfl (v := ?_) ?_ ?_
      rotate_left
      · intro w'; go_simp; (try with_reducible rfl)
      (try simp only [Act.put, List.setIfInBounds_toArray, List.set_cons_zero, List.set_cons_succ])
      refine takeP 5 rfl (by kernel_rfl) (by kernel_rfl) (by kernel_rfl) (by kernel_rfl) (fun _ _ _ h => h) rfl (v := ?_) ?_ ?_
      rotate_left
      · intro w'; go_simp; (try with_reducible rfl)
      (try simp only [Act.put, List.setIfInBounds_toArray, List.set_cons_zero, List.set_cons_succ])
      refine takeP 6 rfl (by kernel_rfl) (by kernel_rfl) (by kernel_rfl) (by kernel_rfl) (fun _ _ _ h => h) rfl (v := ?_) ?_ ?_
      rotate_left
      · intro w'; go_simp; (try with_reducible rfl)
      (try simp only [Act.put, List.setIfInBounds_toArray, List.set_cons_zero, List.set_cons_succ])
      refine takeL 7 HS0 rfl (by kernel_rfl) (by kernel_rfl) (by kernel_rfl) (by kernel_rfl) (by kernel_rfl) (fun _ _ _ h => h) rfl (v := ?_) ?_ ?_
      rotate_left
      · intro w' hw'; first | (refine Eq.trans (xLoad1 (HH.below hw') _ rfl rfl (by first | exact (rfl : _ = some (Value.int _ _)) | exact (rfl : _ = some (Value.slice _ _ _)) | exact (rfl : _ = some (Value.bool _)) | exact (rfl : _ = some (Value.string _)) | exact (rfl : _ = some (Value.pointer _)) | rfl | (simp [List.getElem?_append]; done))) ?_; with_reducible rfl) | (refine Eq.trans (xLoadC _ rfl rfl (cell_below hw' (by assumption))) ?_; with_reducible rfl)
      (try simp only [Act.put, List.setIfInBounds_toArray, List.set_cons_zero, List.set_cons_succ])
      refine takeP 8 rfl (by kernel_rfl) (by kernel_rfl) (by kernel_rfl) (by kernel_rfl) (fun _ _ _ h => h) rfl (v := ?_) ?_ ?_
      rotate_left
      · intro w'; go_simp; (try with_reducible rfl)
      (try simp only [Act.put, List.setIfInBounds_toArray, List.set_cons_zero, List.set_cons_succ])
      refine stepL 9 rfl (by kernel_rfl) rfl (fun K hK => ?_)
      (go_simp; (with_reducible refine ((HR0.out _ (H.old RO))).mono ?_); rintro e w' ⟨A8, c8, rfl, ho, hb⟩; replace H := H.pushRow hb ho; clear ho; replace HS0 := below_two HS0 HS0.size hb; clear hb; refine hK.out _ _ (fun _ _ => HS0) ?_; clear K hK)
      (try simp only [Act.put, List.setIfInBounds_toArray, List.set_cons_zero, List.set_cons_succ])
      refine takeP 10 rfl (by kernel_rfl) (by kernel_rfl) (by kernel_rfl) (by kernel_rfl) (fun _ _ _ h => h) rfl (v := ?_) ?_ ?_
      rotate_left
      · intro w'; go_simp; (try with_reducible rfl)
      (try simp only [Act.put, List.setIfInBounds_toArray, List.set_cons_zero, List.set_cons_succ])
      refine takeP 11 rfl (by kernel_rfl) (by kernel_rfl) (by kernel_rfl) (by kernel_rfl) (fun _ _ _ h => h) rfl (v := ?_) ?_ ?_
      rotate_left
      · intro w'; go_simp; (try with_reducible rfl)
      (try simp only [Act.put, List.setIfInBounds_toArray, List.set_cons_zero, List.set_cons_succ])
      refine takeP 12 rfl (by kernel_rfl) (by kernel_rfl) (by kernel_rfl) (by kernel_rfl) (fun _ _ _ h => h) rfl (v := ?_) ?_ ?_
      rotate_left
      · intro w'; go_simp; (try with_reducible rfl)
      (try simp only [Act.put, List.setIfInBounds_toArray, List.set_cons_zero, List.set_cons_succ])
      refine takeP 13 rfl (by kernel_rfl) (by kernel_rfl) (by kernel_rfl) (by kernel_rfl) (fun _ _ _ h => h) rfl (v := ?_) ?_ ?_
      rotate_left
      · intro w'; go_simp; (try with_reducible rfl)
      (try simp only [Act.put, List.setIfInBounds_toArray, List.set_cons_zero, List.set_cons_succ])
      refine takeP 14 rfl (by kernel_rfl) (by kernel_rfl) (by kernel_rfl) (by kernel_rfl) (fun _ _ _ h => h) rfl (v := ?_) ?_ ?_
      rotate_left
      · intro w'; go_simp; (try with_reducible rfl)
      (try simp only [Act.put, List.setIfInBounds_toArray, List.set_cons_zero, List.set_cons_succ])
      refine doneL (by kernel_rfl) ?_
      go_wp2
      refine startA (fun i => false) (by kernel_rfl) (fun wS hS => ?_)
      replace H := H.drew
      rw [← hS] at H
      have HH := H.hold
      have HS0 : Below wS.heap.size wS wS := Below.refl _ _
      clear hS
      refine takeP 0 rfl (by kernel_rfl) (by kernel_rfl) (by kernel_rfl) (by kernel_rfl) (fun _ _ _ h => h) rfl (v := ?_) ?_ ?_
      rotate_left
      · intro w'; go_simp; (try with_reducible rfl)
      (try simp only [Act.put, List.setIfInBounds_toArray, List.set_cons_zero, List.set_cons_succ])
      refine takeP 1 rfl (by kernel_rfl) (by kernel_rfl) (by kernel_rfl) (by kernel_rfl) (fun _ _ _ h => h) rfl (v := ?_) ?_ ?_
      rotate_left
      · intro w'; go_simp; (try with_reducible rfl)
      (try simp only [Act.put, List.setIfInBounds_toArray, List.set_cons_zero, List.set_cons_succ])
      refine takeP 2 rfl (by kernel_rfl) (by kernel_rfl) (by kernel_rfl) (by kernel_rfl) (fun _ _ _ h => h) rfl (v := ?_) ?_ ?_
      rotate_left
      · intro w'; go_simp; (try with_reducible rfl)
      (try simp only [Act.put, List.setIfInBounds_toArray, List.set_cons_zero, List.set_cons_succ])
      refine takeP 3 rfl (by kernel_rfl) (by kernel_rfl) (by kernel_rfl) (by kernel_rfl) (fun _ _ _ h => h) rfl (v := ?_) ?_ ?_
      rotate_left
      · intro w'; go_simp; (try with_reducible rfl)
      (try simp only [Act.put, List.setIfInBounds_toArray, List.set_cons_zero, List.set_cons_succ])
      refine takeP 4 rfl (by kernel_rfl) (by kernel_rfl) (by kernel_rfl) (by kernel_rfl) (fun _ _ _ h => h) rfl (v := ?_) ?_ ?_
      rotate_left
      · intro w'; go_simp; (try with_reducible rfl)
      (try simp only [Act.put, List.setIfInBounds_toArray, List.set_cons_zero, List.set_cons_succ])
      refine takeP 6 rfl (by kernel_rfl) (by kernel_rfl) (by kernel_rfl) (by kernel_rfl) (fun _ _ _ h => h) rfl (v := ?_) ?_ ?_
      rotate_left
      · intro w'; go_simp; (try with_reducible rfl)
      (try simp only [Act.put, List.setIfInBounds_toArray, List.set_cons_zero, List.set_cons_succ])
      refine takeL 7 HS0 rfl (by kernel_rfl) (by kernel_rfl) (by kernel_rfl) (by kernel_rfl) (by kernel_rfl) (fun _ _ _ h => h) rfl (v := ?_) ?_ ?_
      rotate_left
      · intro w' hw'; refine Eq.trans (xLoad (HH.below hw') _ rfl rfl HDR.out HHL.out) ?_; with_reducible rfl
      (try simp only [Act.put, List.setIfInBounds_toArray, List.set_cons_zero, List.set_cons_succ])
      refine stepL 5 rfl (by kernel_rfl) rfl (fun K hK => ?_)
      (go_simp; (with_reducible refine ((HS.out _ _ (H.hold.rr (.slice A8 256 c8)))).mono ?_); rintro e w' ⟨rfl, hb⟩; replace H := H.step hb; replace HS0 := below_two HS0 HS0.size hb; clear hb; refine hK.out _ _ (fun _ _ => HS0) ?_; clear K hK)
      (try simp only [Act.put, List.setIfInBounds_toArray, List.set_cons_zero, List.set_cons_succ])
      refine takeL 8 HS0 rfl (by kernel_rfl) (by kernel_rfl) (by kernel_rfl) (by kernel_rfl) (by kernel_rfl) (fun _ _ _ h => h) rfl (v := ?_) ?_ ?_
      rotate_left
      · intro w' hw'; refine Eq.trans (exec_eql 29 _ _ _ rfl _ _ rfl rfl bh32_guard _ (HEQ.out _)) ?_; with_reducible rfl
      (try simp only [Act.put, List.setIfInBounds_toArray, List.set_cons_zero, List.set_cons_succ])
      refine takeP 9 rfl (by kernel_rfl) (by kernel_rfl) (by kernel_rfl) (by kernel_rfl) (fun _ _ _ h => h) rfl (v := ?_) ?_ ?_
      rotate_left
      · intro w'; go_simp; (try with_reducible rfl)
      (try simp only [Act.put, List.setIfInBounds_toArray, List.set_cons_zero, List.set_cons_succ])
      refine takeP 10 rfl (by kernel_rfl) (by kernel_rfl) (by kernel_rfl) (by kernel_rfl) (fun _ _ _ h => h) rfl (v := ?_) ?_ ?_
      rotate_left
      · intro w'; go_simp; (try with_reducible rfl)
      (try simp only [Act.put, List.setIfInBounds_toArray, List.set_cons_zero, List.set_cons_succ])
      refine takeP 11 rfl (by kernel_rfl) (by kernel_rfl) (by kernel_rfl) (by kernel_rfl) (fun _ _ _ h => h) rfl (v := ?_) ?_ ?_
      rotate_left
      · intro w'; go_simp; (try with_reducible rfl)
      (try simp only [Act.put, List.setIfInBounds_toArray, List.set_cons_zero, List.set_cons_succ])
      refine doneL (by kernel_rfl) ?_
      go_wp2
      go_ret2
      exact ⟨.slice A8 256 c8, rfl, fun _ => H.ow _, H.below⟩
    · have e0 : rdE st u.length (a.toNat : Int) = 1 := by rw [rdE, if_neg (by rw [hoff]; decide), if_pos (by omega)]
      have er : rightB st u.length p a = false := by
        rw [rightB]; simp [hn]
      rw [e0] at HR
      rw [er]
      clear hD hk hA e0 er h0 hoff hn
      go_enter Tryd.func69, Tryd.ntmps69
      go_wp2_with (first
        | ((with_reducible refine gDst 13 ?_); refine aLoadC _ rfl rfl (HCA.out _ _ _ (H.hold.va (b := b4))) rfl ?_)
        | ((with_reducible refine gDst 4 ?_); refine aBox H _ rfl rfl rfl ?_; clear H; intro b4 w4 H)
        | ((with_reducible refine gLoad ?_); first | (refine aLoad1 H _ rfl rfl (by first | exact (rfl : _ = some (Value.int _ _)) | exact (rfl : _ = some (Value.slice _ _ _)) | exact (rfl : _ = some (Value.bool _)) | exact (rfl : _ = some (Value.string _)) | exact (rfl : _ = some (Value.pointer _)) | rfl | (simp [List.getElem?_append]; done)) rfl ?_) | (refine aLoadC _ rfl rfl (by assumption) rfl ?_)))
      have hck := bank_d (H.old RO)
      have hca := HCA.out _ _ _ (H.hold.va (b := b4))
      refine startA (fun i => false) (by kernel_rfl) (fun wS hS => ?_)
      replace H := H.drew
      rw [← hS] at H
      have HH := H.hold
      have HS0 : Below wS.heap.size wS wS := Below.refl _ _
      replace hck := cellS hS hck
      replace hca := cellS hS hca
      clear hS
      refine takeP 0 rfl (by kernel_rfl) (by kernel_rfl) (by kernel_rfl) (by kernel_rfl) (fun _ _ _ h => h) rfl (v := ?_) ?_ ?_
      rotate_left
      · intro w'; go_simp; (try with_reducible rfl)
      (try simp only [Act.put, List.setIfInBounds_toArray, List.set_cons_zero, List.set_cons_succ])
      refine takeP 1 rfl (by kernel_rfl) (by kernel_rfl) (by kernel_rfl) (by kernel_rfl) (fun _ _ _ h => h) rfl (v := ?_) ?_ ?_
      rotate_left
      · intro w'; go_simp; (try with_reducible rfl)
      (try simp only [Act.put, List.setIfInBounds_toArray, List.set_cons_zero, List.set_cons_succ])
      refine takeP 2 rfl (by kernel_rfl) (by kernel_rfl) (by kernel_rfl) (by kernel_rfl) (fun _ _ _ h => h) rfl (v := ?_) ?_ ?_
      rotate_left
      · intro w'; go_simp; (try with_reducible rfl)
      (try simp only [Act.put, List.setIfInBounds_toArray, List.set_cons_zero, List.set_cons_succ])
      refine takeL 3 HS0 rfl (by kernel_rfl) (by kernel_rfl) (by kernel_rfl) (by kernel_rfl) (by kernel_rfl) (fun _ _ _ h => h) rfl (v := ?_) ?_ ?_
      rotate_left
      · intro w' hw'; first | (refine Eq.trans (xLoad1 (HH.below hw') _ rfl rfl (by first | exact (rfl : _ = some (Value.int _ _)) | exact (rfl : _ = some (Value.slice _ _ _)) | exact (rfl : _ = some (Value.bool _)) | exact (rfl : _ = some (Value.string _)) | exact (rfl : _ = some (Value.pointer _)) | rfl | (simp [List.getElem?_append]; done))) ?_; with_reducible rfl) | (refine Eq.trans (xLoadC _ rfl rfl (cell_below hw' (by assumption))) ?_; with_reducible rfl)
      (try simp only [Act.put, List.setIfInBounds_toArray, List.set_cons_zero, List.set_cons_succ])
      refine takeP 4 rfl (by kernel_rfl) (by kernel_rfl) (by kernel_rfl) (by kernel_rfl) (fun _ _ _ h => h) rfl (v := ?_) ?_ ?_
      rotate_left
      · intro w'; go_simp; (try with_reducible rfl)
      (try simp only [Act.put, List.setIfInBounds_toArray, List.set_cons_zero, List.set_cons_succ])
      refine takeP 5 rfl (by kernel_rfl) (by kernel_rfl) (by kernel_rfl) (by kernel_rfl) (fun _ _ _ h => h) rfl (v := ?_) ?_ ?_
      rotate_left
      · intro w'; go_simp; (try with_reducible rfl)
      (try simp only [Act.put, List.setIfInBounds_toArray, List.set_cons_zero, List.set_cons_succ])
      refine takeP 6 rfl (by kernel_rfl) (by kernel_rfl) (by kernel_rfl) (by kernel_rfl) (fun _ _ _ h => h) rfl (v := ?_) ?_ ?_
      rotate_left
      · intro w'; go_simp; (try with_reducible rfl)
      (try simp only [Act.put, List.setIfInBounds_toArray, List.set_cons_zero, List.set_cons_succ])
      refine takeL 7 HS0 rfl (by kernel_rfl) (by kernel_rfl) (by kernel_rfl) (by kernel_rfl) (by kernel_rfl) (fun _ _ _ h => h) rfl (v := ?_) ?_ ?_
      rotate_left
      · intro w' hw'; first | (refine Eq.trans (xLoad1 (HH.below hw') _ rfl rfl (by first | exact (rfl : _ = some (Value.int _ _)) | exact (rfl : _ = some (Value.slice _ _ _)) | exact (rfl : _ = some (Value.bool _)) | exact (rfl : _ = some (Value.string _)) | exact (rfl : _ = some (Value.pointer _)) | rfl | (simp [List.getElem?_append]; done))) ?_; with_reducible rfl) | (refine Eq.trans (xLoadC _ rfl rfl (cell_below hw' (by assumption))) ?_; with_reducible rfl)
      (try simp only [Act.put, List.setIfInBounds_toArray, List.set_cons_zero, List.set_cons_succ])
      refine takeP 8 rfl (by kernel_rfl) (by kernel_rfl) (by kernel_rfl) (by kernel_rfl) (fun _ _ _ h => h) rfl (v := ?_) ?_ ?_
      rotate_left
      · intro w'; go_simp; (try with_reducible rfl)
      (try simp only [Act.put, List.setIfInBounds_toArray, List.set_cons_zero, List.set_cons_succ])
      refine stepL 9 rfl (by kernel_rfl) rfl (fun K hK => ?_)
      (go_simp; (with_reducible refine ((HR.out _ (H.old RO))).mono ?_); rintro e w' ⟨v8, rfl, -, hb⟩; replace H := H.step hb; replace HS0 := below_two HS0 HS0.size hb; clear hb; refine hK.out _ _ (fun _ _ => HS0) ?_; clear K hK)
      (try simp only [Act.put, List.setIfInBounds_toArray, List.set_cons_zero, List.set_cons_succ])
      refine takeP 10 rfl (by kernel_rfl) (by kernel_rfl) (by kernel_rfl) (by kernel_rfl) (fun _ _ _ h => h) rfl (v := ?_) ?_ ?_
      rotate_left
      · intro w'; go_simp; (try with_reducible rfl)
      (try simp only [Act.put, List.setIfInBounds_toArray, List.set_cons_zero, List.set_cons_succ])
      refine takeP 11 rfl (by kernel_rfl) (by kernel_rfl) (by kernel_rfl) (by kernel_rfl) (fun _ _ _ h => h) rfl (v := ?_) ?_ ?_
      rotate_left
      · intro w'; go_simp; (try with_reducible rfl)
      (try simp only [Act.put, List.setIfInBounds_toArray, List.set_cons_zero, List.set_cons_succ])
      refine takeP 12 rfl (by kernel_rfl) (by kernel_rfl) (by kernel_rfl) (by kernel_rfl) (fun _ _ _ h => h) rfl (v := ?_) ?_ ?_
      rotate_left
      · intro w'; go_simp; (try with_reducible rfl)
      (try simp only [Act.put, List.setIfInBounds_toArray, List.set_cons_zero, List.set_cons_succ])
      refine takeP 13 rfl (by kernel_rfl) (by kernel_rfl) (by kernel_rfl) (by kernel_rfl) (fun _ _ _ h => h) rfl (v := ?_) ?_ ?_
      rotate_left
      · intro w'; go_simp; (try with_reducible rfl)
      (try simp only [Act.put, List.setIfInBounds_toArray, List.set_cons_zero, List.set_cons_succ])
      refine takeP 14 rfl (by kernel_rfl) (by kernel_rfl) (by kernel_rfl) (by kernel_rfl) (fun _ _ _ h => h) rfl (v := ?_) ?_ ?_
      rotate_left
      · intro w'; go_simp; (try with_reducible rfl)
      (try simp only [Act.put, List.setIfInBounds_toArray, List.set_cons_zero, List.set_cons_succ])
      refine doneL (by kernel_rfl) ?_
      go_wp2
      refine startA (fun i => false) (by kernel_rfl) (fun wS hS => ?_)
      replace H := H.drew
      rw [← hS] at H
      have HH := H.hold
      have HS0 : Below wS.heap.size wS wS := Below.refl _ _
      clear hS
      refine takeP 0 rfl (by kernel_rfl) (by kernel_rfl) (by kernel_rfl) (by kernel_rfl) (fun _ _ _ h => h) rfl (v := ?_) ?_ ?_
      rotate_left
      · intro w'; go_simp; (try with_reducible rfl)
      (try simp only [Act.put, List.setIfInBounds_toArray, List.set_cons_zero, List.set_cons_succ])
      refine takeP 1 rfl (by kernel_rfl) (by kernel_rfl) (by kernel_rfl) (by kernel_rfl) (fun _ _ _ h => h) rfl (v := ?_) ?_ ?_
      rotate_left
      · intro w'; go_simp; (try with_reducible rfl)
      (try simp only [Act.put, List.setIfInBounds_toArray, List.set_cons_zero, List.set_cons_succ])
      refine takeP 2 rfl (by kernel_rfl) (by kernel_rfl) (by kernel_rfl) (by kernel_rfl) (fun _ _ _ h => h) rfl (v := ?_) ?_ ?_
      rotate_left
      · intro w'; go_simp; (try with_reducible rfl)
      (try simp only [Act.put, List.setIfInBounds_toArray, List.set_cons_zero, List.set_cons_succ])
      refine takeP 3 rfl (by kernel_rfl) (by kernel_rfl) (by kernel_rfl) (by kernel_rfl) (fun _ _ _ h => h) rfl (v := ?_) ?_ ?_
      rotate_left
      · intro w'; go_simp; (try with_reducible rfl)
      (try simp only [Act.put, List.setIfInBounds_toArray, List.set_cons_zero, List.set_cons_succ])
      refine skipL 4 rfl (by kernel_rfl) (by kernel_rfl) (by kernel_rfl) (by kernel_rfl) (fun _ _ _ h => h) rfl ?_
      (try simp only [Act.put, List.setIfInBounds_toArray, List.set_cons_zero, List.set_cons_succ])
      refine skipL 5 rfl (by kernel_rfl) (by kernel_rfl) (by kernel_rfl) (by kernel_rfl) (fun _ _ _ h => h) rfl ?_
      (try simp only [Act.put, List.setIfInBounds_toArray, List.set_cons_zero, List.set_cons_succ])
      refine skipL 6 rfl (by kernel_rfl) (by kernel_rfl) (by kernel_rfl) (by kernel_rfl) (fun _ _ _ h => h) rfl ?_
      (try simp only [Act.put, List.setIfInBounds_toArray, List.set_cons_zero, List.set_cons_succ])
      refine skipL 7 rfl (by kernel_rfl) (by kernel_rfl) (by kernel_rfl) (by kernel_rfl) (fun _ _ _ h => h) rfl ?_
      (try simp only [Act.put, List.setIfInBounds_toArray, List.set_cons_zero, List.set_cons_succ])
      refine skipL 8 rfl (by kernel_rfl) (by kernel_rfl) (by kernel_rfl) (by kernel_rfl) (fun _ _ _ h => h) rfl ?_
      (try simp only [Act.put, List.setIfInBounds_toArray, List.set_cons_zero, List.set_cons_succ])
      refine takeP 9 rfl (by kernel_rfl) (by kernel_rfl) (by kernel_rfl) (by kernel_rfl) (fun _ _ _ h => h) rfl (v := ?_) ?_ ?_
      rotate_left
      · intro w'; go_simp; (try with_reducible rfl)
      (try simp only [Act.put, List.setIfInBounds_toArray, List.set_cons_zero, List.set_cons_succ])
      refine takeP 10 rfl (by kernel_rfl) (by kernel_rfl) (by kernel_rfl) (by kernel_rfl) (fun _ _ _ h => h) rfl (v := ?_) ?_ ?_
      rotate_left
      · intro w'; go_simp; (try with_reducible rfl)
      (try simp only [Act.put, List.setIfInBounds_toArray, List.set_cons_zero, List.set_cons_succ])
      refine takeP 11 rfl (by kernel_rfl) (by kernel_rfl) (by kernel_rfl) (by kernel_rfl) (fun _ _ _ h => h) rfl (v := ?_) ?_ ?_
      rotate_left
      · intro w'; go_simp; (try with_reducible rfl)
      (try simp only [Act.put, List.setIfInBounds_toArray, List.set_cons_zero, List.set_cons_succ])
      refine doneL (by kernel_rfl) ?_
      go_wp2
      go_ret2
      exact ⟨_, rfl, fun h => (by cases h), H.below⟩
end
end Go.Proofs.YticfcelbnkiopaaDoor

namespace Go.Proofs.YticfcelbnkiopaaDoor
set_option maxRecDepth 100000
open Go.RowKit
set_option linter.unusedSimpArgs false
set_option linter.unusedVariables false

def cpB (st : DS) (n : Nat) (p : PT) (i : Nat) : Bool := rightB st n p (p.at_ i)
def brE (st : DS) (n : Nat) (p : PT) : Int := if ckE st p ≠ 0 then ckE st p else if (p == PT.hole) = true then 0 else if cpB st n p 0 = true then 0 else if cpB st n p 1 = true then 0 else 9
def brB (st : DS) (n : Nat) (p : PT) : List UInt8 := if (p == PT.hole) = true then List.replicate 256 0 else if cpB st n p 0 = true then st.read p.a0.toNat else st.read p.a1.toNat
theorem ckE_zero {st : DS} {p : PT} (h : ckE st p = 0) : st.off = false ∧ p.may = true := by
  unfold ckE at h
  split at h
  · cases h
  · rename_i h1
    split at h
    · rename_i h2; exact ⟨by simpa using h1, h2⟩
    · cases h
theorem brB_len {st : DS} {n : Nat} {p : PT} (h : st.ok n) (he : brE st n p = 0) : (brB st n p).length = 256 := by
  unfold brE at he
  split at he
  · rename_i h1; exact absurd he h1
  · unfold brB
    split at he
    · rename_i h2; rw [if_pos h2]; simp
    · rename_i h2
      rw [if_neg h2]
      split at he
      · rename_i h3
        rw [if_pos h3]
        have : p.a0.toNat < n := by
          unfold cpB rightB at h3
          simp only [Bool.and_eq_true, decide_eq_true_eq] at h3
          exact h3.1.2
        exact DS.read_len h _ this
      · rename_i h3
        rw [if_neg h3]
        split at he
        · rename_i h4
          have : p.a1.toNat < n := by
            unfold cpB rightB at h4
            simp only [Bool.and_eq_true, decide_eq_true_eq] at h4
            exact h4.1.2
          exact DS.read_len h _ this
        · cases he
section
variable {bk bd bo bm : Nat} {vw : Value} {ss : List SVV} {t : UInt32} {st : DS} {u : List Bool}
def relRd (st : DS) (n : Nat) (p : PT) (w : World) (b3 : Nat) (v21 : Value) (wr : World) : Prop := ∃ i : Nat, v21 = .int .i64 (i : Int) ∧ i ≤ 2 ∧ (∀ j, j < i → cpB st n p j = false) ∧ SH Nil w wr [.blk b3 33 p.cells]
set_option maxHeartbeats 3200000 in
theorem bRead_any (p : PT) (hk : BKok st u) (w : World) (hD : HOLD (bankL bk bd bo bm vw ss t st u) w) :
    Calls Tryd.prog 18 #[.pointer (some ⟨bk, 0, none⟩), .agg p.cells.toArray] w fun e w' => ∃ v, e = .returned (.tuple #[v, .int .i64 (brE st u.length p)]) ∧ (brE st u.length p = 0 → OB w' w.heap.size v (brB st u.length p)) ∧ (brE st u.length p ≠ 0 → v = .slice none 0 0) ∧ Below w.heap.size w w' := by
  have H := SH.start Nil w
  have hP := fun W (k : HOLD (bankL bk bd bo bm vw ss t st u) W) => bCheck_any p hk W k
  have hM := fun W => IsHole_any p W
  have HPL := Lib.hid p.len
  have RO := hD
  by_cases hE : ckE st p = 0
  · rw [hE] at hP
    have HP := Lib.hid hP
    have hE2 : brE st u.length p = if (p == PT.hole) = true then 0 else if cpB st u.length p 0 = true then 0 else if cpB st u.length p 1 = true then 0 else 9 := by rw [brE, if_neg (by simpa using hE)]
    have hoff := (ckE_zero hE).1
    rw [hE2]
    clear hP hE2 hE hD
    unfold brB
    cases hh : (p == PT.hole) with
    | true =>
      rw [hh] at hM
      have HM := Lib.hid hM
      rw [if_pos rfl, if_pos rfl]
      clear hM hh
      go_enter Tryd.func18, Tryd.ntmps18
      go_wp2_with (first
        | ((with_reducible refine gDst 11 ?_); refine aLoad H _ rfl rfl (part_all HPL.out) HPL.out rfl ?_)
        | ((with_reducible refine gDst 18 ?_); refine aLoad H _ rfl rfl (part_all HPL.out) HPL.out rfl ?_)
        | (go_at_call 67; refine (HP.out _ (H.old RO)).mono ?_; rintro e w' ⟨rfl, hb⟩; replace H := H.step hb; clear hb)
        | (go_at_call 68; refine (HM.out _).mono ?_; rintro e w' ⟨rfl, hb⟩; replace H := H.step hb; clear hb)
        | ((with_reducible refine gDst 20 ?_); refine aMakeB 256 (by decide) H _ _ rfl rfl rfl rfl ?_; clear H; intro b20 w20 H; (try dsimp only at H))
        | ((with_reducible refine gDst 3 ?_); refine aBox H _ rfl rfl rfl ?_; clear H; intro b3 w3 H)
        | ((with_reducible refine gLoad ?_); first | (refine aLoad H _ rfl rfl (by first | exact part_all (by first | rfl | simp []) | (simp only [List.drop_succ_cons, List.drop_zero, List.take_succ_cons, List.take_zero]; rfl) | (simp [List.drop_append, List.take_append]; rfl)) (by first | rfl | simp []) rfl ?_)))
      go_ret2
      exact ⟨.slice (some ⟨b20, 0, none⟩) 256 256, rfl, fun _ => H.ow _, fun h => absurd rfl h, H.below⟩
    | false =>
      rw [hh] at hM
      have HM := Lib.hid hM
      simp only [Bool.false_eq_true, if_false]
      generalize hEQ : (if cpB st u.length p 0 = true then (0 : Int) else if cpB st u.length p 1 = true then 0 else 9) = E
      generalize hXQ : (if cpB st u.length p 0 = true then st.read p.a0.toNat else st.read p.a1.toNat) = XX
      have HEQ := Lib.hid hEQ
      have HXQ := Lib.hid hXQ
      clear hEQ hXQ
      have hC := fun (i : Nat) (hi : i < 2) W (k : HOLD (bankL bk bd bo bm vw ss t st u) W) => bCopy_any p i hi hk hoff W k
      change ∀ (i : Nat) (hi : i < 2) W, HOLD (bankL bk bd bo bm vw ss t st u) W → Calls Tryd.prog 69 #[.pointer (some ⟨bk, 0, none⟩), .agg p.cells.toArray, .int .i64 (i : Int)] W fun e w' => ∃ v, e = .returned (.tuple #[v, .bool (cpB st u.length p i)]) ∧ (cpB st u.length p i = true → OB w' W.heap.size v (st.read (p.at_ i).toNat)) ∧ Below W.heap.size W w' at hC
      clear hM hh
      go_enter Tryd.func18, Tryd.ntmps18
      go_wp2_with (first
        | ((with_reducible refine gDst 11 ?_); refine aLoad H _ rfl rfl (part_all HPL.out) HPL.out rfl ?_)
        | ((with_reducible refine gDst 18 ?_); refine aLoad H _ rfl rfl (part_all HPL.out) HPL.out rfl ?_)
        | (go_at_call 67; refine (HP.out _ (H.old RO)).mono ?_; rintro e w' ⟨rfl, hb⟩; replace H := H.step hb; clear hb)
        | (go_at_call 68; refine (HM.out _).mono ?_; rintro e w' ⟨rfl, hb⟩; replace H := H.step hb; clear hb)
        | ((with_reducible refine gDst 20 ?_); refine aMakeB 256 (by decide) H _ _ rfl rfl rfl rfl ?_; clear H; intro b20 w20 H; (try dsimp only at H))
        | ((with_reducible refine gDst 3 ?_); refine aBox H _ rfl rfl rfl ?_; clear H; intro b3 w3 H)
        | ((with_reducible refine gLoad ?_); first | (refine aLoad H _ rfl rfl (by first | exact part_all (by first | rfl | simp []) | (simp only [List.drop_succ_cons, List.drop_zero, List.take_succ_cons, List.take_zero]; rfl) | (simp [List.drop_append, List.take_append]; rfl)) (by first | rfl | simp []) rfl ?_)))
      go_loopw [21] (fun v21 wr => relRd st u.length p w b3 v21 wr) (fun v _ => 2 - (intOf v).toNat)
      case atStart => exact ⟨0, rfl, by omega, fun j hj => by omega, H⟩
      case round =>
        obtain ⟨i, rfl, hi, hno, HS⟩ := hrel
        clear H
        have H := HS
        clear HS
        by_cases h2 : i < 2
        · have hii : (i : Int) < 2 := by omega
          have hc := hC i h2
          cases hr : cpB st u.length p i with
          | true =>
            rw [hr] at hc
            have HC : Hid (∀ W, HOLD (bankL bk bd bo bm vw ss t st u) W → Calls Tryd.prog 69 #[.pointer (some ⟨bk, 0, none⟩), .agg p.cells.toArray, .int .i64 (i : Int)] W fun e w' => ∃ v, e = .returned (.tuple #[v, .bool true]) ∧ OB w' W.heap.size v (st.read (p.at_ i).toNat) ∧ Below W.heap.size W w') := Lib.hid (fun W k => (hc W k).mono fun e w' ⟨v, h1, h2, h3⟩ => ⟨v, h1, h2 rfl, h3⟩)
            have hres : (if cpB st u.length p 0 = true then (0 : Int) else if cpB st u.length p 1 = true then 0 else 9) = 0 ∧ (if cpB st u.length p 0 = true then st.read p.a0.toNat else st.read p.a1.toNat) = st.read (p.at_ i).toNat := by
              rcases i with _ | _ | i
              · rw [hr]; exact ⟨rfl, rfl⟩
              · rw [hno 0 (by omega), hr]; exact ⟨rfl, rfl⟩
              · omega
            generalize st.read (p.at_ i).toNat = X at *
            have HRES := Lib.hid hres
            clear hc hr hno hres hC
            go_wp2_with (first
              | ((with_reducible refine gDst 26 ?_); refine aLoad H _ rfl rfl (part_all HPL.out) HPL.out rfl ?_)
              | (go_at_call 69; refine (HC.out _ (H.old RO)).mono ?_; rintro e w' ⟨v, rfl, ho, hb⟩; replace H := H.pushRow hb ho; clear hb ho)
              | ((with_reducible refine gDst 3 ?_); refine aBox H _ rfl rfl rfl ?_; clear H; intro b3 w3 H)
              | ((with_reducible refine gLoad ?_); first | (refine aLoad H _ rfl rfl (by first | exact part_all (by first | rfl | simp []) | (simp only [List.drop_succ_cons, List.drop_zero, List.take_succ_cons, List.take_zero]; rfl) | (simp [List.drop_append, List.take_append]; rfl)) (by first | rfl | simp []) rfl ?_)))
            go_ret2
            rw [show E = 0 from HEQ.out.symm.trans HRES.out.1, show XX = X from HXQ.out.symm.trans HRES.out.2]
            exact ⟨v, rfl, fun _ => H.ow _, fun h => absurd rfl h, H.below⟩
          | false =>
            rw [hr] at hc
            have HC : Hid (∀ W, HOLD (bankL bk bd bo bm vw ss t st u) W → Calls Tryd.prog 69 #[.pointer (some ⟨bk, 0, none⟩), .agg p.cells.toArray, .int .i64 (i : Int)] W fun e w' => ∃ v, e = .returned (.tuple #[v, .bool false]) ∧ Below W.heap.size W w') := Lib.hid (fun W k => (hc W k).mono fun e w' ⟨v, h1, h2, h3⟩ => ⟨v, h1, h3⟩)
            have hno' : ∀ j, j < i + 1 → cpB st u.length p j = false := fun j hj => by
              by_cases e : j = i
              · subst e; exact hr
              · exact hno j (by omega)
            have HNO := Lib.hid hno'
            clear hc hr hno hC hno'
            go_wp2_with (first
              | ((with_reducible refine gDst 26 ?_); refine aLoad H _ rfl rfl (part_all HPL.out) HPL.out rfl ?_)
              | (go_at_call 69; refine (HC.out _ (H.old RO)).mono ?_; rintro e w' ⟨v, rfl, hb⟩; replace H := H.step hb; clear hb)
              | ((with_reducible refine gDst 3 ?_); refine aBox H _ rfl rfl rfl ?_; clear H; intro b3 w3 H)
              | ((with_reducible refine gLoad ?_); first | (refine aLoad H _ rfl rfl (by first | exact part_all (by first | rfl | simp []) | (simp only [List.drop_succ_cons, List.drop_zero, List.take_succ_cons, List.take_zero]; rfl) | (simp [List.drop_append, List.take_append]; rfl)) (by first | rfl | simp []) rfl ?_)))
            go_roundw
            case rel => first | exact ⟨i + 1, by go_num, by omega, HNO.out, H⟩ | exact ⟨_, ⟨i + 1, by go_num, by omega, HNO.out, H⟩, rfl⟩ | exact ⟨_, _, ⟨i + 1, by go_num, by omega, HNO.out, H⟩, rfl, rfl⟩ | exact ⟨_, _, _, ⟨i + 1, by go_num, by omega, HNO.out, H⟩, rfl, rfl, rfl⟩ | exact ⟨_, _, _, _, ⟨i + 1, by go_num, by omega, HNO.out, H⟩, rfl, rfl, rfl, rfl⟩ | exact ⟨_, _, _, _, _, ⟨i + 1, by go_num, by omega, HNO.out, H⟩, rfl, rfl, rfl, rfl, rfl⟩ | ((repeat (apply Exists.intro)); exact ⟨⟨i + 1, by go_num, by omega, HNO.out, H⟩, rfl⟩)
            case measure => simp [intOf] <;> omega
        · obtain rfl : i = 2 := by omega
          have h0 := hno 0 (by omega)
          have h1 := hno 1 (by omega)
          have HN0 := Lib.hid h0
          have HN1 := Lib.hid h1
          clear hno h0 h1 hC
          go_wp2
          go_ret2
          have e9 : E = 9 := by rw [← HEQ.out, HN0.out, HN1.out]; rfl
          rw [e9]
          exact ⟨_, rfl, fun h => absurd h (by decide), fun _ => rfl, H.below⟩
  · have HP := Lib.hid hP
    have hE2 : brE st u.length p = ckE st p := by rw [brE, if_pos hE]
    have k1 : (ckE st p != 0) = true := by simpa using hE
    have HM : Hid True := Lib.hid trivial
    rw [hE2]
    clear hP hE2 hD hM
    generalize ckE st p = E at *
    go_enter Tryd.func18, Tryd.ntmps18
    go_wp2_with (first
      | ((with_reducible refine gDst 11 ?_); refine aLoad H _ rfl rfl (part_all HPL.out) HPL.out rfl ?_)
      | (go_at_call 67; refine (HP.out _ (H.old RO)).mono ?_; rintro e w' ⟨rfl, hb⟩; replace H := H.step hb; clear hb)
      | ((with_reducible refine gDst 3 ?_); refine aBox H _ rfl rfl rfl ?_; clear H; intro b3 w3 H)
      | ((with_reducible refine gLoad ?_); first | (refine aLoad H _ rfl rfl (by first | exact part_all (by first | rfl | simp []) | (simp only [List.drop_succ_cons, List.drop_zero, List.take_succ_cons, List.take_zero]; rfl) | (simp [List.drop_append, List.take_append]; rfl)) (by first | rfl | simp []) rfl ?_)))
    go_ret2
    exact ⟨_, rfl, fun h => absurd h hE, fun _ => rfl, H.below⟩
/-- What Look tells. -/
def lkG (st : DS) (n : Nat) (p : PT) (i : Nat) : Bool := if ckE st p = 0 then cpB st n p i else false
def relLk (st : DS) (n : Nat) (p : PT) (w : World) (b3 b4 b6 : Nat) (v16 : Value) (wr : World) : Prop := ∃ i : Nat, v16 = .int .i64 (i : Int) ∧ i ≤ 2 ∧ SH Nil w wr [.blk b6 44 [.bool (if 0 < i then cpB st n p 0 else false), .bool (if 1 < i then cpB st n p 1 else false)], .blk b4 44 [.bool false, .bool false], .blk b3 33 p.cells]
set_option maxHeartbeats 3200000 in
theorem bLook_any (p : PT) (hk : BKok st u) (w : World) (hD : HOLD (bankL bk bd bo bm vw ss t st u) w) :
    Calls Tryd.prog 21 #[.pointer (some ⟨bk, 0, none⟩), .agg p.cells.toArray] w fun e w' => e = .returned (.tuple #[.agg #[.bool (lkG st u.length p 0), .bool (lkG st u.length p 1)], .int .i64 (ckE st p)]) ∧ Below w.heap.size w w' := by
  have H := SH.start Nil w
  have hP := fun W (k : HOLD (bankL bk bd bo bm vw ss t st u) W) => bCheck_any p hk W k
  have HPL := Lib.hid p.len
  have RO := hD
  unfold lkG
  by_cases hE : ckE st p = 0
  · rw [hE] at hP ⊢
    have HP := Lib.hid hP
    have hoff := (ckE_zero hE).1
    rw [if_pos rfl, if_pos rfl]
    have hC := fun (i : Nat) (hi : i < 2) W (k : HOLD (bankL bk bd bo bm vw ss t st u) W) => bCopy_any p i hi hk hoff W k
    change ∀ (i : Nat) (hi : i < 2) W, HOLD (bankL bk bd bo bm vw ss t st u) W → Calls Tryd.prog 69 #[.pointer (some ⟨bk, 0, none⟩), .agg p.cells.toArray, .int .i64 (i : Int)] W fun e w' => ∃ v, e = .returned (.tuple #[v, .bool (cpB st u.length p i)]) ∧ (cpB st u.length p i = true → OB w' W.heap.size v (st.read (p.at_ i).toNat)) ∧ Below W.heap.size W w' at hC
    clear hP hE hD
    go_enter Tryd.func21, Tryd.ntmps21
    go_wp2_with (first
      | ((with_reducible refine gDst 10 ?_); refine aLoad H _ rfl rfl (part_all HPL.out) HPL.out rfl ?_)
      | (go_at_call 67; refine (HP.out _ (H.old RO)).mono ?_; rintro e w' ⟨rfl, hb⟩; replace H := H.step hb; clear hb)
      | ((with_reducible refine gDst 3 ?_); refine aBox H _ rfl rfl rfl ?_; clear H; intro b3 w3 H)
      | ((with_reducible refine gDst 4 ?_); refine aAlloc H rfl rfl ?_; clear H; intro b4 w4 H)
      | ((with_reducible refine gDst 6 ?_); refine aAlloc H rfl rfl ?_; clear H; intro b6 w6 H)
      | ((with_reducible refine gLoad ?_); first | (refine aLoad H _ rfl rfl (by first | exact part_all (by first | rfl | simp []) | (simp only [List.drop_succ_cons, List.drop_zero, List.take_succ_cons, List.take_zero]; rfl) | (simp [List.drop_append, List.take_append]; rfl)) (by first | rfl | simp []) rfl ?_))
      | ((with_reducible refine gStore ?_); (first | (refine aCell H _ _ rfl rfl (by first | exact (rfl : _ = Value.int _ _) | exact (rfl : _ = Value.bool _) | exact (rfl : _ = Value.slice _ _ _) | exact (rfl : _ = Value.string _) | exact (rfl : _ = Value.pointer _) | exact (rfl : _ = Value.func _ _ _) | rfl) (by rfl) (by rfl) (by first | exact of_decide_eq_true rfl | (simp []; done) | (simp []; omega)) (by first | (simp only [List.set_cons_zero, List.set_cons_succ]; rfl) | (simp [List.set_append]; rfl)) rfl ?_) | (refine aStore H _ _ rfl rfl rfl (by (first | exact ⟨rfl, rfl⟩ | exact ⟨by decide, rfl⟩ | (simp []; done) | (constructor <;> simp [] <;> omega))) (by first | rfl | simp [List.all_append, one_all]) rfl ?_) | (refine aLay H _ _ rfl rfl rfl (by (first | exact ⟨rfl, rfl⟩ | exact ⟨by decide, rfl⟩ | (simp []; done) | (constructor <;> simp [] <;> omega))) (by first | rfl | simp [List.all_append, one_all]) (by simp only [lay, List.take_succ_cons, List.take_zero, List.drop_succ_cons, List.drop_zero, List.nil_append, List.cons_append, List.length_cons, List.length_nil, Nat.zero_add, Nat.reduceAdd]; rfl) rfl ?_)); clear H; intro w' H; try dsimp only at H))
    go_loopw [16] (fun v16 wr => relLk st u.length p w b3 b4 b6 v16 wr) (fun v _ => 2 - (intOf v).toNat)
    case atStart => exact ⟨0, rfl, by omega, H⟩
    case round =>
      obtain ⟨i, rfl, hi, HS⟩ := hrel
      clear H
      have H := HS
      clear HS
      by_cases h2 : i < 2
      · have hii : (i : Int) < 2 := by omega
        have hc := hC i h2
        have HC : Hid (∀ W, HOLD (bankL bk bd bo bm vw ss t st u) W → Calls Tryd.prog 69 #[.pointer (some ⟨bk, 0, none⟩), .agg p.cells.toArray, .int .i64 (i : Int)] W fun e w' => ∃ v, e = .returned (.tuple #[v, .bool (cpB st u.length p i)]) ∧ Below W.heap.size W w') := Lib.hid (fun W k => (hc W k).mono fun e w' ⟨v, h1, h2, h3⟩ => ⟨v, h1, h3⟩)
        have hset : ([.bool (if 0 < i then cpB st u.length p 0 else false), .bool (if 1 < i then cpB st u.length p 1 else false)] : List Value).set i (.bool (cpB st u.length p i)) = [.bool (if 0 < i + 1 then cpB st u.length p 0 else false), .bool (if 1 < i + 1 then cpB st u.length p 1 else false)] := by
          rcases i with _ | _ | i
          · rfl
          · rfl
          · omega
        have HSET := Lib.hid hset
        have HI2 := Lib.hid h2
        clear hc hC hset
        generalize cpB st u.length p i = r at *
        go_wp2_with (first
          | ((with_reducible refine gDst 22 ?_); refine aLoad H _ rfl rfl (part_all HPL.out) HPL.out rfl ?_)
          | (go_at_call 69; refine (HC.out _ (H.old RO)).mono ?_; rintro e w' ⟨v, rfl, hb⟩; replace H := H.step hb; clear hb)
          | ((with_reducible refine gSto (.tmp 27) (.tmp 26) ?_); refine aCell (v := .bool r) H _ _ rfl rfl rfl rfl rfl (by have := HI2.out; simpa using this) HSET.out rfl ?_; clear H; intro w' H; (try dsimp only at H))
          | ((with_reducible refine gDst 3 ?_); refine aBox H _ rfl rfl rfl ?_; clear H; intro b3 w3 H)
          | ((with_reducible refine gDst 4 ?_); refine aAlloc H rfl rfl ?_; clear H; intro b4 w4 H)
          | ((with_reducible refine gDst 6 ?_); refine aAlloc H rfl rfl ?_; clear H; intro b6 w6 H)
          | ((with_reducible refine gLoad ?_); first | (refine aLoad H _ rfl rfl (by first | exact part_all (by first | rfl | simp []) | (simp only [List.drop_succ_cons, List.drop_zero, List.take_succ_cons, List.take_zero]; rfl) | (simp [List.drop_append, List.take_append]; rfl)) (by first | rfl | simp []) rfl ?_))
          | ((with_reducible refine gStore ?_); (first | (refine aCell H _ _ rfl rfl (by first | exact (rfl : _ = Value.int _ _) | exact (rfl : _ = Value.bool _) | exact (rfl : _ = Value.slice _ _ _) | exact (rfl : _ = Value.string _) | exact (rfl : _ = Value.pointer _) | exact (rfl : _ = Value.func _ _ _) | rfl) (by rfl) (by rfl) (by first | exact of_decide_eq_true rfl | (simp []; done) | (simp []; omega)) (by first | (simp only [List.set_cons_zero, List.set_cons_succ]; rfl) | (simp [List.set_append]; rfl)) rfl ?_) | (refine aStore H _ _ rfl rfl rfl (by (first | exact ⟨rfl, rfl⟩ | exact ⟨by decide, rfl⟩ | (simp []; done) | (constructor <;> simp [] <;> omega))) (by first | rfl | simp [List.all_append, one_all]) rfl ?_) | (refine aLay H _ _ rfl rfl rfl (by (first | exact ⟨rfl, rfl⟩ | exact ⟨by decide, rfl⟩ | (simp []; done) | (constructor <;> simp [] <;> omega))) (by first | rfl | simp [List.all_append, one_all]) (by simp only [lay, List.take_succ_cons, List.take_zero, List.drop_succ_cons, List.drop_zero, List.nil_append, List.cons_append, List.length_cons, List.length_nil, Nat.zero_add, Nat.reduceAdd]; rfl) rfl ?_)); clear H; intro w' H; try dsimp only at H))
        go_roundw
        case rel => first | exact ⟨i + 1, by go_num, by omega, H⟩ | exact ⟨_, ⟨i + 1, by go_num, by omega, H⟩, rfl⟩ | exact ⟨_, _, ⟨i + 1, by go_num, by omega, H⟩, rfl, rfl⟩ | exact ⟨_, _, _, ⟨i + 1, by go_num, by omega, H⟩, rfl, rfl, rfl⟩ | exact ⟨_, _, _, _, ⟨i + 1, by go_num, by omega, H⟩, rfl, rfl, rfl, rfl⟩ | exact ⟨_, _, _, _, _, ⟨i + 1, by go_num, by omega, H⟩, rfl, rfl, rfl, rfl, rfl⟩ | ((repeat (apply Exists.intro)); exact ⟨⟨i + 1, by go_num, by omega, H⟩, rfl⟩)
        case measure => simp [intOf] <;> omega
      · obtain rfl : i = 2 := by omega
        replace H : SH Nil w _ [.blk b6 44 [.bool (cpB st u.length p 0), .bool (cpB st u.length p 1)], .blk b4 44 [.bool false, .bool false], .blk b3 33 p.cells] := H
        clear hC
        generalize hr0 : cpB st u.length p 0 = r0 at *
        generalize hr1 : cpB st u.length p 1 = r1 at *
        have HR0 := Lib.hid hr0
        have HR1 := Lib.hid hr1
        clear hr0 hr1
        go_wp2_with (first
          | ((with_reducible refine gDst 3 ?_); refine aBox H _ rfl rfl rfl ?_; clear H; intro b3 w3 H)
          | ((with_reducible refine gDst 4 ?_); refine aAlloc H rfl rfl ?_; clear H; intro b4 w4 H)
          | ((with_reducible refine gDst 6 ?_); refine aAlloc H rfl rfl ?_; clear H; intro b6 w6 H)
          | ((with_reducible refine gLoad ?_); first | (refine aLoad H _ rfl rfl (by first | exact part_all (by first | rfl | simp []) | (simp only [List.drop_succ_cons, List.drop_zero, List.take_succ_cons, List.take_zero]; rfl) | (simp [List.drop_append, List.take_append]; rfl)) (by first | rfl | simp []) rfl ?_))
          | ((with_reducible refine gStore ?_); (first | (refine aCell H _ _ rfl rfl (by first | exact (rfl : _ = Value.int _ _) | exact (rfl : _ = Value.bool _) | exact (rfl : _ = Value.slice _ _ _) | exact (rfl : _ = Value.string _) | exact (rfl : _ = Value.pointer _) | exact (rfl : _ = Value.func _ _ _) | rfl) (by rfl) (by rfl) (by first | exact of_decide_eq_true rfl | (simp []; done) | (simp []; omega)) (by first | (simp only [List.set_cons_zero, List.set_cons_succ]; rfl) | (simp [List.set_append]; rfl)) rfl ?_) | (refine aStore H _ _ rfl rfl rfl (by (first | exact ⟨rfl, rfl⟩ | exact ⟨by decide, rfl⟩ | (simp []; done) | (constructor <;> simp [] <;> omega))) (by first | rfl | simp [List.all_append, one_all]) rfl ?_) | (refine aLay H _ _ rfl rfl rfl (by (first | exact ⟨rfl, rfl⟩ | exact ⟨by decide, rfl⟩ | (simp []; done) | (constructor <;> simp [] <;> omega))) (by first | rfl | simp [List.all_append, one_all]) (by simp only [lay, List.take_succ_cons, List.take_zero, List.drop_succ_cons, List.drop_zero, List.nil_append, List.cons_append, List.length_cons, List.length_nil, Nat.zero_add, Nat.reduceAdd]; rfl) rfl ?_)); clear H; intro w' H; try dsimp only at H))
        refine bodyPost_ret (res_cell_tmp rfl _ H.hold rfl rfl) rfl ?_
        rw [HR0.out, HR1.out]
        exact ⟨rfl, H.below⟩
  · have HP := Lib.hid hP
    have k1 : (ckE st p != 0) = true := by simpa using hE
    rw [if_neg hE, if_neg hE]
    clear hP hD hE
    generalize ckE st p = E at *
    go_enter Tryd.func21, Tryd.ntmps21
    go_wp2_with (first
      | ((with_reducible refine gDst 10 ?_); refine aLoad H _ rfl rfl (part_all HPL.out) HPL.out rfl ?_)
      | (go_at_call 67; refine (HP.out _ (H.old RO)).mono ?_; rintro e w' ⟨rfl, hb⟩; replace H := H.step hb; clear hb)
      | ((with_reducible refine gDst 3 ?_); refine aBox H _ rfl rfl rfl ?_; clear H; intro b3 w3 H)
      | ((with_reducible refine gDst 4 ?_); refine aAlloc H rfl rfl ?_; clear H; intro b4 w4 H)
      | ((with_reducible refine gDst 6 ?_); refine aAlloc H rfl rfl ?_; clear H; intro b6 w6 H)
      | ((with_reducible refine gLoad ?_); first | (refine aLoad H _ rfl rfl (by first | exact part_all (by first | rfl | simp []) | (simp only [List.drop_succ_cons, List.drop_zero, List.take_succ_cons, List.take_zero]; rfl) | (simp [List.drop_append, List.take_append]; rfl)) (by first | rfl | simp []) rfl ?_))
      | ((with_reducible refine gStore ?_); (first | (refine aCell H _ _ rfl rfl (by first | exact (rfl : _ = Value.int _ _) | exact (rfl : _ = Value.bool _) | exact (rfl : _ = Value.slice _ _ _) | exact (rfl : _ = Value.string _) | exact (rfl : _ = Value.pointer _) | exact (rfl : _ = Value.func _ _ _) | rfl) (by rfl) (by rfl) (by first | exact of_decide_eq_true rfl | (simp []; done) | (simp []; omega)) (by first | (simp only [List.set_cons_zero, List.set_cons_succ]; rfl) | (simp [List.set_append]; rfl)) rfl ?_) | (refine aStore H _ _ rfl rfl rfl (by (first | exact ⟨rfl, rfl⟩ | exact ⟨by decide, rfl⟩ | (simp []; done) | (constructor <;> simp [] <;> omega))) (by first | rfl | simp [List.all_append, one_all]) rfl ?_) | (refine aLay H _ _ rfl rfl rfl (by (first | exact ⟨rfl, rfl⟩ | exact ⟨by decide, rfl⟩ | (simp []; done) | (constructor <;> simp [] <;> omega))) (by first | rfl | simp [List.all_append, one_all]) (by simp only [lay, List.take_succ_cons, List.take_zero, List.drop_succ_cons, List.drop_zero, List.nil_append, List.cons_append, List.length_cons, List.length_nil, Nat.zero_add, Nat.reduceAdd]; rfl) rfl ?_)); clear H; intro w' H; try dsimp only at H))
    refine bodyPost_ret (res_cell_tmp rfl _ H.hold rfl rfl) rfl ?_
    exact ⟨rfl, H.below⟩
end
end Go.Proofs.YticfcelbnkiopaaDoor

namespace Go.Proofs.YticfcelbnkiopaaDoor
set_option maxRecDepth 100000
open Go.RowKit
set_option linter.unusedSimpArgs false
set_option linter.unusedVariables false

set_option maxHeartbeats 1600000 in
theorem diskWrite_any (bd bo n : Nat) (i : Int) (vw vb : Value) (ss : List SVV) (st : DS) (b : List UInt8) (hs : st.ok n) (hl : -1 ≤ st.lets ∧ st.lets ≤ 9223372036854775807) (hbl : b.length = 256) (w : World)
    (hD : SH (feet (diskL bd bo vw ss st)) w w (diskL bd bo vw ss st)) (hv : ∀ w', Chg (feet (diskL bd bo vw ss st)) w w' → RB w' vb b) :
    Calls Tryd.prog 65 #[.pointer (some ⟨bd, 0, none⟩), .int .i64 i, vb] w fun e w' => e = .returned (.int .i64 (st.writeE n i b).1) ∧ ∃ vw' ss', SH (feet (diskL bd bo vw ss st)) w w' (diskL bd bo vw' ss' (st.writeE n i b).2) := by
  by_cases hoff : st.off = true
  · have e : st.writeE n i b = (8, st) := by rw [DS.writeE, hoff]; rfl
    rw [e]
    obtain ⟨F, hF⟩ : ∃ F, F = feet (diskL bd bo vw ss st) := ⟨_, rfl⟩
    rw [← hF] at hD hv ⊢
    obtain ⟨on, ws, lets, off⟩ := st
    simp only at hoff
    subst hoff
    have H := hD
    have H0 := hD
    clear hD hF hv e hs hl
    unfold diskL at H
    go_enter Tryd.func65, Tryd.ntmps65
    go_wp2_with (first
      | ((with_reducible refine gLoad ?_); first | (refine aLoad1 H _ rfl rfl (by first | exact (rfl : _ = some (Value.int _ _)) | exact (rfl : _ = some (Value.slice _ _ _)) | exact (rfl : _ = some (Value.bool _)) | exact (rfl : _ = some (Value.string _)) | exact (rfl : _ = some (Value.pointer _)) | rfl | (simp [List.getElem?_append]; done)) rfl ?_) | (refine aLoadC _ rfl rfl (by assumption) rfl ?_)))
    go_ret
    exact ⟨rfl, vw, ss, H0⟩
  · have hoff' : st.off = false := by simpa using hoff
    by_cases hi : i < 0 ∨ (n : Int) ≤ i
    · have e : st.writeE n i b = (1, st) := by rw [DS.writeE, hoff', if_neg (by decide), if_pos (by omega)]
      rw [e]
      have HAS := Lib.hid (fun W (k : W.cell? ⟨bd, 0, none⟩ = some (.slice (some ⟨bo, 0, none⟩) (n * 256) (n * 256))) => diskHasNot_c bd ⟨bo, 0, none⟩ n (n * 256) rfl hs.n2 i hi W k)
      have HOL := Lib.hid hs.ol
      obtain ⟨F, hF⟩ : ∃ F, F = feet (diskL bd bo vw ss st) := ⟨_, rfl⟩
      rw [← hF] at hD hv ⊢
      obtain ⟨on, ws, lets, off⟩ := st
      simp only at hoff' HOL
      subst hoff'
      have H := hD
      have H0 := hD
      clear hD hF hv e hs hl hoff
      unfold diskL at H
      go_enter Tryd.func65, Tryd.ntmps65
      go_wp2_with (first
        | (go_at_call 72; refine (HAS.out _ (by rw [← HOL.out]; exact (H.hold.va (b := bd)).cell 0)).mono ?_; rintro e w' ⟨rfl, rfl⟩)
        | ((with_reducible refine gLoad ?_); first | (refine aLoad1 H _ rfl rfl (by first | exact (rfl : _ = some (Value.int _ _)) | exact (rfl : _ = some (Value.slice _ _ _)) | exact (rfl : _ = some (Value.bool _)) | exact (rfl : _ = some (Value.string _)) | exact (rfl : _ = some (Value.pointer _)) | rfl | (simp [List.getElem?_append]; done)) rfl ?_) | (refine aLoadC _ rfl rfl (by assumption) rfl ?_)))
      go_ret
      exact ⟨rfl, vw, ss, H0⟩
    · obtain ⟨k, rfl⟩ : ∃ k : Nat, i = (k : Int) := ⟨i.toNat, by omega⟩
      have hk : k < n := by omega
      cases hsp : st.spend.1 with
      | true =>
        have e : st.writeE n (k : Int) b = (0, st.spend.2.write k b) := by rw [DS.writeE, hoff', if_neg (by decide), if_neg (by omega), hsp]; rfl
        rw [e]
        exact diskWrite_ok bd bo n k vw vb ss st b hs hl hoff' hk hbl hsp w hD hv
      | false =>
        have e : st.writeE n (k : Int) b = (8, st.spend.2) := by rw [DS.writeE, hoff', if_neg (by decide), if_neg (by omega), hsp]; rfl
        rw [e]
        obtain ⟨A0, c0, rfl, -⟩ := (hv w (Chg.refl _ _)).len
        rw [hbl]
        have HSP := Lib.hid (fun W (k : SH (feet (diskL bd bo vw ss st)) W W (diskL bd bo vw ss st)) => spend_any bd bo vw ss st hl W k)
        rw [hsp] at HSP
        have HAS := Lib.hid (fun W (q : W.cell? ⟨bd, 0, none⟩ = some (.slice (some ⟨bo, 0, none⟩) (n * 256) (n * 256))) => diskHas_c bd ⟨bo, 0, none⟩ n (n * 256) rfl hs.n2 k hk W q)
        have HOL := Lib.hid hs.ol
        obtain ⟨F, hF⟩ : ∃ F, F = feet (diskL bd bo vw ss st) := ⟨_, rfl⟩
        rw [← hF] at hD hv ⊢
        have H := hD
        have HOFF := Lib.hid hoff'
        clear hD hF hv e hs hl hoff hsp hi hk
        unfold diskL at H
        rw [hoff'] at H
        clear hoff'
        go_enter Tryd.func65, Tryd.ntmps65
        go_wp2_with (first
          | (go_at_call 72; refine (HAS.out _ (by rw [← HOL.out]; exact (H.hold.va (b := bd)).cell 0)).mono ?_; rintro e w' ⟨rfl, rfl⟩)
          | (go_at_call 70; rw [← HOFF.out] at H; refine (HSP.out _ (SH.subL (D := diskL bd bo vw ss st) (L := []) H)).mono ?_; rintro e w' ⟨rfl, k⟩; replace H := SH.viaL (D := diskL bd bo vw ss st) (L := []) H k; clear k; rw [List.append_nil] at H)
          | ((with_reducible refine gLoad ?_); first | (refine aLoad1 H _ rfl rfl (by first | exact (rfl : _ = some (Value.int _ _)) | exact (rfl : _ = some (Value.slice _ _ _)) | exact (rfl : _ = some (Value.bool _)) | exact (rfl : _ = some (Value.string _)) | exact (rfl : _ = some (Value.pointer _)) | rfl | (simp [List.getElem?_append]; done)) rfl ?_) | (refine aLoadC _ rfl rfl (by assumption) rfl ?_)))
        go_ret
        exact ⟨rfl, vw, ss, H⟩
theorem DS.ok_spend {st : DS} {n : Nat} (h : st.ok n) : st.spend.2.ok n := by
  have e1 := st.spend_on
  have e2 := st.spend_ws
  exact ⟨h.n1, h.n2, by rw [e1]; exact h.ol, by rw [e2]; exact h.ws, by rw [e2]; exact h.wl⟩
theorem DS.ok_write {st : DS} {n : Nat} (h : st.ok n) (hw : st.ws.length < 1000000) (i : Nat) (hi : i < n) (b : List UInt8) (hb : b.length = 256) : (st.write i b).ok n := by
  refine ⟨h.n1, h.n2, h.ol, fun k hk => ?_, ?_⟩
  · have hk' : k < (st.ws ++ [(i, b)]).length := hk
    rw [List.length_append, List.length_singleton] at hk'
    show ((st.ws ++ [(i, b)]).getD k (0, [])).1 < n ∧ ((st.ws ++ [(i, b)]).getD k (0, [])).2.length = 256
    rw [getD_snoc]
    split
    · rename_i q
      exact h.ws k q
    · rename_i q
      rw [if_pos (by omega)]
      exact ⟨hi, hb⟩
  · show (st.ws ++ [(i, b)]).length ≤ 1000000
    rw [List.length_append, List.length_singleton]; omega
theorem DS.ok_writeE {st : DS} {n : Nat} (h : st.ok n) (hw : st.ws.length < 1000000) (i : Int) (b : List UInt8) : (st.writeE n i b).2.ok n := by
  rw [DS.writeE]
  split
  · exact h
  · split
    · exact h
    · rename_i hi
      split
      · exact DS.ok_write (DS.ok_spend h) (by rw [st.spend_ws]; exact hw) _ (by omega) b (by omega)
      · exact DS.ok_spend h
theorem DS.lets_spend {st : DS} (h : -1 ≤ st.lets ∧ st.lets ≤ 9223372036854775807) : -1 ≤ st.spend.2.lets ∧ st.spend.2.lets ≤ 9223372036854775807 := by
  rw [DS.spend]
  split
  · exact h
  · split
    · show -1 ≤ st.lets - 1 ∧ st.lets - 1 ≤ _; omega
    · exact h
theorem DS.lets_writeE {st : DS} {n : Nat} (h : -1 ≤ st.lets ∧ st.lets ≤ 9223372036854775807) (i : Int) (b : List UInt8) : -1 ≤ (st.writeE n i b).2.lets ∧ (st.writeE n i b).2.lets ≤ 9223372036854775807 := by
  rw [DS.writeE]
  split
  · exact h
  · split
    · exact h
    · split
      · exact DS.lets_spend h
      · exact DS.lets_spend h
theorem DS.len_writeE (st : DS) (n : Nat) (i : Int) (b : List UInt8) : (st.writeE n i b).2.ws.length ≤ st.ws.length + 1 := by
  rw [DS.writeE]
  split
  · exact Nat.le_succ _
  · split
    · exact Nat.le_succ _
    · split
      · show (st.spend.2.ws ++ [_]).length ≤ _
        rw [st.spend_ws]; simp
      · rw [st.spend_ws]; exact Nat.le_succ _
end Go.Proofs.YticfcelbnkiopaaDoor

namespace Go.Proofs.YticfcelbnkiopaaDoor
set_option maxRecDepth 100000
open Go.RowKit
set_option linter.unusedSimpArgs false
set_option linter.unusedVariables false

theorem u32Cell {w : World} {A : Option Addr} {n c : Nat} {l : List UInt32} (h : RR U32T w (.slice A n c) l) (j : Nat) (hj : j < l.length) : ∃ ad, A = some ad ∧ w.cell? (ad.add j) = some (vw (l.getD j 0)) := by
  obtain ⟨A', c', e', -, -, hx⟩ := h
  obtain ⟨ad, rfl, hc⟩ := hx (by omega)
  injection e' with e1 e2 e3
  refine ⟨ad, e1, hc j _ ?_⟩
  rw [U32_all, List.getElem?_map, List.getD_eq_getElem?_getD, List.getElem?_eq_getElem hj]; rfl
/-- Sectors that are given back. -/
def clrL (u : List Bool) (l : List Nat) : List Bool := l.foldl (fun u i => u.set i false) u
theorem clrL_len (l : List Nat) : ∀ u : List Bool, (clrL u l).length = u.length := by
  induction l with
  | nil => intro u; rfl
  | cons i l ih => intro u; show (clrL (u.set i false) l).length = _; rw [ih, List.length_set]
theorem clrL_get (l : List Nat) (i : Nat) (hi : i ∉ l) (d : Bool) : ∀ u : List Bool, (clrL u l).getD i d = u.getD i d := by
  induction l with
  | nil => intro u; rfl
  | cons k l ih =>
    intro u
    show (clrL (u.set k false) l).getD i d = _
    rw [ih (fun h => hi (List.mem_cons_of_mem _ h)), List.getD_eq_getElem?_getD, List.getElem?_set_ne (fun e => hi (by rw [← e]; exact List.mem_cons_self)), ← List.getD_eq_getElem?_getD]
theorem clrL_snoc (u : List Bool) (l : List Nat) (i : Nat) : clrL u (l ++ [i]) = (clrL u l).set i false := by rw [clrL, List.foldl_append]; rfl
theorem take_snoc (l : List Nat) (j : Nat) (hj : j < l.length) : l.take (j + 1) = l.take j ++ [l.getD j 0] := by
  rw [List.take_add_one, List.getElem?_eq_getElem hj, List.getD_eq_getElem?_getD, List.getElem?_eq_getElem hj]; rfl
theorem nodup_take (l : List Nat) (h : l.Nodup) (j : Nat) (hj : j < l.length) : l.getD j 0 ∉ l.take j := by
  intro hm
  obtain ⟨k, hk, he⟩ := List.mem_iff_getElem.1 hm
  rw [List.length_take] at hk
  rw [List.getElem_take, List.getD_eq_getElem?_getD, List.getElem?_eq_getElem hj] at he
  exact List.pairwise_iff_getElem.1 h k j (by omega) hj (by omega) he
section
variable {bk bd bo bm : Nat} {vw : Value} {ss : List SVV} {t : UInt32} {st : DS} {u : List Bool}
/-- The bank's own block and its map's, and a list of sectors. -/
def gvL (bk bd bm : Nat) (t : UInt32) (A : Option Addr) (c : Nat) (u : List Bool) (l : List Nat) : List Own :=
  [.row U32T (.slice A l.length c) (l32 l), .blk bk 133 [.pointer (some ⟨bd, 0, none⟩), .pointer (some ⟨bm, 0, none⟩), .int .u32 (t.toNat : Int)], .blk bm 161 (mC u.length (wL u))]
def relGv (F : Nat → Prop) (w : World) (bk bd bm : Nat) (t : UInt32) (A : Option Addr) (c : Nat) (u : List Bool) (l : List Nat) (v8 : Value) (wr : World) : Prop := ∃ j : Nat, v8 = .int .i64 (j : Int) ∧ j ≤ l.length ∧ SH F w wr [.row U32T (.slice A l.length c) (l32 l), .blk bk 133 [.pointer (some ⟨bd, 0, none⟩), .pointer (some ⟨bm, 0, none⟩), .int .u32 (t.toNat : Int)], .blk bm 161 (mC u.length (wL (clrL u (l.take j))))]
set_option maxHeartbeats 1600000 in
theorem giveAll_any (A : Option Addr) (c : Nat) (l : List Nat) (hu : u.length ≤ 512) (hl : ∀ i ∈ l, 4 ≤ i ∧ i < u.length ∧ u.getD i true = true) (hn : l.Nodup) (hl8 : l.length ≤ 8) (w : World) (hD : SH (feet (gvL bk bd bm t A c u l)) w w (gvL bk bd bm t A c u l)) :
    Calls Tryd.prog 66 #[.pointer (some ⟨bk, 0, none⟩), .slice A l.length c] w fun e w' => e = .returned (.tuple #[]) ∧ SH (feet (gvL bk bd bm t A c u l)) w w' (gvL bk bd bm t A c (clrL u l) l) := by
  obtain ⟨F, hF⟩ : ∃ F, F = feet (gvL bk bd bm t A c u l) := ⟨_, rfl⟩
  rw [← hF] at hD ⊢
  have H := hD
  unfold gvL at H ⊢
  rw [clrL_len]
  clear hF hD
  have HU := Lib.hid hu
  have HL := Lib.hid hl
  have HN := Lib.hid hn
  have hli : (l.length : Int) ≤ 8 := by omega
  obtain ⟨k, hk⟩ : ∃ k, k = l.length := ⟨_, rfl⟩
  have HK := Lib.hid hk
  rw [← hk] at H hli ⊢
  clear hu hl hn hl8 hk
  have H0 := H
  go_enter Tryd.func66, Tryd.ntmps66
  go_wp2_with (first
    | ((with_reducible refine gLoad ?_); first | (refine aLoad1 H _ rfl rfl (by first | exact (rfl : _ = some (Value.int _ _)) | exact (rfl : _ = some (Value.slice _ _ _)) | exact (rfl : _ = some (Value.bool _)) | exact (rfl : _ = some (Value.string _)) | exact (rfl : _ = some (Value.pointer _)) | rfl | (simp [List.getElem?_append]; done)) rfl ?_) | (refine aLoadC _ rfl rfl (by assumption) rfl ?_)))
  go_loopw [8] (fun v8 wr => ∃ j : Nat, v8 = .int .i64 (j : Int) ∧ j ≤ k ∧ SH F w wr [.row U32T (.slice A k c) (l32 l), .blk bk 133 [.pointer (some ⟨bd, 0, none⟩), .pointer (some ⟨bm, 0, none⟩), .int .u32 (t.toNat : Int)], .blk bm 161 (mC u.length (wL (clrL u (l.take j))))]) (fun v _ => k - (intOf v).toNat)
  case atStart => exact ⟨0, rfl, by omega, H0⟩
  case round =>
    obtain ⟨j, rfl, hj, HS⟩ := hrel
    clear H H0
    have H := HS
    clear HS
    by_cases hjk : j < k
    · have hji : (j : Int) < (k : Int) := by omega
      have hjl : j < l.length := by rw [← HK.out]; exact hjk
      obtain ⟨ad, rfl, hc⟩ := u32Cell (H.hold.rr (.slice A k c)) j (by rw [l32, List.length_map]; exact hjl)
      obtain ⟨h4, hn, hx⟩ := HL.out (l.getD j 0) (by rw [List.getD_eq_getElem?_getD, List.getElem?_eq_getElem hjl]; exact List.getElem_mem _)
      have hlen := clrL_len (l.take j) u
      have hg := clrL_get (l.take j) (l.getD j 0) (nodup_take l HN.out j hjl) true u
      have hgive := fun W (h : VA W bm 161 (mC u.length (wL (clrL u (l.take j))))) => mapGive_ok bm (l.getD j 0) (clrL u (l.take j)) (by rw [hlen]; exact HU.out) h4 (by rw [hlen]; exact hn) (by rw [hg]; exact hx) W (by rw [hlen]; exact h)
      rw [← clrL_snoc, ← take_snoc l j hjl, hlen] at hgive
      have hi : (vw ((l32 l).getD j 0)) = .int .u32 ((l.getD j 0 : Nat) : Int) := by
        have e : (l32 l).getD j 0 = UInt32.ofNat (l.getD j 0) := by
          rw [l32, List.getD_eq_getElem?_getD, List.getElem?_map, List.getElem?_eq_getElem hjl, List.getD_eq_getElem?_getD, List.getElem?_eq_getElem hjl]; rfl
        rw [e]
        show Value.int .u32 _ = _
        rw [UInt32.toNat_ofNat', Nat.mod_eq_of_lt (by have := HU.out; omega)]
      rw [hi] at hc
      have HG := Lib.hid hgive
      change Hid (∀ W, VA W bm 161 (mC u.length (wL (clrL u (l.take j)))) → Calls Tryd.prog 115 #[.pointer (some ⟨bm, 0, none⟩), .int .u32 ((l.getD j 0 : Nat) : Int)] W fun e w' => e = .returned (.int .i64 0) ∧ SH (fun b => b = bm) W w' [.blk bm 161 (mC u.length (wL (clrL u (l.take (j + 1)))))]) at HG
      generalize l.getD j 0 = i at *
      clear hgive hg hlen hi h4 hn hx
      go_wp2_with (first
        | ((with_reducible refine gDst 11 ?_); refine aLoadC _ rfl rfl hc rfl ?_)
        | (go_at_call 115; refine (HG.out _ (H.hold.va (b := bm))).mono ?_; rintro e w' ⟨rfl, k2⟩; replace H := H.viaB k2; (try dsimp only at H); clear k2)
        | ((with_reducible refine gLoad ?_); first | (refine aLoad1 H _ rfl rfl (by first | exact (rfl : _ = some (Value.int _ _)) | exact (rfl : _ = some (Value.slice _ _ _)) | exact (rfl : _ = some (Value.bool _)) | exact (rfl : _ = some (Value.string _)) | exact (rfl : _ = some (Value.pointer _)) | rfl | (simp [List.getElem?_append]; done)) rfl ?_) | (refine aLoadC _ rfl rfl (by assumption) rfl ?_)))
      go_roundw
      case rel => first | exact ⟨j + 1, by go_num, by omega, H⟩ | exact ⟨_, ⟨j + 1, by go_num, by omega, H⟩, rfl⟩ | exact ⟨_, _, ⟨j + 1, by go_num, by omega, H⟩, rfl, rfl⟩ | exact ⟨_, _, _, ⟨j + 1, by go_num, by omega, H⟩, rfl, rfl, rfl⟩ | exact ⟨_, _, _, _, ⟨j + 1, by go_num, by omega, H⟩, rfl, rfl, rfl, rfl⟩ | exact ⟨_, _, _, _, _, ⟨j + 1, by go_num, by omega, H⟩, rfl, rfl, rfl, rfl, rfl⟩ | ((repeat (apply Exists.intro)); exact ⟨⟨j + 1, by go_num, by omega, H⟩, rfl⟩)
      case measure => simp [intOf] <;> omega
    · obtain rfl : j = k := by omega
      go_wp2
      go_end0
      have e : l.take j = l := by rw [HK.out]; exact List.take_length
      rw [e] at H
      exact ⟨rfl, H⟩
end
end Go.Proofs.YticfcelbnkiopaaDoor

namespace Go.Proofs.YticfcelbnkiopaaDoor
set_option maxRecDepth 100000
open Go.RowKit
set_option linter.unusedSimpArgs false
set_option linter.unusedVariables false

theorem getD_set' (u : List Bool) (i j : Nat) (b d : Bool) (hi : i < u.length) : (u.set i b).getD j d = if i = j then b else u.getD j d := by
  by_cases e : i = j
  · subst e
    rw [if_pos rfl, List.getD_eq_getElem?_getD, List.getElem?_set_self hi]; rfl
  · rw [if_neg e, List.getD_eq_getElem?_getD, List.getElem?_set_ne e, ← List.getD_eq_getElem?_getD]
theorem tk_spec (u : List Bool) : ∀ k, k ≤ freeN u → (∀ i ∈ tkL u k, i < u.length ∧ u.getD i false = false) ∧ (tkL u k).Nodup ∧ ∀ i, (tkU u k).getD i false = (u.getD i false || decide (i ∈ tkL u k))
  | 0, _ => ⟨by simp [tkL], by simp [tkL], fun i => by simp [tkL, tkU]⟩
  | k + 1, h => by
    obtain ⟨h1, h2, h3⟩ := tk_spec u k (by omega)
    have hf := tkU_free u k (by omega)
    obtain ⟨q1, q2, -⟩ := lowF_spec (tkU u k) (by omega)
    rw [tkU_len] at q1
    rw [h3] at q2
    generalize hx : lowF (tkU u k) = x at *
    have hn : x ∉ tkL u k := fun hm => by simp [hm] at q2
    have hu : u.getD x false = false := by cases hq : u.getD x false with | false => rfl | true => rw [hq] at q2; simp at q2
    refine ⟨fun i hi => ?_, ?_, fun i => ?_⟩
    · rw [tkL, hx, List.mem_append, List.mem_singleton] at hi
      rcases hi with hi | rfl
      · exact h1 i hi
      · exact ⟨q1, hu⟩
    · rw [tkL, hx, List.nodup_append]
      refine ⟨h2, by simp, fun a ha b hb => ?_⟩
      rw [List.mem_singleton] at hb
      subst hb
      exact fun e => hn (e ▸ ha)
    · rw [tkU, tkL, hx, getD_set' _ _ _ _ _ (by rw [tkU_len]; exact q1), h3]
      by_cases e : x = i
      · subst e; simp
      · rw [if_neg e]
        have : i ∈ tkL u k ++ [x] ↔ i ∈ tkL u k := by
          rw [List.mem_append, List.mem_singleton]
          exact ⟨fun h => h.elim id fun h => absurd h.symm e, .inl⟩
        simp only [this]
theorem clr_get (l : List Nat) (i : Nat) : ∀ u : List Bool, (clrL u l).getD i false = (u.getD i false && !decide (i ∈ l)) := by
  induction l with
  | nil => intro u; simp [clrL]
  | cons k l ih =>
    intro u
    show (clrL (u.set k false) l).getD i false = _
    rw [ih]
    by_cases hk : k < u.length
    · rw [getD_set' _ _ _ _ _ hk]
      by_cases e : k = i
      · subst e; simp
      · rw [if_neg e]
        have : i ∈ k :: l ↔ i ∈ l := by rw [List.mem_cons]; exact ⟨fun h => h.elim (fun h => absurd h.symm e) id, .inr⟩
        simp only [this]
    · rw [List.set_eq_of_length_le (by omega)]
      by_cases e : k = i
      · subst e
        have : u.getD k false = false := by rw [List.getD_eq_getElem?_getD, List.getElem?_eq_none (by omega)]; rfl
        rw [this]; rfl
      · have : i ∈ k :: l ↔ i ∈ l := by rw [List.mem_cons]; exact ⟨fun h => h.elim (fun h => absurd h.symm e) id, .inr⟩
        simp only [this]
theorem ext_getD (u v : List Bool) (hl : u.length = v.length) (h : ∀ i, u.getD i false = v.getD i false) : u = v := by
  refine List.ext_getElem hl fun i h1 h2 => ?_
  have := h i
  rw [List.getD_eq_getElem?_getD, List.getD_eq_getElem?_getD, List.getElem?_eq_getElem h1, List.getElem?_eq_getElem h2] at this
  exact this
/-- What was taken is given back. -/
theorem clr_tk (u : List Bool) (k : Nat) (h : k ≤ freeN u) : clrL (tkU u k) (tkL u k) = u := by
  obtain ⟨h1, -, h3⟩ := tk_spec u k h
  refine ext_getD _ _ (by rw [clrL_len, tkU_len]) fun i => ?_
  rw [clr_get, h3]
  by_cases hm : i ∈ tkL u k
  · rw [(h1 i hm).2]; simp [hm]
  · simp [hm]
/-- Writes of one block to sectors, one behind the other. -/
def wrs (n : Nat) (b : List UInt8) : DS → List Nat → Int × DS
  | st, [] => (0, st)
  | st, i :: l => if (st.writeE n (i : Int) b).1 = 0 then wrs n b (st.writeE n (i : Int) b).2 l else st.writeE n (i : Int) b
/-- The pointer when j sectors are written. -/
def pJ (b : List UInt8) (t : UInt32) (l : List Nat) (j : Nat) : PT := ⟨shaL b, shaL_len b, t, if 0 < j then UInt32.ofNat (l.getD 0 0) else 0, if 1 < j then UInt32.ofNat (l.getD 1 0) else 0⟩
/-- What Put tells and leaves. -/
def putR (t : UInt32) (st : DS) (u : List Bool) (b : List UInt8) (c : Int) : PT × Int × DS × List Bool :=
  if st.off = true then (PT.hole, 8, st, u) else if b.length ≠ 256 ∨ c < 1 ∨ 2 < c then (PT.hole, 1, st, u) else if freeN u < c.toNat then (PT.hole, 7, st, u) else
  if (wrs u.length b st (tkL u c.toNat)).1 = 0 then (pJ b t (tkL u c.toNat) c.toNat, 0, (wrs u.length b st (tkL u c.toNat)).2, tkU u c.toNat) else (PT.hole, (wrs u.length b st (tkL u c.toNat)).1, (wrs u.length b st (tkL u c.toNat)).2, u)
theorem pJ_set (b : List UInt8) (t : UInt32) (l : List Nat) (j : Nat) (hj : j < 2) (hi : l.getD j 0 < 4294967296) : (pJ b t l j).cells.set (33 + j) (.int .u32 ((l.getD j 0 : Nat) : Int)) = (pJ b t l (j + 1)).cells := by
  have e : ∀ x, x < 4294967296 → Value.int .u32 ((x : Nat) : Int) = u32 (UInt32.ofNat x) := fun x hx => by
    show _ = Value.int .u32 _
    rw [UInt32.toNat_ofNat', Nat.mod_eq_of_lt hx]
  rw [e _ hi, PT.cells, PT.cells, List.set_append_right _ _ (by rw [List.length_map]; show (shaL b).length ≤ _; rw [shaL_len]; omega)]
  rw [List.length_map]
  show (shaL b).map cb ++ List.set _ (33 + j - (shaL b).length) _ = (shaL b).map cb ++ _
  rw [shaL_len]
  congr 1
  rcases j with _ | _ | j
  · rfl
  · rfl
  · omega
theorem drop_cons (l : List Nat) (j : Nat) (hj : j < l.length) : l.drop j = l.getD j 0 :: l.drop (j + 1) := by
  rw [List.drop_eq_getElem_cons hj, List.getD_eq_getElem?_getD, List.getElem?_eq_getElem hj]; rfl
theorem wrs_drop (n : Nat) (b : List UInt8) (st : DS) (l : List Nat) (j : Nat) (hj : j < l.length) : wrs n b st (l.drop j) = if (st.writeE n ((l.getD j 0 : Nat) : Int) b).1 = 0 then wrs n b (st.writeE n ((l.getD j 0 : Nat) : Int) b).2 (l.drop (j + 1)) else st.writeE n ((l.getD j 0 : Nat) : Int) b := by
  rw [drop_cons l j hj]; rfl
theorem vw_l32 (l : List Nat) (j : Nat) (hj : j < l.length) (h : l.getD j 0 < 4294967296) : vw ((l32 l).getD j 0) = .int .u32 ((l.getD j 0 : Nat) : Int) := by
  have e : (l32 l).getD j 0 = UInt32.ofNat (l.getD j 0) := by
    rw [l32, List.getD_eq_getElem?_getD, List.getElem?_map, List.getElem?_eq_getElem hj, List.getD_eq_getElem?_getD, List.getElem?_eq_getElem hj]; rfl
  rw [e]
  show Value.int .u32 _ = _
  rw [UInt32.toNat_ofNat', Nat.mod_eq_of_lt h]
end Go.Proofs.YticfcelbnkiopaaDoor

namespace Go.Proofs.YticfcelbnkiopaaDoor
set_option maxRecDepth 100000
open Go.RowKit
set_option linter.unusedSimpArgs false

theorem OR.ne_block {w : World} {base b : Nat} {v : Value} {xs : List UInt8} (h : OB w base v xs) (hb : b < base) : v.ownBlock = none ∨ v.ownBlock ≠ some b := by
  cases hv : v.ownBlock with
  | none => exact .inl rfl
  | some k =>
    refine .inr fun e => ?_
    have := (OR.ge h k hv).1
    injection e with e
    omega
/-- What stands in 44 bytes. -/
def rawP (xs : List UInt8) : PT := ⟨(xs ++ List.replicate 32 0).take 32, by simp, UInt32.ofNat (get32 (xs.drop 32)), UInt32.ofNat (get32 (xs.drop 36)), UInt32.ofNat (get32 (xs.drop 40))⟩
def decE (xs : List UInt8) : Nat := if xs.length < 44 then 2 else if 44 < xs.length ∨ (rawP xs).may = false then 3 else 0
def decP (xs : List UInt8) : PT := if decE xs = 0 then rawP xs else PT.hole
theorem g32 (b : List UInt8) : ((UInt32.ofNat (get32 b)).toNat : Int) = (get32 b : Int) := by
  rw [UInt32.toNat_ofNat', Nat.mod_eq_of_lt (get32_lt b)]
theorem rawP_hash (xs : List UInt8) (h : 32 ≤ xs.length) : (rawP xs).hash = xs.take 32 := by
  show (xs ++ List.replicate 32 0).take 32 = _
  rw [List.take_append_of_le_length h]
theorem Take32_ge (v : Value) (ys : List UInt8) (w : World) (hv : RB w v ys) (hl : ys.length ≤ 1000000000) (h4 : 4 ≤ ys.length) :
    Calls Tryd.prog 94 #[v] w fun e w' => ∃ v', e = .returned (.tuple #[.int .u32 ((UInt32.ofNat (get32 ys)).toNat : Int), v', .int .i64 0]) ∧ OB w' w.heap.size v' (ys.drop 4) ∧ Below w.heap.size w w' := by
  have h := Take32_any v ys w hv hl
  rw [if_pos h4, if_pos h4, if_pos h4, ← g32] at h
  exact h
theorem PT.lay32 (p : PT) (n : UInt32) : lay p.cells 32 [u32 n] = (PT.mk p.hash p.hl n p.a0 p.a1).cells := by
  rw [lay, PT.take32, List.length_singleton, PT.drop33, List.append_assoc]
  rfl
theorem PT.lay33 (p : PT) (n : UInt32) : lay p.cells 33 [u32 n] = (PT.mk p.hash p.hl p.birth n p.a1).cells := by
  have e : p.cells.take 33 = p.hash.map cb ++ [u32 p.birth] := by
    rw [PT.cells, List.take_append, List.length_map, p.hl, List.take_of_length_le (by simp [p.hl])]
    rfl
  have e2 : p.cells.drop 34 = [u32 p.a1] := by rw [show 34 = 33 + 1 from rfl, ← List.drop_drop, PT.drop33]; rfl
  rw [lay, e, List.length_singleton, e2, List.append_assoc, List.append_assoc]
  rfl
theorem PT.lay34 (p : PT) (n : UInt32) : lay p.cells 34 [u32 n] = (PT.mk p.hash p.hl p.birth p.a0 n).cells := by
  have e : p.cells.take 34 = p.hash.map cb ++ [u32 p.birth, u32 p.a0] := by
    rw [PT.cells, List.take_append, List.length_map, p.hl, List.take_of_length_le (by simp [p.hl])]
    rfl
  have e2 : p.cells.drop 35 = [] := List.drop_of_length_le (by rw [PT.len]; omega)
  rw [lay, e, List.length_singleton, e2, List.append_nil, List.append_assoc]
  rfl
theorem ptr_built (parts : List (Nat × Value)) : Program.built Tryd.prog 33 parts = Instr.fill (([(0, 32), (32, 1), (33, 2)] : List (Nat × Nat)).toArray[·]?) PT.hole.cells.toArray parts := by rfl
theorem ptr_hash (h : List UInt8) (hl : h.length = 32) : Program.built Tryd.prog 33 [(0, .agg (h.map cb).toArray)] = some (PT.mk h hl 0 0 0).cells.toArray := by
  rw [ptr_built, fill_cons _ _ _ _ _ 0 32 (h.map cb) rfl rfl (by simp [hl]) (by rw [PT.len]; omega), Instr.fill]
  congr 2
  rw [lay, List.take_zero, List.nil_append, List.length_map, hl, Nat.zero_add, PT.drop32]
  rfl
theorem u32_one (n : UInt32) : ∀ v ∈ [u32 n], v.oneCell' = true := by
  intro v hv
  obtain rfl := List.mem_singleton.mp hv
  rfl
theorem u32_info : (Tryd.prog.info? 30).map (·.size) = some 1 := by kernel_rfl

set_option maxHeartbeats 1600000 in
set_option maxRecDepth 100000 in
theorem Decode_any (v : Value) (xs : List UInt8) (w : World) (hv : RB w v xs) (hl : xs.length ≤ 1000000000) :
    Calls Tryd.prog 92 #[v] w fun e w' => e = .returned (.tuple #[(decP xs).val, .int .i64 (decE xs : Int)]) ∧ Below w.heap.size w w' := by
  obtain ⟨A, c, rfl, hc⟩ := id hv.len
  by_cases h44 : xs.length < 44
  · have hE : decE xs = 2 := by rw [decE, if_pos h44]
    have hP : decP xs = PT.hole := by rw [decP, hE, if_neg (by decide)]
    rw [hE, hP]
    have h44' : (xs.length : Int) < 44 := by omega
    clear hE hP h44
    go_enter Tryd.func92, Tryd.ntmps92
    go_wp2_with (first
      | (refine wpAlloc 33 rfl PT.hole.val PT.hole.cells (by kernel_rfl) rfl rfl ?_; intro w1 hv1 hb1)
      | (refine stepV (exec_zero 33 rfl PT.hole.cells ptr_zero) rfl ?_)
      | (refine wpStore 33 _ _ rfl w.heap.size rfl PT.hole.cells _ rfl _ hv1 (PT.info _) rfl (PT.one _) rfl ?_; intro w2 hv2 hg2; have hb2 := hb1.grown hg2 hb1.size (fun k hk => by cases hk; exact Nat.le_refl _)))
    refine bodyPost_ret (results_cell_tmp rfl _ hv2 rfl _ Tryd.underlying33 rfl (PT.info _)) rfl ?_
    exact ⟨rfl, hb2⟩
  · have h44' : (44 : Int) ≤ (xs.length : Int) := by omega
    obtain ⟨ad, rfl, hcc⟩ := RB.at0 hv (by omega)
    have hhash := rawP_hash xs (by omega)
    obtain ⟨A2, hcut4, hcut5, hcut6, hr2⟩ := cutB (some ad) c xs 32 xs.length (by omega) (Nat.le_refl _) hc
    have hk2 : ∀ W, (Instr.slice 22 (.slice (some ad) xs.length c) (some (.int .i64 32)) none none).run Tryd.prog W = .ok (.slice A2 (xs.length - 32) (c - 32)) W := fun W => hcut5 .i64 W rfl
    have hr3 : ∀ w, RB w (.slice (some ad) xs.length c) xs → RB w (.slice A2 (xs.length - 32) (c - 32)) (xs.drop 32) := fun w h => by
      have := hr2 w h
      rw [List.take_of_length_le (Nat.le_refl _)] at this
      exact this
    clear hcut4 hcut5 hcut6 hr2
    have c1 := fun W v h => Take32_ge v (xs.drop 32) W h (by rw [List.length_drop]; omega) (by rw [List.length_drop]; omega)
    have c2 := fun W v h => Take32_ge v (xs.drop 36) W h (by rw [List.length_drop]; omega) (by rw [List.length_drop]; omega)
    have c3 := fun W v h => Take32_ge v (xs.drop 40) W h (by rw [List.length_drop]; omega) (by rw [List.length_drop]; omega)
    simp only [List.drop_drop, Nat.reduceAdd] at c1 c2 c3
    obtain ⟨r, hr⟩ : ∃ r, r = rawP xs := ⟨_, rfl⟩
    have hrb : UInt32.ofNat (get32 (xs.drop 32)) = r.birth := by rw [hr]; rfl
    have hra : UInt32.ofNat (get32 (xs.drop 36)) = r.a0 := by rw [hr]; rfl
    have hrc : UInt32.ofNat (get32 (xs.drop 40)) = r.a1 := by rw [hr]; rfl
    rw [hrb] at c1
    rw [hra] at c2
    rw [hrc] at c3
    have hrh : r.hash = xs.take 32 := by rw [hr]; exact hhash
    have hch : ∀ (j : Nat) (u : Value), (r.hash.map cb)[j]? = some u → w.cell? (ad.add j) = some u := fun j u hu => by
      refine hcc j u ?_
      rw [hrh, List.map_take, List.getElem?_take] at hu
      split at hu
      · exact hu
      · cases hu
    obtain ⟨q0, hq0⟩ : ∃ q, q = PT.mk r.hash r.hl 0 0 0 := ⟨_, rfl⟩
    obtain ⟨q1, hq1⟩ : ∃ q, q = PT.mk r.hash r.hl r.birth 0 0 := ⟨_, rfl⟩
    obtain ⟨q2, hq2⟩ : ∃ q, q = PT.mk r.hash r.hl r.birth r.a0 0 := ⟨_, rfl⟩
    have hb0 : Program.built Tryd.prog 33 [(0, .agg (r.hash.map cb).toArray)] = some q0.cells.toArray := by rw [hq0]; exact ptr_hash r.hash r.hl
    have hl1 : lay q0.cells 32 [u32 r.birth] = q1.cells := by rw [hq0, hq1, PT.lay32]
    have hl2 : lay q1.cells 33 [u32 r.a0] = q2.cells := by rw [hq1, hq2, PT.lay33]
    have hl3 : lay q2.cells 34 [u32 r.a1] = r.cells := by rw [hq2, PT.lay34]
    have hrl : r.hash.length = 32 := r.hl
    obtain ⟨ys, hys⟩ : ∃ ys, ys = xs.drop 44 := ⟨_, rfl⟩
    have hdl : ys.length = xs.length - 44 := by rw [hys, List.length_drop]
    rw [← hys] at c3
    have C1 := Lib.hid c1
    have C2 := Lib.hid c2
    have C3 := Lib.hid c3
    have HB0 := Lib.hid hb0
    have HL1 := Lib.hid hl1
    have HL2 := Lib.hid hl2
    have HL3 := Lib.hid hl3
    have HCH := Lib.hid hch
    have HR := Lib.hid hr
    have HRL := Lib.hid hrl
    have cM : ∀ W, Calls Tryd.prog 83 #[.agg r.cells.toArray] W fun e w' => e = .returned (.bool r.may) ∧ Below W.heap.size W w' := fun W => May_any r W
    clear c1 c2 c3 hb0 hl1 hl2 hl3 hch hcc hrh hhash hrb hra hrc hr hq0 hq1 hq2 hrl hys
    by_cases h44e : 44 < xs.length
    · have hE : decE xs = 3 := by rw [decE, if_neg h44, if_pos (.inl h44e)]
      have hP : decP xs = PT.hole := by rw [decP, hE, if_neg (by decide)]
      rw [hE, hP]
      have h0 : (0 : Int) < ((xs.length - 44 : Nat) : Int) := by omega
      have hd0 : (0 : Int) < (ys.length : Int) := by rw [hdl]; exact h0
      have hd0b : decide ((0 : Int) < (ys.length : Int)) = true := decide_eq_true hd0
      have hd0n : 0 < ys.length := by omega
      clear hE hP h44e hdl h0
      go_enter Tryd.func92, Tryd.ntmps92
      go_wp2_with (first
        | (refine wpVar 33 rfl PT.hole.val PT.hole.cells (by kernel_rfl) rfl 4 _ rfl q0.cells rfl rfl (by rw [PT.len, PT.len]) (PT.info _) (PT.one _) rfl rfl ?_; intro w2 hv2 hb2; have hlt := hv1.lt; replace hv1 := hv1.below hb2; replace hb1 := below_two hb1 hb1.size hb2; have hra := hr3 _ (hv.below hb1); clear hb2)
        | (refine wpAlloc 33 rfl PT.hole.val PT.hole.cells (by kernel_rfl) rfl rfl ?_; intro w1 hv1 hb1)
        | (refine stepV (exec_arrptr 29 _ rfl 32 _ Tryd.underlying29 (some ad) xs.length c rfl (by omega)) rfl ?_)
        | (refine stepV (exec_loadA 29 _ rfl ad rfl (r.hash.map cb) _ (fun j u hu => cell_below hb1 (HCH.out j u hu)) Tryd.underlying29 rfl (by rw [List.length_map, HRL.out]; kernel_rfl)) rfl ?_)
        | (refine stepV (exec_buildL 33 [(0, .tmp 11)] rfl [(0, .agg (r.hash.map cb).toArray)] rfl q0.cells HB0.out) rfl ?_)
        | (go_at_call 94; (with_reducible refine (C1.out _ _ hra).mono ?_); rintro e w3 ⟨v3, rfl, ho3, hb3⟩; have hlt2 := hv2.lt; replace hv1 := hv1.below hb3; replace hv2 := hv2.below hb3; replace hb1 := below_two hb1 hb1.size hb3; clear hra hb3)
        | (refine wpLay 30 _ _ rfl w1.heap.size 32 rfl [u32 r.birth] q0.cells q1.cells rfl _ hv2 u32_info (by rw [PT.len, List.length_singleton]; decide) (u32_one _) HL1.out rfl ?_; intro w4 hv3 hg4; replace ho3 := ho3.other hg4 (OR.ne_block ho3 hlt2); replace hv1 := hv1.grown hg4 (by simp; omega); replace hb1 := hb1.grown hg4 hb1.size (fun k hk => by cases hk; omega); clear hv2 hg4)
        | (go_at_call 94; (with_reducible refine (C2.out _ _ ho3.reads).mono ?_); rintro e w5 ⟨v5, rfl, ho5, hb5⟩; have hlt3 := hv3.lt; replace hv1 := hv1.below hb5; replace hv3 := hv3.below hb5; replace hb1 := below_two hb1 hb1.size hb5; clear hb5 ho3)
        | (refine wpLay 30 _ _ rfl w1.heap.size 33 rfl [u32 r.a0] q1.cells q2.cells rfl _ hv3 u32_info (by rw [PT.len, List.length_singleton]; decide) (u32_one _) HL2.out rfl ?_; intro w6 hv4 hg6; replace ho5 := ho5.other hg6 (OR.ne_block ho5 hlt3); replace hv1 := hv1.grown hg6 (by simp; omega); replace hb1 := hb1.grown hg6 hb1.size (fun k hk => by cases hk; omega); clear hv3 hg6)
        | (go_at_call 94; (with_reducible refine (C3.out _ _ ho5.reads).mono ?_); rintro e w7 ⟨v7, rfl, ho7, hb7⟩; obtain ⟨A7, c7, rfl, hc7⟩ := ho7.reads.len; have hlt4 := hv4.lt; replace hv1 := hv1.below hb7; replace hv4 := hv4.below hb7; replace hb1 := below_two hb1 hb1.size hb7; clear hb7 ho5)
        | (refine wpLay 30 _ _ rfl w1.heap.size 34 rfl [u32 r.a1] q2.cells r.cells rfl _ hv4 u32_info (by rw [PT.len, List.length_singleton]; decide) (u32_one _) HL3.out rfl ?_; intro w8 hv5 hg8; replace ho7 := ho7.other hg8 (OR.ne_block ho7 hlt4); replace hv1 := hv1.grown hg8 (by simp; omega); replace hb1 := hb1.grown hg8 hb1.size (fun k hk => by cases hk; omega); clear hv4 hg8)
        | (refine stepV (exec_load 33 _ rfl _ _ rfl r.cells _ hv5.all Tryd.underlying33 rfl (PT.info r)) rfl ?_)
        | (go_at_call 83; (with_reducible refine (cM _).mono ?_); rintro e w9 ⟨rfl, hb9⟩; replace hv1 := hv1.below hb9; replace hv5 := hv5.below hb9; replace hb1 := below_two hb1 hb1.size hb9; clear hb9)
        | (refine stepV (exec_zero 33 rfl PT.hole.cells ptr_zero) rfl ?_)
        | (refine wpStore 33 _ _ rfl w.heap.size rfl PT.hole.cells _ rfl _ hv1 (PT.info _) rfl (PT.one _) rfl ?_; intro w10 hv10 hg10; replace hb1 := hb1.grown hg10 hb1.size (fun k hk => by cases hk; exact Nat.le_refl _)))
      refine bodyPost_ret (results_cell_tmp rfl _ hv10 rfl _ Tryd.underlying33 rfl (PT.info _)) rfl ?_
      exact ⟨rfl, hb1⟩
    · have hdl0 : (ys.length : Int) = 0 := by rw [hdl]; omega
      have hd0 : ¬ (0 : Int) < (ys.length : Int) := by omega
      cases hm : r.may with
      | false =>
        have hE : decE xs = 3 := by rw [decE, if_neg h44, if_pos (.inr (by rw [← HR.out]; exact hm))]
        have hP : decP xs = PT.hole := by rw [decP, hE, if_neg (by decide)]
        rw [hE, hP]
        rw [hm] at cM
        clear hE hP hdl hm
        go_enter Tryd.func92, Tryd.ntmps92
        go_wp2_with (first
          | (refine wpVar 33 rfl PT.hole.val PT.hole.cells (by kernel_rfl) rfl 4 _ rfl q0.cells rfl rfl (by rw [PT.len, PT.len]) (PT.info _) (PT.one _) rfl rfl ?_; intro w2 hv2 hb2; have hlt := hv1.lt; replace hv1 := hv1.below hb2; replace hb1 := below_two hb1 hb1.size hb2; have hra := hr3 _ (hv.below hb1); clear hb2)
          | (refine wpAlloc 33 rfl PT.hole.val PT.hole.cells (by kernel_rfl) rfl rfl ?_; intro w1 hv1 hb1)
          | (refine stepV (exec_arrptr 29 _ rfl 32 _ Tryd.underlying29 (some ad) xs.length c rfl (by omega)) rfl ?_)
          | (refine stepV (exec_loadA 29 _ rfl ad rfl (r.hash.map cb) _ (fun j u hu => cell_below hb1 (HCH.out j u hu)) Tryd.underlying29 rfl (by rw [List.length_map, HRL.out]; kernel_rfl)) rfl ?_)
          | (refine stepV (exec_buildL 33 [(0, .tmp 11)] rfl [(0, .agg (r.hash.map cb).toArray)] rfl q0.cells HB0.out) rfl ?_)
          | (go_at_call 94; (with_reducible refine (C1.out _ _ hra).mono ?_); rintro e w3 ⟨v3, rfl, ho3, hb3⟩; have hlt2 := hv2.lt; replace hv1 := hv1.below hb3; replace hv2 := hv2.below hb3; replace hb1 := below_two hb1 hb1.size hb3; clear hra hb3)
          | (refine wpLay 30 _ _ rfl w1.heap.size 32 rfl [u32 r.birth] q0.cells q1.cells rfl _ hv2 u32_info (by rw [PT.len, List.length_singleton]; decide) (u32_one _) HL1.out rfl ?_; intro w4 hv3 hg4; replace ho3 := ho3.other hg4 (OR.ne_block ho3 hlt2); replace hv1 := hv1.grown hg4 (by simp; omega); replace hb1 := hb1.grown hg4 hb1.size (fun k hk => by cases hk; omega); clear hv2 hg4)
          | (go_at_call 94; (with_reducible refine (C2.out _ _ ho3.reads).mono ?_); rintro e w5 ⟨v5, rfl, ho5, hb5⟩; have hlt3 := hv3.lt; replace hv1 := hv1.below hb5; replace hv3 := hv3.below hb5; replace hb1 := below_two hb1 hb1.size hb5; clear hb5 ho3)
          | (refine wpLay 30 _ _ rfl w1.heap.size 33 rfl [u32 r.a0] q1.cells q2.cells rfl _ hv3 u32_info (by rw [PT.len, List.length_singleton]; decide) (u32_one _) HL2.out rfl ?_; intro w6 hv4 hg6; replace ho5 := ho5.other hg6 (OR.ne_block ho5 hlt3); replace hv1 := hv1.grown hg6 (by simp; omega); replace hb1 := hb1.grown hg6 hb1.size (fun k hk => by cases hk; omega); clear hv3 hg6)
          | (go_at_call 94; (with_reducible refine (C3.out _ _ ho5.reads).mono ?_); rintro e w7 ⟨v7, rfl, ho7, hb7⟩; obtain ⟨A7, c7, rfl, hc7⟩ := ho7.reads.len; have hlt4 := hv4.lt; replace hv1 := hv1.below hb7; replace hv4 := hv4.below hb7; replace hb1 := below_two hb1 hb1.size hb7; clear hb7 ho5)
          | (refine wpLay 30 _ _ rfl w1.heap.size 34 rfl [u32 r.a1] q2.cells r.cells rfl _ hv4 u32_info (by rw [PT.len, List.length_singleton]; decide) (u32_one _) HL3.out rfl ?_; intro w8 hv5 hg8; replace ho7 := ho7.other hg8 (OR.ne_block ho7 hlt4); replace hv1 := hv1.grown hg8 (by simp; omega); replace hb1 := hb1.grown hg8 hb1.size (fun k hk => by cases hk; omega); clear hv4 hg8)
          | (refine stepV (exec_load 33 _ rfl _ _ rfl r.cells _ hv5.all Tryd.underlying33 rfl (PT.info r)) rfl ?_)
          | (go_at_call 83; (with_reducible refine (cM _).mono ?_); rintro e w9 ⟨rfl, hb9⟩; replace hv1 := hv1.below hb9; replace hv5 := hv5.below hb9; replace hb1 := below_two hb1 hb1.size hb9; clear hb9)
          | (refine stepV (exec_zero 33 rfl PT.hole.cells ptr_zero) rfl ?_)
          | (refine wpStore 33 _ _ rfl w.heap.size rfl PT.hole.cells _ rfl _ hv1 (PT.info _) rfl (PT.one _) rfl ?_; intro w10 hv10 hg10; replace hb1 := hb1.grown hg10 hb1.size (fun k hk => by cases hk; exact Nat.le_refl _)))
        refine bodyPost_ret (results_cell_tmp rfl _ hv10 rfl _ Tryd.underlying33 rfl (PT.info _)) rfl ?_
        exact ⟨rfl, hb1⟩
      | true =>
        have hE : decE xs = 0 := by rw [decE, if_neg h44, if_neg (by rw [← HR.out, hm]; simp; omega)]
        have hP : decP xs = r := by rw [decP, if_pos hE, HR.out]
        rw [hE, hP]
        rw [hm] at cM
        clear hE hP hdl hm
        go_enter Tryd.func92, Tryd.ntmps92
        go_wp2_with (first
          | (refine wpVar 33 rfl PT.hole.val PT.hole.cells (by kernel_rfl) rfl 4 _ rfl q0.cells rfl rfl (by rw [PT.len, PT.len]) (PT.info _) (PT.one _) rfl rfl ?_; intro w2 hv2 hb2; have hlt := hv1.lt; replace hv1 := hv1.below hb2; replace hb1 := below_two hb1 hb1.size hb2; have hra := hr3 _ (hv.below hb1); clear hb2)
          | (refine wpAlloc 33 rfl PT.hole.val PT.hole.cells (by kernel_rfl) rfl rfl ?_; intro w1 hv1 hb1)
          | (refine stepV (exec_arrptr 29 _ rfl 32 _ Tryd.underlying29 (some ad) xs.length c rfl (by omega)) rfl ?_)
          | (refine stepV (exec_loadA 29 _ rfl ad rfl (r.hash.map cb) _ (fun j u hu => cell_below hb1 (HCH.out j u hu)) Tryd.underlying29 rfl (by rw [List.length_map, HRL.out]; kernel_rfl)) rfl ?_)
          | (refine stepV (exec_buildL 33 [(0, .tmp 11)] rfl [(0, .agg (r.hash.map cb).toArray)] rfl q0.cells HB0.out) rfl ?_)
          | (go_at_call 94; (with_reducible refine (C1.out _ _ hra).mono ?_); rintro e w3 ⟨v3, rfl, ho3, hb3⟩; have hlt2 := hv2.lt; replace hv1 := hv1.below hb3; replace hv2 := hv2.below hb3; replace hb1 := below_two hb1 hb1.size hb3; clear hra hb3)
          | (refine wpLay 30 _ _ rfl w1.heap.size 32 rfl [u32 r.birth] q0.cells q1.cells rfl _ hv2 u32_info (by rw [PT.len, List.length_singleton]; decide) (u32_one _) HL1.out rfl ?_; intro w4 hv3 hg4; replace ho3 := ho3.other hg4 (OR.ne_block ho3 hlt2); replace hv1 := hv1.grown hg4 (by simp; omega); replace hb1 := hb1.grown hg4 hb1.size (fun k hk => by cases hk; omega); clear hv2 hg4)
          | (go_at_call 94; (with_reducible refine (C2.out _ _ ho3.reads).mono ?_); rintro e w5 ⟨v5, rfl, ho5, hb5⟩; have hlt3 := hv3.lt; replace hv1 := hv1.below hb5; replace hv3 := hv3.below hb5; replace hb1 := below_two hb1 hb1.size hb5; clear hb5 ho3)
          | (refine wpLay 30 _ _ rfl w1.heap.size 33 rfl [u32 r.a0] q1.cells q2.cells rfl _ hv3 u32_info (by rw [PT.len, List.length_singleton]; decide) (u32_one _) HL2.out rfl ?_; intro w6 hv4 hg6; replace ho5 := ho5.other hg6 (OR.ne_block ho5 hlt3); replace hv1 := hv1.grown hg6 (by simp; omega); replace hb1 := hb1.grown hg6 hb1.size (fun k hk => by cases hk; omega); clear hv3 hg6)
          | (go_at_call 94; (with_reducible refine (C3.out _ _ ho5.reads).mono ?_); rintro e w7 ⟨v7, rfl, ho7, hb7⟩; obtain ⟨A7, c7, rfl, hc7⟩ := ho7.reads.len; have hlt4 := hv4.lt; replace hv1 := hv1.below hb7; replace hv4 := hv4.below hb7; replace hb1 := below_two hb1 hb1.size hb7; clear hb7 ho5)
          | (refine wpLay 30 _ _ rfl w1.heap.size 34 rfl [u32 r.a1] q2.cells r.cells rfl _ hv4 u32_info (by rw [PT.len, List.length_singleton]; decide) (u32_one _) HL3.out rfl ?_; intro w8 hv5 hg8; replace ho7 := ho7.other hg8 (OR.ne_block ho7 hlt4); replace hv1 := hv1.grown hg8 (by simp; omega); replace hb1 := hb1.grown hg8 hb1.size (fun k hk => by cases hk; omega); clear hv4 hg8)
          | (refine stepV (exec_load 33 _ rfl _ _ rfl r.cells _ hv5.all Tryd.underlying33 rfl (PT.info r)) rfl ?_)
          | (go_at_call 83; (with_reducible refine (cM _).mono ?_); rintro e w9 ⟨rfl, hb9⟩; replace hv1 := hv1.below hb9; replace hv5 := hv5.below hb9; replace hb1 := below_two hb1 hb1.size hb9; clear hb9)
          | (refine wpStore 33 _ _ rfl w.heap.size rfl r.cells _ rfl _ hv1 (PT.info _) (by rw [PT.len, PT.len]) (PT.one _) rfl ?_; intro w10 hv10 hg10; replace hb1 := hb1.grown hg10 hb1.size (fun k hk => by cases hk; exact Nat.le_refl _)))
        refine bodyPost_ret (results_cell_tmp rfl _ hv10 rfl _ Tryd.underlying33 rfl (PT.info _)) rfl ?_
        exact ⟨rfl, hb1⟩
end Go.Proofs.YticfcelbnkiopaaDoor

namespace Go.Proofs.YticfcelbnkiopaaDoor
set_option maxRecDepth 100000
open Go.RowKit
set_option linter.unusedSimpArgs false
set_option linter.unusedVariables false

section
variable {F G : Nat → Prop} {w0 w w' : World} {L L' D D' : List Own}
theorem Chg.weak (h : Chg F w w') (hFG : ∀ k, F k → G k) : Chg G w w' := ⟨h.os, h.tape, h.output, h.size, fun k hk hn => h.block k hk fun hf => hn (hFG k hf)⟩
theorem SH.weak (h : SH F w0 w L) (hFG : ∀ k, F k → G k) : SH G w0 w L := ⟨h.chg.weak hFG, h.holds, fun o ho b hb => (h.foot o ho b hb).imp (hFG b) id, h.apart⟩
/-- The things of D stand at the list's end. -/
class HasS (L D : List Own) (put : outParam (List Own → List Own)) : Prop where
  ix : ∃ A, L = A ++ D ∧ ∀ D', put D' = A ++ D'
instance HasS.here : HasS D D (fun D' => D') := ⟨[], rfl, fun _ => rfl⟩
instance (priority := low) HasS.there {o : Own} {put : List Own → List Own} [h : HasS L D put] : HasS (o :: L) D (fun D' => o :: put D') := by
  obtain ⟨A, h1, h2⟩ := h.ix
  exact ⟨o :: A, by rw [h1]; rfl, fun D' => by rw [h2]; rfl⟩
theorem HOLD.suf {put : List Own → List Own} (h : HOLD L w) [k : HasS L D put] : HOLD D w := by
  obtain ⟨A, h1, _⟩ := k.ix
  exact fun o ho => h o (by rw [h1]; exact List.mem_append_right _ ho)
theorem SH.subS {put : List Own → List Own} (h : SH F w0 w L) [k : HasS L D put] : SH (feet D) w w D := by
  obtain ⟨A, h1, _⟩ := k.ix
  rw [h1] at h
  exact SH.subL (h.perm List.perm_append_comm)
/-- A callee that was handed the things at the end. -/
theorem SH.viaS {put : List Own → List Own} (h : SH F w0 w L) [k : HasS L D put] (hk : SH (feet D) w w' D') : SH F w0 w' (put D') := by
  obtain ⟨A, h1, h2⟩ := k.ix
  rw [h1] at h
  rw [h2]
  exact (SH.viaL (h.perm List.perm_append_comm) hk).perm List.perm_append_comm
theorem SH.feetS {put : List Own → List Own} (h : SH F w0 w L) [k : HasS L D put] : ∀ b, feet D b → F b ∨ w0.heap.size ≤ b := by
  obtain ⟨A, h1, _⟩ := k.ix
  exact fun b ⟨o, ho, hb⟩ => h.foot o (by rw [h1]; exact List.mem_append_right _ ho) b hb
theorem SH.chgF (h : SH F w0 w L) (hf : ∀ b, G b → F b ∨ w0.heap.size ≤ b) (hc : Chg G w w') : Chg F w0 w' :=
  ⟨hc.os.trans h.chg.os, hc.tape.trans h.chg.tape, hc.output.trans h.chg.output, Nat.le_trans h.chg.size hc.size, fun i hi hn => (hc.block i (Nat.lt_of_lt_of_le hi h.chg.size) fun hg => by
    rcases hf i hg with h1 | h1
    · exact hn h1
    · omega).trans (h.chg.block i hi hn)⟩
theorem SH.chgS {put : List Own → List Own} (h : SH F w0 w L) [HasS L D put] (hc : Chg (feet D) w w') : Chg F w0 w' := h.chgF (h.feetS (D := D)) hc
theorem SH.chgB {b : Nat} {t : TypeId} {cs : List Value} {put : List Value → List Own} (h : SH F w0 w L) [k : HasB L b t cs put] (hc : Chg (fun k => k = b) w w') : Chg F w0 w' := by
  obtain ⟨i, h1, _⟩ := k.ix
  exact h.chgF (fun c hb => h.foot _ (List.mem_of_getElem? h1) c hb) hc
theorem set_perm {α : Type} (a : α) : ∀ (l : List α) (i : Nat), i < l.length → (l.set i a).Perm (a :: l.eraseIdx i)
  | [], i, h => by simp at h
  | x :: l, 0, _ => List.Perm.refl _
  | x :: l, i + 1, h => ((set_perm a l i (by simpa using h)).cons x).trans (List.Perm.swap _ _ _)
/-- A callee that was handed a block, and made a thing. -/
theorem SH.viaB2 {b : Nat} {t : TypeId} {cs new : List Value} {put : List Value → List Own} {o : Own} (h : SH F w0 w L) [k : HasB L b t cs put] (hk : SH (fun k => k = b) w w' [o, .blk b t new]) : SH F w0 w' (o :: put new) := by
  obtain ⟨i, h1, h2⟩ := k.ix
  obtain ⟨hl, he⟩ := List.getElem?_eq_some_iff.1 h1
  have h3 := h.bring i h1
  have hk2 : SH (feet [.blk b t cs]) w w' [o, .blk b t new] := hk.weak fun c hc => ⟨_, List.mem_singleton.2 rfl, hc⟩
  have h4 := SH.viaL (D := [.blk b t cs]) (L := L.eraseIdx i) h3 hk2
  rw [← h2]
  exact h4.perm (List.Perm.cons _ (set_perm _ _ _ hl).symm)
end
end Go.Proofs.YticfcelbnkiopaaDoor

namespace Go.Proofs.YticfcelbnkiopaaDoor
set_option maxRecDepth 100000
open Go.RowKit
set_option linter.unusedSimpArgs false
set_option linter.unusedVariables false

theorem ptr_put (h : List UInt8) (hl : h.length = 32) (t : UInt32) : Program.built Tryd.prog 33 [(0, .agg (h.map cb).toArray), (1, .int .u32 (t.toNat : Int))] = some (PT.mk h hl t 0 0).cells.toArray := by
  have e : lay PT.hole.cells 0 (h.map cb) = (PT.mk h hl 0 0 0).cells := by
    rw [lay, List.take_zero, List.nil_append, List.length_map, hl, Nat.zero_add, PT.drop32]
    rfl
  rw [ptr_built, fill_cons _ _ _ _ _ 0 32 (h.map cb) rfl rfl (by simp [hl]) (by rw [PT.len]; omega), e, fill_cons _ _ _ _ _ 32 1 [u32 t] rfl rfl rfl (by rw [PT.len]; omega), Instr.fill]
  congr 2
  rw [lay, PT.take32, List.length_singleton, PT.drop33]
  rw [List.append_assoc]
  rfl
section
variable {bk bd bo bm : Nat} {vw : Value} {ss : List SVV} {t : UInt32} {st : DS} {u : List Bool}
def gvK (bk bd bm : Nat) (t : UInt32) (A : Option Addr) (c k n : Nat) (uu : List Bool) (l : List Nat) : List Own :=
  [.row U32T (.slice A k c) (l32 l), .blk bk 133 [.pointer (some ⟨bd, 0, none⟩), .pointer (some ⟨bm, 0, none⟩), .int .u32 (t.toNat : Int)], .blk bm 161 (mC n (wL uu))]
/-- What was taken, given back. -/
theorem giveTk (k : Nat) (hk : BKok st u) (hk8 : k ≤ 8) (hkf : k ≤ freeN u) (A : Option Addr) (c : Nat) (w : World) (hD : SH (feet (gvK bk bd bm t A c k u.length (tkU u k) (tkL u k))) w w (gvK bk bd bm t A c k u.length (tkU u k) (tkL u k))) :
    Calls Tryd.prog 66 #[.pointer (some ⟨bk, 0, none⟩), .slice A k c] w fun e w' => e = .returned (.tuple #[]) ∧ SH (feet (gvK bk bd bm t A c k u.length (tkU u k) (tkL u k))) w w' (gvK bk bd bm t A c k u.length u (tkL u k)) := by
  obtain ⟨t1, t2, t3⟩ := tk_spec u k hkf
  have e1 : ∀ uu : List Bool, uu.length = u.length → gvK bk bd bm t A c k u.length uu (tkL u k) = gvL bk bd bm t A c uu (tkL u k) := fun uu h => by rw [gvK, gvL, tkL_len, h]
  rw [e1 _ (tkU_len u k), e1 u rfl] at *
  have h := giveAll_any (bk := bk) (bd := bd) (bm := bm) (t := t) (u := tkU u k) A c (tkL u k) (by rw [tkU_len]; exact hk.d.n2) (fun i hi => ?_) t2 (by rw [tkL_len]; exact hk8) w hD
  · rw [clr_tk u k hkf, tkL_len] at h
    exact h
  · obtain ⟨h1, h2⟩ := t1 i hi
    refine ⟨?_, by rw [tkU_len]; exact h1, ?_⟩
    · rcases Nat.lt_or_ge i 4 with h4 | h4
      · rw [hk.lab i h4] at h2; cases h2
      · exact h4
    · have h3 := t3 i
      have hlt : i < (tkU u k).length := by rw [tkU_len]; exact h1
      rw [List.getD_eq_getElem?_getD, List.getElem?_eq_getElem hlt] at h3 ⊢
      show (tkU u k)[i] = true
      exact h3.trans (by simp [hi])
set_option maxHeartbeats 3200000 in
theorem bPut_any (vb : Value) (b : List UInt8) (c : Int) (hk : BKok st u) (hws : st.ws.length + 2 ≤ 1000000) (hc : -9223372036854775808 ≤ c ∧ c < 9223372036854775808) (w : World)
    (hD : SH (feet (bankL bk bd bo bm vw ss t st u)) w w (bankL bk bd bo bm vw ss t st u)) (hT : ∀ w', Chg (feet (bankL bk bd bo bm vw ss t st u)) w w' → TabAt w') (hv : ∀ w', Chg (feet (bankL bk bd bo bm vw ss t st u)) w w' → RB w' vb b) :
    Calls Tryd.prog 16 #[.pointer (some ⟨bk, 0, none⟩), vb, .int .i64 c] w fun e w' => e = .returned (.tuple #[.agg (putR t st u b c).1.cells.toArray, .int .i64 (putR t st u b c).2.1]) ∧ ∃ vw' ss', SH (feet (bankL bk bd bo bm vw ss t st u)) w w' (bankL bk bd bo bm vw' ss' t (putR t st u b c).2.2.1 (putR t st u b c).2.2.2) := by
  have hP := fun W (k : HOLD (bankL bk bd bo bm vw ss t st u) W) => bPower_any hk W k
  obtain ⟨F, hF⟩ : ∃ F, F = feet (bankL bk bd bo bm vw ss t st u) := ⟨_, rfl⟩
  rw [← hF] at hD hT hv ⊢
  obtain ⟨A0, c0, rfl, -⟩ := (hv w (Chg.refl _ _)).len
  have H := hD
  have HV := Lib.hid hv
  clear hF hD hv
  by_cases hoff : st.off = true
  · have e : putR t st u b c = (PT.hole, 8, st, u) := by rw [putR, if_pos hoff]
    rw [e]
    have e8 : pwE st = 8 := by rw [pwE, if_pos hoff]
    rw [e8] at hP
    have HP := Lib.hid hP
    generalize b.length = bn at *
    clear hP hk hoff e8 e hT HV
    go_enter Tryd.func16, Tryd.ntmps16
    go_wp2_with (first
      | (go_at_call 63; refine (HP.out _ (HOLD.suf (D := bankL bk bd bo bm vw ss t st u) H.hold)).mono ?_; rintro e w' ⟨rfl, hb⟩; replace H := H.step hb; clear hb)
      | ((with_reducible refine gDst 6 ?_); refine aAlloc H rfl rfl ?_; clear H; intro b6 w6 H)
      | ((with_reducible refine gLoad ?_); first | (refine aLoad1 H _ rfl rfl (by first | exact (rfl : _ = some (Value.int _ _)) | exact (rfl : _ = some (Value.slice _ _ _)) | exact (rfl : _ = some (Value.bool _)) | exact (rfl : _ = some (Value.string _)) | exact (rfl : _ = some (Value.pointer _)) | rfl | (simp [List.getElem?_append]; done)) rfl ?_) | (refine aLoadC _ rfl rfl (by assumption) rfl ?_) | (refine aLoad H _ rfl rfl (by first | exact part_all (by first | rfl | simp []) | (simp only [List.drop_succ_cons, List.drop_zero, List.take_succ_cons, List.take_zero]; rfl) | (simp [List.drop_append, List.take_append]; rfl)) (by first | rfl | simp []) rfl ?_))
      | ((with_reducible refine gBuild ?_); refine aZero rfl rfl ?_)
      | ((with_reducible refine gStore ?_); (first | (refine aCell H _ _ rfl rfl (by first | exact (rfl : _ = Value.int _ _) | exact (rfl : _ = Value.bool _) | exact (rfl : _ = Value.slice _ _ _) | exact (rfl : _ = Value.string _) | exact (rfl : _ = Value.pointer _) | exact (rfl : _ = Value.func _ _ _) | rfl) (by rfl) (by rfl) (by first | exact of_decide_eq_true rfl | (simp []; done) | (simp []; omega)) (by first | (simp only [List.set_cons_zero, List.set_cons_succ]; rfl) | (simp [List.set_append]; rfl)) rfl ?_) | (refine aStore H _ _ rfl rfl rfl (by (first | exact ⟨rfl, rfl⟩ | exact ⟨by decide, rfl⟩ | (simp []; done) | (constructor <;> simp [] <;> omega))) (by first | rfl | simp [List.all_append, one_all]) rfl ?_) | (refine aLay H _ _ rfl rfl rfl (by (first | exact ⟨rfl, rfl⟩ | exact ⟨by decide, rfl⟩ | (simp []; done) | (constructor <;> simp [] <;> omega))) (by first | rfl | simp [List.all_append, one_all]) (by simp only [lay, List.take_succ_cons, List.take_zero, List.drop_succ_cons, List.drop_zero, List.nil_append, List.cons_append, List.length_cons, List.length_nil, Nat.zero_add, Nat.reduceAdd]; rfl) rfl ?_)); clear H; intro w' H; try dsimp only at H))
    refine bodyPost_ret (res_cell_tmp rfl _ H.hold rfl rfl) rfl ?_
    exact ⟨rfl, vw, ss, H.tail⟩
  · have hoff' : st.off = false := by simpa using hoff
    have e8 : pwE st = 0 := by rw [pwE, if_neg hoff]
    rw [e8] at hP
    have HP := Lib.hid hP
    clear hP e8
    by_cases hbl : b.length = 256
    · by_cases hc1 : c < 1
      · have e : putR t st u b c = (PT.hole, 1, st, u) := by rw [putR, if_neg hoff, if_pos (.inr (.inl hc1))]
        rw [e]
        generalize b.length = bn at *
        clear hk hoff hoff' e hT HV hws
        try subst hbl
        go_enter Tryd.func16, Tryd.ntmps16
        go_wp2_with (first
          | (go_at_call 63; refine (HP.out _ (HOLD.suf (D := bankL bk bd bo bm vw ss t st u) H.hold)).mono ?_; rintro e w' ⟨rfl, hb⟩; replace H := H.step hb; clear hb)
          | ((with_reducible refine gDst 6 ?_); refine aAlloc H rfl rfl ?_; clear H; intro b6 w6 H)
          | ((with_reducible refine gLoad ?_); first | (refine aLoad1 H _ rfl rfl (by first | exact (rfl : _ = some (Value.int _ _)) | exact (rfl : _ = some (Value.slice _ _ _)) | exact (rfl : _ = some (Value.bool _)) | exact (rfl : _ = some (Value.string _)) | exact (rfl : _ = some (Value.pointer _)) | rfl | (simp [List.getElem?_append]; done)) rfl ?_) | (refine aLoadC _ rfl rfl (by assumption) rfl ?_) | (refine aLoad H _ rfl rfl (by first | exact part_all (by first | rfl | simp []) | (simp only [List.drop_succ_cons, List.drop_zero, List.take_succ_cons, List.take_zero]; rfl) | (simp [List.drop_append, List.take_append]; rfl)) (by first | rfl | simp []) rfl ?_))
          | ((with_reducible refine gBuild ?_); refine aZero rfl rfl ?_)
          | ((with_reducible refine gStore ?_); (first | (refine aCell H _ _ rfl rfl (by first | exact (rfl : _ = Value.int _ _) | exact (rfl : _ = Value.bool _) | exact (rfl : _ = Value.slice _ _ _) | exact (rfl : _ = Value.string _) | exact (rfl : _ = Value.pointer _) | exact (rfl : _ = Value.func _ _ _) | rfl) (by rfl) (by rfl) (by first | exact of_decide_eq_true rfl | (simp []; done) | (simp []; omega)) (by first | (simp only [List.set_cons_zero, List.set_cons_succ]; rfl) | (simp [List.set_append]; rfl)) rfl ?_) | (refine aStore H _ _ rfl rfl rfl (by (first | exact ⟨rfl, rfl⟩ | exact ⟨by decide, rfl⟩ | (simp []; done) | (constructor <;> simp [] <;> omega))) (by first | rfl | simp [List.all_append, one_all]) rfl ?_) | (refine aLay H _ _ rfl rfl rfl (by (first | exact ⟨rfl, rfl⟩ | exact ⟨by decide, rfl⟩ | (simp []; done) | (constructor <;> simp [] <;> omega))) (by first | rfl | simp [List.all_append, one_all]) (by simp only [lay, List.take_succ_cons, List.take_zero, List.drop_succ_cons, List.drop_zero, List.nil_append, List.cons_append, List.length_cons, List.length_nil, Nat.zero_add, Nat.reduceAdd]; rfl) rfl ?_)); clear H; intro w' H; try dsimp only at H))
        refine bodyPost_ret (res_cell_tmp rfl _ H.hold rfl rfl) rfl ?_
        exact ⟨rfl, vw, ss, H.tail⟩
      · by_cases hc2 : 2 < c
        · have e : putR t st u b c = (PT.hole, 1, st, u) := by rw [putR, if_neg hoff, if_pos (.inr (.inr hc2))]
          have hc1' : (c < 1) = False := eq_false hc1
          rw [e]
          generalize b.length = bn at *
          clear hk hoff hoff' e hT HV hws
          try subst hbl
          go_enter Tryd.func16, Tryd.ntmps16
          go_wp2_with (first
            | (go_at_call 63; refine (HP.out _ (HOLD.suf (D := bankL bk bd bo bm vw ss t st u) H.hold)).mono ?_; rintro e w' ⟨rfl, hb⟩; replace H := H.step hb; clear hb)
            | ((with_reducible refine gDst 6 ?_); refine aAlloc H rfl rfl ?_; clear H; intro b6 w6 H)
            | ((with_reducible refine gLoad ?_); first | (refine aLoad1 H _ rfl rfl (by first | exact (rfl : _ = some (Value.int _ _)) | exact (rfl : _ = some (Value.slice _ _ _)) | exact (rfl : _ = some (Value.bool _)) | exact (rfl : _ = some (Value.string _)) | exact (rfl : _ = some (Value.pointer _)) | rfl | (simp [List.getElem?_append]; done)) rfl ?_) | (refine aLoadC _ rfl rfl (by assumption) rfl ?_) | (refine aLoad H _ rfl rfl (by first | exact part_all (by first | rfl | simp []) | (simp only [List.drop_succ_cons, List.drop_zero, List.take_succ_cons, List.take_zero]; rfl) | (simp [List.drop_append, List.take_append]; rfl)) (by first | rfl | simp []) rfl ?_))
            | ((with_reducible refine gBuild ?_); refine aZero rfl rfl ?_)
            | ((with_reducible refine gStore ?_); (first | (refine aCell H _ _ rfl rfl (by first | exact (rfl : _ = Value.int _ _) | exact (rfl : _ = Value.bool _) | exact (rfl : _ = Value.slice _ _ _) | exact (rfl : _ = Value.string _) | exact (rfl : _ = Value.pointer _) | exact (rfl : _ = Value.func _ _ _) | rfl) (by rfl) (by rfl) (by first | exact of_decide_eq_true rfl | (simp []; done) | (simp []; omega)) (by first | (simp only [List.set_cons_zero, List.set_cons_succ]; rfl) | (simp [List.set_append]; rfl)) rfl ?_) | (refine aStore H _ _ rfl rfl rfl (by (first | exact ⟨rfl, rfl⟩ | exact ⟨by decide, rfl⟩ | (simp []; done) | (constructor <;> simp [] <;> omega))) (by first | rfl | simp [List.all_append, one_all]) rfl ?_) | (refine aLay H _ _ rfl rfl rfl (by (first | exact ⟨rfl, rfl⟩ | exact ⟨by decide, rfl⟩ | (simp []; done) | (constructor <;> simp [] <;> omega))) (by first | rfl | simp [List.all_append, one_all]) (by simp only [lay, List.take_succ_cons, List.take_zero, List.drop_succ_cons, List.drop_zero, List.nil_append, List.cons_append, List.length_cons, List.length_nil, Nat.zero_add, Nat.reduceAdd]; rfl) rfl ?_)); clear H; intro w' H; try dsimp only at H))
          refine bodyPost_ret (res_cell_tmp rfl _ H.hold rfl rfl) rfl ?_
          exact ⟨rfl, vw, ss, H.tail⟩
        · obtain ⟨k, rfl⟩ : ∃ k : Nat, c = (k : Int) := ⟨c.toNat, by omega⟩
          have hk1 : ((k : Int) < 1) = False := eq_false hc1
          have hk2 : ((2 : Int) < (k : Int)) = False := eq_false hc2
          by_cases hf : freeN u < k
          · have e : putR t st u b (k : Int) = (PT.hole, 7, st, u) := by
              rw [putR, if_neg hoff, if_neg (by omega), Int.toNat_natCast, if_pos hf]
            rw [e]
            have HTK := Lib.hid (fun W (h : VA W bm 161 (mC u.length (wL u))) => mapTake_full bm k u hk.d.n2 (by omega) hf W h)
            rw [hbl]
            have h256 : ((256 : Int) != 256) = false := rfl
            clear hk hoff hoff' e hT HV hws hc hc1 hc2 hf
            unfold bankL at H HP ⊢
            go_enter Tryd.func16, Tryd.ntmps16
            go_wp2_with (first
              | (go_at_call 63; refine (HP.out _ (HOLD.suf H.hold)).mono ?_; rintro e w' ⟨rfl, hb⟩; replace H := H.step hb; clear hb)
              | (go_at_call 64; refine (HTK.out _ (H.hold.va (b := bm))).mono ?_; rintro e w' ⟨rfl, rfl⟩)
              | ((with_reducible refine gDst 6 ?_); refine aAlloc H rfl rfl ?_; clear H; intro b6 w6 H)
              | ((with_reducible refine gLoad ?_); first | (refine aLoad1 H _ rfl rfl (by first | exact (rfl : _ = some (Value.int _ _)) | exact (rfl : _ = some (Value.slice _ _ _)) | exact (rfl : _ = some (Value.bool _)) | exact (rfl : _ = some (Value.string _)) | exact (rfl : _ = some (Value.pointer _)) | rfl | (simp [List.getElem?_append]; done)) rfl ?_) | (refine aLoadC _ rfl rfl (by assumption) rfl ?_) | (refine aLoad H _ rfl rfl (by first | exact part_all (by first | rfl | simp []) | (simp only [List.drop_succ_cons, List.drop_zero, List.take_succ_cons, List.take_zero]; rfl) | (simp [List.drop_append, List.take_append]; rfl)) (by first | rfl | simp []) rfl ?_))
              | ((with_reducible refine gBuild ?_); refine aZero rfl rfl ?_)
              | ((with_reducible refine gStore ?_); (first | (refine aCell H _ _ rfl rfl (by first | exact (rfl : _ = Value.int _ _) | exact (rfl : _ = Value.bool _) | exact (rfl : _ = Value.slice _ _ _) | exact (rfl : _ = Value.string _) | exact (rfl : _ = Value.pointer _) | exact (rfl : _ = Value.func _ _ _) | rfl) (by rfl) (by rfl) (by first | exact of_decide_eq_true rfl | (simp []; done) | (simp []; omega)) (by first | (simp only [List.set_cons_zero, List.set_cons_succ]; rfl) | (simp [List.set_append]; rfl)) rfl ?_) | (refine aStore H _ _ rfl rfl rfl (by (first | exact ⟨rfl, rfl⟩ | exact ⟨by decide, rfl⟩ | (simp []; done) | (constructor <;> simp [] <;> omega))) (by first | rfl | simp [List.all_append, one_all]) rfl ?_) | (refine aLay H _ _ rfl rfl rfl (by (first | exact ⟨rfl, rfl⟩ | exact ⟨by decide, rfl⟩ | (simp []; done) | (constructor <;> simp [] <;> omega))) (by first | rfl | simp [List.all_append, one_all]) (by simp only [lay, List.take_succ_cons, List.take_zero, List.drop_succ_cons, List.drop_zero, List.nil_append, List.cons_append, List.length_cons, List.length_nil, Nat.zero_add, Nat.reduceAdd]; rfl) rfl ?_)); clear H; intro w' H; try dsimp only at H))
            refine bodyPost_ret (res_cell_tmp rfl _ H.hold rfl rfl) rfl ?_
            exact ⟨rfl, vw, ss, H.tail⟩
          · have hkf : k ≤ freeN u := by omega
            obtain ⟨t1, -, -⟩ := tk_spec u k hkf
            have htl := tkL_len u k
            have e : putR t st u b (k : Int) = if (wrs u.length b st (tkL u k)).1 = 0 then (pJ b t (tkL u k) k, 0, (wrs u.length b st (tkL u k)).2, tkU u k) else (PT.hole, (wrs u.length b st (tkL u k)).1, (wrs u.length b st (tkL u k)).2, u) := by
              rw [putR, if_neg hoff, if_neg (by omega), Int.toNat_natCast, if_neg hf]
            obtain ⟨R, hR⟩ : ∃ R, R = putR t st u b (k : Int) := ⟨_, rfl⟩
            rw [← hR]
            have HR := Lib.hid (hR.trans e)
            have HTK := Lib.hid (fun W (h : VA W bm 161 (mC u.length (wL u))) (q : ∀ w', Chg (fun b => b = bm) W w' → TabAt w') => mapTake_ok bm k u hk.d.n2 (by omega) hkf W q h)
            have HS := Lib.hid (fun v W (h : RB W v b) => Sum_any v b W h (by omega))
            have HGV := Lib.hid (fun A c W => giveTk (bk := bk) (bd := bd) (bm := bm) (t := t) k hk (by omega) hkf A c W)
            have HWR := Lib.hid (fun (i : Nat) vw1 ss1 (st1 : DS) (q1 : st1.ok u.length) q2 W => diskWrite_any bd bo u.length (i : Int) vw1 (.slice A0 256 c0) ss1 st1 b q1 q2 hbl W)
            have HT1 := Lib.hid t1
            have HTT := Lib.hid hT
            have HTL := Lib.hid htl
            have HUL := Lib.hid (tkU_len u k)
            have HN2 := Lib.hid hk.d.n2
            have HOK : Hid (st.ok u.length ∧ (-1 ≤ st.lets ∧ st.lets ≤ 9223372036854775807) ∧ st.ws.length ≤ st.ws.length + 0) := Lib.hid ⟨hk.d, hk.lets, Nat.le_refl _⟩
            have HWS := Lib.hid hws
            rw [hbl] at HV ⊢
            have hkk : k = 1 ∨ k = 2 := by omega
            have hk2i : (k : Int) ≤ 2 := by omega
            have hff : (freeN u < k) = False := eq_false hf
            have h256 : ((256 : Int) != 256) = false := rfl
            clear hk hoff hoff' e hR hT hws hc hc1 hc2 hf t1 hkf hff htl
            generalize tkU u k = uT at *
            generalize tkL u k = l at *
            have HPB := Lib.hid (ptr_put (shaL b) (shaL_len b) t)
            change Hid (Program.built Tryd.prog 33 [(0, .agg ((shaL b).map cb).toArray), (1, .int .u32 (t.toNat : Int))] = some (pJ b t l 0).cells.toArray) at HPB
            have HPL := Lib.hid (PT.len (pJ b t l 0))
            have HPO := Lib.hid (List.all_eq_true.2 (PT.one (pJ b t l 0)))
            unfold bankL at H HP ⊢
            go_enter Tryd.func16, Tryd.ntmps16
            go_wp2_with (first
              | (go_at_call 63; refine (HP.out _ (HOLD.suf H.hold)).mono ?_; rintro e w' ⟨rfl, hb⟩; replace H := H.step hb; clear hb)
              | (go_at_call 64; refine (HTK.out _ (H.hold.va (b := bm)) (fun w' hc => HTT.out _ (H.chgB hc))).mono ?_; rintro e w' ⟨A9, c9, rfl, k2⟩; replace H := H.viaB2 k2; (try dsimp only at H); clear k2)
              | ((with_reducible refine gDst 6 ?_); refine aAlloc H rfl rfl ?_; clear H; intro b6 w6 H)
              | ((with_reducible refine gLoad ?_); first | (refine aLoad1 H _ rfl rfl (by first | exact (rfl : _ = some (Value.int _ _)) | exact (rfl : _ = some (Value.slice _ _ _)) | exact (rfl : _ = some (Value.bool _)) | exact (rfl : _ = some (Value.string _)) | exact (rfl : _ = some (Value.pointer _)) | rfl | (simp [List.getElem?_append]; done)) rfl ?_) | (refine aLoadC _ rfl rfl (by assumption) rfl ?_) | (refine aLoad H _ rfl rfl (by first | exact part_all (by first | rfl | simp []) | (simp only [List.drop_succ_cons, List.drop_zero, List.take_succ_cons, List.take_zero]; rfl) | (simp [List.drop_append, List.take_append]; rfl)) (by first | rfl | simp []) rfl ?_))
              | ((with_reducible refine gBuild ?_); refine aZero rfl rfl ?_)
              | ((with_reducible refine gStore ?_); (first | (refine aCell H _ _ rfl rfl (by first | exact (rfl : _ = Value.int _ _) | exact (rfl : _ = Value.bool _) | exact (rfl : _ = Value.slice _ _ _) | exact (rfl : _ = Value.string _) | exact (rfl : _ = Value.pointer _) | exact (rfl : _ = Value.func _ _ _) | rfl) (by rfl) (by rfl) (by first | exact of_decide_eq_true rfl | (simp []; done) | (simp []; omega)) (by first | (simp only [List.set_cons_zero, List.set_cons_succ]; rfl) | (simp [List.set_append]; rfl)) rfl ?_) | (refine aStore H _ _ rfl rfl rfl (by (first | exact ⟨rfl, rfl⟩ | exact ⟨by decide, rfl⟩ | (simp []; done) | (constructor <;> simp [] <;> omega))) (by first | rfl | simp [List.all_append, one_all]) rfl ?_) | (refine aLay H _ _ rfl rfl rfl (by (first | exact ⟨rfl, rfl⟩ | exact ⟨by decide, rfl⟩ | (simp []; done) | (constructor <;> simp [] <;> omega))) (by first | rfl | simp [List.all_append, one_all]) (by simp only [lay, List.take_succ_cons, List.take_zero, List.drop_succ_cons, List.drop_zero, List.nil_append, List.cons_append, List.length_cons, List.length_nil, Nat.zero_add, Nat.reduceAdd]; rfl) rfl ?_)); clear H; intro w' H; try dsimp only at H))
            refine startA (fun i => i == 8) (by kernel_rfl) (fun wS hS => ?_)
            replace H := H.drew
            rw [← hS] at H
            have HH := H.hold
            have HS0 : Below wS.heap.size wS wS := Below.refl _ _
            clear hS
            refine takeP 0 rfl (by kernel_rfl) (by kernel_rfl) (by kernel_rfl) (by kernel_rfl) (fun _ _ _ h => h) rfl (v := ?_) ?_ ?_
            rotate_left
            · intro w'; go_simp; (try with_reducible rfl)
            (try simp only [Act.put, List.setIfInBounds_toArray, List.set_cons_zero, List.set_cons_succ])
            refine takeP 2 rfl (by kernel_rfl) (by kernel_rfl) (by kernel_rfl) (by kernel_rfl) (fun _ _ _ h => h) rfl (v := ?_) ?_ ?_
            rotate_left
            · intro w'; go_simp; (try with_reducible rfl)
            (try simp only [Act.put, List.setIfInBounds_toArray, List.set_cons_zero, List.set_cons_succ])
            refine takeP 3 rfl (by kernel_rfl) (by kernel_rfl) (by kernel_rfl) (by kernel_rfl) (fun _ _ _ h => h) rfl (v := ?_) ?_ ?_
            rotate_left
            · intro w'; go_simp; (try with_reducible rfl)
            (try simp only [Act.put, List.setIfInBounds_toArray, List.set_cons_zero, List.set_cons_succ])
            refine takeP 4 rfl (by kernel_rfl) (by kernel_rfl) (by kernel_rfl) (by kernel_rfl) (fun _ _ _ h => h) rfl (v := ?_) ?_ ?_
            rotate_left
            · intro w'; go_simp; (try with_reducible rfl)
            (try simp only [Act.put, List.setIfInBounds_toArray, List.set_cons_zero, List.set_cons_succ])
            refine takeL 5 HS0 rfl (by kernel_rfl) (by kernel_rfl) (by kernel_rfl) (by kernel_rfl) (by kernel_rfl) (fun _ _ _ h => h) rfl (v := ?_) ?_ ?_
            rotate_left
            · intro w' hw'; first | (refine Eq.trans (xLoad1 (HH.below hw') _ rfl rfl (by first | exact (rfl : _ = some (Value.int _ _)) | exact (rfl : _ = some (Value.slice _ _ _)) | exact (rfl : _ = some (Value.bool _)) | exact (rfl : _ = some (Value.string _)) | exact (rfl : _ = some (Value.pointer _)) | rfl | (simp [List.getElem?_append]; done))) ?_; with_reducible rfl) | (refine Eq.trans (xLoadC _ rfl rfl (cell_below hw' (by assumption))) ?_; with_reducible rfl)
            (try simp only [Act.put, List.setIfInBounds_toArray, List.set_cons_zero, List.set_cons_succ])
            refine stepL2 1 7 rfl rfl (by kernel_rfl) rfl rfl (fun K hK => ?ord9_1_t_1) (fun K hK => ?ord9_1_t_7)
            case' ord9_1_t_1 =>
              (go_simp; (with_reducible refine ((HS.out _ _ (HV.out _ H.chg))).mono ?_); rintro e w' ⟨rfl, hb⟩; replace H := H.step hb; replace HS0 := below_two HS0 HS0.size hb; clear hb; refine hK.out _ _ (fun _ _ => HS0) ?_; clear K hK)
              (try simp only [Act.put, List.setIfInBounds_toArray, List.set_cons_zero, List.set_cons_succ])
              refine takeL 6 HS0 rfl (by kernel_rfl) (by kernel_rfl) (by kernel_rfl) (by kernel_rfl) (by kernel_rfl) (fun _ _ _ h => h) rfl (v := ?_) ?_ ?_
              rotate_left
              · intro w' hw'; refine Eq.trans (exec_buildL 33 [(0, .tmp 49), (1, .tmp 53)] rfl [(0, .agg ((shaL b).map cb).toArray), (1, .int .u32 (t.toNat : Int))] rfl (pJ b t l 0).cells HPB.out) ?_; with_reducible rfl
              (try simp only [Act.put, List.setIfInBounds_toArray, List.set_cons_zero, List.set_cons_succ])
              refine stepL 7 rfl (by kernel_rfl) rfl (fun K hK => ?_)
              refine oAlloc H rfl ?_; clear H; intro b11 w11 hb H; replace HS0 := below_two HS0 HS0.size hb; clear hb; refine hK.out _ _ (fun _ _ => HS0) ?_; clear K hK
              (try simp only [Act.put, List.setIfInBounds_toArray, List.set_cons_zero, List.set_cons_succ])
              refine stepL 8 rfl (by kernel_rfl) rfl (fun K hK => ?_)
              (refine oStore H _ _ rfl rfl rfl ⟨by rfl, HPL.out⟩ HPO.out ?_; clear H; intro w' H; (try dsimp only at H); refine hK.out _ _ (fun h => by cases h) ?_; clear K hK HS0)
              (try simp only [Act.put, List.setIfInBounds_toArray, List.set_cons_zero, List.set_cons_succ])
              refine doneL (by kernel_rfl) ?_
            case' ord9_1_t_7 =>
              refine oAlloc H rfl ?_; clear H; intro b11 w11 hb H; replace HS0 := below_two HS0 HS0.size hb; clear hb; refine hK.out _ _ (fun _ _ => HS0) ?_; clear K hK
              (try simp only [Act.put, List.setIfInBounds_toArray, List.set_cons_zero, List.set_cons_succ])
              refine stepL 1 rfl (by kernel_rfl) rfl (fun K hK => ?_)
              (go_simp; (with_reducible refine ((HS.out _ _ (HV.out _ H.chg))).mono ?_); rintro e w' ⟨rfl, hb⟩; replace H := H.step hb; replace HS0 := below_two HS0 HS0.size hb; clear hb; refine hK.out _ _ (fun _ _ => HS0) ?_; clear K hK)
              (try simp only [Act.put, List.setIfInBounds_toArray, List.set_cons_zero, List.set_cons_succ])
              refine takeL 6 HS0 rfl (by kernel_rfl) (by kernel_rfl) (by kernel_rfl) (by kernel_rfl) (by kernel_rfl) (fun _ _ _ h => h) rfl (v := ?_) ?_ ?_
              rotate_left
              · intro w' hw'; refine Eq.trans (exec_buildL 33 [(0, .tmp 49), (1, .tmp 53)] rfl [(0, .agg ((shaL b).map cb).toArray), (1, .int .u32 (t.toNat : Int))] rfl (pJ b t l 0).cells HPB.out) ?_; with_reducible rfl
              (try simp only [Act.put, List.setIfInBounds_toArray, List.set_cons_zero, List.set_cons_succ])
              refine stepL 8 rfl (by kernel_rfl) rfl (fun K hK => ?_)
              (refine oStore H _ _ rfl rfl rfl ⟨by rfl, HPL.out⟩ HPO.out ?_; clear H; intro w' H; (try dsimp only at H); refine hK.out _ _ (fun h => by cases h) ?_; clear K hK HS0)
              (try simp only [Act.put, List.setIfInBounds_toArray, List.set_cons_zero, List.set_cons_succ])
              refine doneL (by kernel_rfl) ?_
            all_goals
              go_wp2_with (first
                | ((with_reducible refine gDst 6 ?_); refine aAlloc H rfl rfl ?_; clear H; intro b6 w6 H)
                | ((with_reducible refine gLoad ?_); first | (refine aLoad1 H _ rfl rfl (by first | exact (rfl : _ = some (Value.int _ _)) | exact (rfl : _ = some (Value.slice _ _ _)) | exact (rfl : _ = some (Value.bool _)) | exact (rfl : _ = some (Value.string _)) | exact (rfl : _ = some (Value.pointer _)) | rfl | (simp [List.getElem?_append]; done)) rfl ?_) | (refine aLoadC _ rfl rfl (by assumption) rfl ?_) | (refine aLoad H _ rfl rfl (by first | exact part_all (by first | rfl | simp []) | (simp only [List.drop_succ_cons, List.drop_zero, List.take_succ_cons, List.take_zero]; rfl) | (simp [List.drop_append, List.take_append]; rfl)) (by first | rfl | simp []) rfl ?_))
                | ((with_reducible refine gBuild ?_); refine aZero rfl rfl ?_)
                | ((with_reducible refine gStore ?_); (first | (refine aCell H _ _ rfl rfl (by first | exact (rfl : _ = Value.int _ _) | exact (rfl : _ = Value.bool _) | exact (rfl : _ = Value.slice _ _ _) | exact (rfl : _ = Value.string _) | exact (rfl : _ = Value.pointer _) | exact (rfl : _ = Value.func _ _ _) | rfl) (by rfl) (by rfl) (by first | exact of_decide_eq_true rfl | (simp []; done) | (simp []; omega)) (by first | (simp only [List.set_cons_zero, List.set_cons_succ]; rfl) | (simp [List.set_append]; rfl)) rfl ?_) | (refine aStore H _ _ rfl rfl rfl (by (first | exact ⟨rfl, rfl⟩ | exact ⟨by decide, rfl⟩ | (simp []; done) | (constructor <;> simp [] <;> omega))) (by first | rfl | simp [List.all_append, one_all]) rfl ?_) | (refine aLay H _ _ rfl rfl rfl (by (first | exact ⟨rfl, rfl⟩ | exact ⟨by decide, rfl⟩ | (simp []; done) | (constructor <;> simp [] <;> omega))) (by first | rfl | simp [List.all_append, one_all]) (by simp only [lay, List.take_succ_cons, List.take_zero, List.drop_succ_cons, List.drop_zero, List.nil_append, List.cons_append, List.length_cons, List.length_nil, Nat.zero_add, Nat.reduceAdd]; rfl) rfl ?_)); clear H; intro w' H; try dsimp only at H))
              have H2 := H
              clear H
              go_loopw [57] (fun v57 wr => ∃ (j : Nat) (st1 : DS) (vw1 : Value) (ss1 : List SVV), v57 = .int .i64 (j : Int) ∧ j ≤ k ∧ Hid (wrs u.length b st l = wrs u.length b st1 (l.drop j)) ∧ Hid (st1.ok u.length ∧ (-1 ≤ st1.lets ∧ st1.lets ≤ 9223372036854775807) ∧ st1.ws.length ≤ st.ws.length + j) ∧ SH F w wr (.blk b11 33 (pJ b t l j).cells :: .row U32T (.slice A9 k c9) (l32 l) :: .blk b6 33 PT.hole.cells :: .blk bk 133 [.pointer (some ⟨bd, 0, none⟩), .pointer (some ⟨bm, 0, none⟩), .int .u32 (t.toNat : Int)] :: .blk bm 161 (mC u.length (wL uT)) :: diskL bd bo vw1 ss1 st1)) (fun v _ => k - (intOf v).toNat)
              case atStart => exact ⟨0, st, vw, ss, rfl, by omega, Lib.hid rfl, HOK, H2⟩
              case round =>
                obtain ⟨j, st1, vw1, ss1, rfl, hj, HQ, HO1, HS1⟩ := hrel
                clear H2
                have H := HS1
                clear HS1
                by_cases hjk : j < k
                · have hji : (j : Int) < (k : Int) := by omega
                  have hjl : j < l.length := by rw [HTL.out]; exact hjk
                  obtain ⟨ad, rfl, hc⟩ := u32Cell (H.hold.rr (.slice A9 k c9)) j (by rw [l32, List.length_map]; exact hjl)
                  have hmem : l.getD j 0 ∈ l := by rw [List.getD_eq_getElem?_getD, List.getElem?_eq_getElem hjl]; exact List.getElem_mem _
                  have hin := (HT1.out _ hmem).1
                  have hi512 : l.getD j 0 < 512 := by have := HN2.out; omega
                  rw [vw_l32 l j hjl (by omega)] at hc
                  have hset := pJ_set b t l j (by omega) (by omega)
                  have hwd := wrs_drop u.length b st1 l j hjl
                  have hwr := HWR.out (l.getD j 0) vw1 ss1 st1 HO1.out.1 HO1.out.2.1
                  have hok1 := DS.ok_writeE HO1.out.1 (by have := HO1.out.2.2; have := HWS.out; omega) ((l.getD j 0 : Nat) : Int) b
                  have hlt1 := DS.lets_writeE (n := u.length) HO1.out.2.1 ((l.getD j 0 : Nat) : Int) b
                  have hln1 := DS.len_writeE st1 u.length ((l.getD j 0 : Nat) : Int) b
                  have hln2 := HO1.out.2.2
                  generalize l.getD j 0 = i at *
                  have hiw : IntKind.i64.wrap (i : Int) = (i : Int) := i64w _ (by omega) (by omega)
                  have HW := Lib.hid hwr
                  have HSET := Lib.hid hset
                  have HJ2 := Lib.hid (show 33 + j < (pJ b t l j).cells.length by rw [PT.len]; omega)
                  generalize st1.writeE u.length (i : Int) b = WE at *
                  obtain ⟨E, st2⟩ := WE
                  by_cases hE : E = 0
                  · subst hE
                    have HQ' := Lib.hid (HQ.out.trans (hwd.trans (if_pos rfl)))
                    have HO2 : Hid (st2.ok u.length ∧ (-1 ≤ st2.lets ∧ st2.lets ≤ 9223372036854775807) ∧ st2.ws.length ≤ st.ws.length + (j + 1)) := Lib.hid ⟨hok1, hlt1, by simp only at hln1; omega⟩
                    clear hwd hwr hok1 hlt1 hln1 hln2 hset hmem hin hjl
                    go_wp2_with (first
                      | ((with_reducible refine gDst 61 ?_); refine aLoadC _ rfl rfl hc rfl ?_)
                      | ((with_reducible refine gSto (.tmp 65) (.tmp 63) ?_); refine aCell (v := .int .u32 (i : Int)) H _ _ rfl rfl rfl rfl rfl HJ2.out HSET.out rfl ?_; clear H; intro w' H; (try dsimp only at H))
                      | (go_at_call 65; refine (HW.out _ (H.subS (D := diskL bd bo vw1 ss1 st1)) (fun w2 hc2 => HV.out _ (H.chgS (D := diskL bd bo vw1 ss1 st1) hc2))).mono ?_; rintro e w' ⟨rfl, vw2, ss2, k2⟩; replace H := H.viaS k2; (try dsimp only at H); clear k2)
                      | ((with_reducible refine gDst 6 ?_); refine aAlloc H rfl rfl ?_; clear H; intro b6 w6 H)
                      | ((with_reducible refine gLoad ?_); first | (refine aLoad1 H _ rfl rfl (by first | exact (rfl : _ = some (Value.int _ _)) | exact (rfl : _ = some (Value.slice _ _ _)) | exact (rfl : _ = some (Value.bool _)) | exact (rfl : _ = some (Value.string _)) | exact (rfl : _ = some (Value.pointer _)) | rfl | (simp [List.getElem?_append]; done)) rfl ?_) | (refine aLoadC _ rfl rfl (by assumption) rfl ?_) | (refine aLoad H _ rfl rfl (by first | exact part_all (by first | rfl | simp []) | (simp only [List.drop_succ_cons, List.drop_zero, List.take_succ_cons, List.take_zero]; rfl) | (simp [List.drop_append, List.take_append]; rfl)) (by first | rfl | simp []) rfl ?_))
                      | ((with_reducible refine gBuild ?_); refine aZero rfl rfl ?_)
                      | ((with_reducible refine gStore ?_); (first | (refine aCell H _ _ rfl rfl (by first | exact (rfl : _ = Value.int _ _) | exact (rfl : _ = Value.bool _) | exact (rfl : _ = Value.slice _ _ _) | exact (rfl : _ = Value.string _) | exact (rfl : _ = Value.pointer _) | exact (rfl : _ = Value.func _ _ _) | rfl) (by rfl) (by rfl) (by first | exact of_decide_eq_true rfl | (simp []; done) | (simp []; omega)) (by first | (simp only [List.set_cons_zero, List.set_cons_succ]; rfl) | (simp [List.set_append]; rfl)) rfl ?_) | (refine aStore H _ _ rfl rfl rfl (by (first | exact ⟨rfl, rfl⟩ | exact ⟨by decide, rfl⟩ | (simp []; done) | (constructor <;> simp [] <;> omega))) (by first | rfl | simp [List.all_append, one_all]) rfl ?_) | (refine aLay H _ _ rfl rfl rfl (by (first | exact ⟨rfl, rfl⟩ | exact ⟨by decide, rfl⟩ | (simp []; done) | (constructor <;> simp [] <;> omega))) (by first | rfl | simp [List.all_append, one_all]) (by simp only [lay, List.take_succ_cons, List.take_zero, List.drop_succ_cons, List.drop_zero, List.nil_append, List.cons_append, List.length_cons, List.length_nil, Nat.zero_add, Nat.reduceAdd]; rfl) rfl ?_)); clear H; intro w' H; try dsimp only at H))
                    go_roundw
                    case rel => exact ⟨j + 1, st2, vw2, ss2, by go_num, by omega, HQ', HO2, H⟩
                    case measure => simp [intOf] <;> omega
                  · have hE2 : (E != 0) = true := by simpa using hE
                    have HQ' : Hid (wrs u.length b st l = (E, st2)) := Lib.hid (HQ.out.trans (hwd.trans (if_neg hE)))
                    clear hwd hwr hok1 hlt1 hln1 hln2 hset hmem hin hjl
                    go_wp2_with (first
                      | ((with_reducible refine gDst 61 ?_); refine aLoadC _ rfl rfl hc rfl ?_)
                      | ((with_reducible refine gSto (.tmp 65) (.tmp 63) ?_); refine aCell (v := .int .u32 (i : Int)) H _ _ rfl rfl rfl rfl rfl HJ2.out HSET.out rfl ?_; clear H; intro w' H; (try dsimp only at H))
                      | (go_at_call 65; refine (HW.out _ (H.subS (D := diskL bd bo vw1 ss1 st1)) (fun w2 hc2 => HV.out _ (H.chgS (D := diskL bd bo vw1 ss1 st1) hc2))).mono ?_; rintro e w' ⟨rfl, vw2, ss2, k2⟩; replace H := H.viaS k2; (try dsimp only at H); clear k2)
                      | (go_at_call 66; have H5 : SH F w _ (gvK bk bd bm t (some ad) c9 k u.length uT l ++ (.blk b11 33 (pJ b t l (j + 1)).cells :: .blk b6 33 PT.hole.cells :: diskL bd bo vw2 ss2 st2)) := ((H.bring 4 rfl).bring 4 rfl).bring 3 rfl; refine (HGV.out _ _ _ (SH.subL H5)).mono ?_; rintro e w' ⟨rfl, k2⟩; replace H := SH.viaL H5 k2; clear k2 H5; unfold gvK at H; simp only [List.cons_append, List.nil_append] at H)
                      | ((with_reducible refine gDst 6 ?_); refine aAlloc H rfl rfl ?_; clear H; intro b6 w6 H)
                      | ((with_reducible refine gLoad ?_); first | (refine aLoad1 H _ rfl rfl (by first | exact (rfl : _ = some (Value.int _ _)) | exact (rfl : _ = some (Value.slice _ _ _)) | exact (rfl : _ = some (Value.bool _)) | exact (rfl : _ = some (Value.string _)) | exact (rfl : _ = some (Value.pointer _)) | rfl | (simp [List.getElem?_append]; done)) rfl ?_) | (refine aLoadC _ rfl rfl (by assumption) rfl ?_) | (refine aLoad H _ rfl rfl (by first | exact part_all (by first | rfl | simp []) | (simp only [List.drop_succ_cons, List.drop_zero, List.take_succ_cons, List.take_zero]; rfl) | (simp [List.drop_append, List.take_append]; rfl)) (by first | rfl | simp []) rfl ?_))
                      | ((with_reducible refine gBuild ?_); refine aZero rfl rfl ?_)
                      | ((with_reducible refine gStore ?_); (first | (refine aCell H _ _ rfl rfl (by first | exact (rfl : _ = Value.int _ _) | exact (rfl : _ = Value.bool _) | exact (rfl : _ = Value.slice _ _ _) | exact (rfl : _ = Value.string _) | exact (rfl : _ = Value.pointer _) | exact (rfl : _ = Value.func _ _ _) | rfl) (by rfl) (by rfl) (by first | exact of_decide_eq_true rfl | (simp []; done) | (simp []; omega)) (by first | (simp only [List.set_cons_zero, List.set_cons_succ]; rfl) | (simp [List.set_append]; rfl)) rfl ?_) | (refine aStore H _ _ rfl rfl rfl (by (first | exact ⟨rfl, rfl⟩ | exact ⟨by decide, rfl⟩ | (simp []; done) | (constructor <;> simp [] <;> omega))) (by first | rfl | simp [List.all_append, one_all]) rfl ?_) | (refine aLay H _ _ rfl rfl rfl (by (first | exact ⟨rfl, rfl⟩ | exact ⟨by decide, rfl⟩ | (simp []; done) | (constructor <;> simp [] <;> omega))) (by first | rfl | simp [List.all_append, one_all]) (by simp only [lay, List.take_succ_cons, List.take_zero, List.drop_succ_cons, List.drop_zero, List.nil_append, List.cons_append, List.length_cons, List.length_nil, Nat.zero_add, Nat.reduceAdd]; rfl) rfl ?_)); clear H; intro w' H; try dsimp only at H))
                    refine bodyPost_ret (res_cell_tmp rfl _ H.hold rfl rfl) rfl ?_
                    have hR : R = (PT.hole, E, st2, u) := by rw [HR.out, HQ'.out]; exact if_neg hE
                    rw [hR]
                    exact ⟨rfl, vw2, ss2, H.sub (.cons _ (.cons_cons _ (.cons_cons _ (.cons _ (.cons _ (List.Sublist.refl _))))))⟩
                · obtain rfl : j = k := by omega
                  have hd : l.drop j = [] := List.drop_eq_nil_of_le (by rw [HTL.out]; exact Nat.le_refl _)
                  have hR : R = (pJ b t l j, 0, st1, uT) := by rw [HR.out, HQ.out, hd]; rfl
                  have HRR := Lib.hid hR
                  clear hd hR
                  go_wp2_with (first
                    | ((with_reducible refine gDst 82 ?_); refine aLoad H _ rfl rfl (part_all (PT.len _)) (PT.len _) rfl ?_)
                    | ((with_reducible refine gSto (.tmp 6) (.tmp 82) ?_); refine aStore H _ _ rfl rfl rfl ⟨by rfl, PT.len _⟩ (List.all_eq_true.2 (PT.one _)) rfl ?_; clear H; intro w' H; (try dsimp only at H))
                    | ((with_reducible refine gDst 6 ?_); refine aAlloc H rfl rfl ?_; clear H; intro b6 w6 H)
                    | ((with_reducible refine gLoad ?_); first | (refine aLoad1 H _ rfl rfl (by first | exact (rfl : _ = some (Value.int _ _)) | exact (rfl : _ = some (Value.slice _ _ _)) | exact (rfl : _ = some (Value.bool _)) | exact (rfl : _ = some (Value.string _)) | exact (rfl : _ = some (Value.pointer _)) | rfl | (simp [List.getElem?_append]; done)) rfl ?_) | (refine aLoadC _ rfl rfl (by assumption) rfl ?_) | (refine aLoad H _ rfl rfl (by first | exact part_all (by first | rfl | simp []) | (simp only [List.drop_succ_cons, List.drop_zero, List.take_succ_cons, List.take_zero]; rfl) | (simp [List.drop_append, List.take_append]; rfl)) (by first | rfl | simp []) rfl ?_))
                    | ((with_reducible refine gBuild ?_); refine aZero rfl rfl ?_)
                    | ((with_reducible refine gStore ?_); (first | (refine aCell H _ _ rfl rfl (by first | exact (rfl : _ = Value.int _ _) | exact (rfl : _ = Value.bool _) | exact (rfl : _ = Value.slice _ _ _) | exact (rfl : _ = Value.string _) | exact (rfl : _ = Value.pointer _) | exact (rfl : _ = Value.func _ _ _) | rfl) (by rfl) (by rfl) (by first | exact of_decide_eq_true rfl | (simp []; done) | (simp []; omega)) (by first | (simp only [List.set_cons_zero, List.set_cons_succ]; rfl) | (simp [List.set_append]; rfl)) rfl ?_) | (refine aStore H _ _ rfl rfl rfl (by (first | exact ⟨rfl, rfl⟩ | exact ⟨by decide, rfl⟩ | (simp []; done) | (constructor <;> simp [] <;> omega))) (by first | rfl | simp [List.all_append, one_all]) rfl ?_) | (refine aLay H _ _ rfl rfl rfl (by (first | exact ⟨rfl, rfl⟩ | exact ⟨by decide, rfl⟩ | (simp []; done) | (constructor <;> simp [] <;> omega))) (by first | rfl | simp [List.all_append, one_all]) (by simp only [lay, List.take_succ_cons, List.take_zero, List.drop_succ_cons, List.drop_zero, List.nil_append, List.cons_append, List.length_cons, List.length_nil, Nat.zero_add, Nat.reduceAdd]; rfl) rfl ?_)); clear H; intro w' H; try dsimp only at H))
                  refine bodyPost_ret (res_cell_tmp rfl _ H.hold rfl rfl) rfl ?_
                  rw [HRR.out]
                  simp only
                  rw [HUL.out]
                  exact ⟨rfl, vw1, ss1, H.sub (.cons _ (.cons _ (.cons _ (List.Sublist.refl _))))⟩
    · have e : putR t st u b c = (PT.hole, 1, st, u) := by rw [putR, if_neg hoff, if_pos (.inl hbl)]
      have hbn : ((b.length : Int) != 256) = true := by simp; omega
      rw [e]
      generalize b.length = bn at *
      clear hk hoff hoff' e hT HV hws
      try subst hbl
      go_enter Tryd.func16, Tryd.ntmps16
      go_wp2_with (first
        | (go_at_call 63; refine (HP.out _ (HOLD.suf (D := bankL bk bd bo bm vw ss t st u) H.hold)).mono ?_; rintro e w' ⟨rfl, hb⟩; replace H := H.step hb; clear hb)
        | ((with_reducible refine gDst 6 ?_); refine aAlloc H rfl rfl ?_; clear H; intro b6 w6 H)
        | ((with_reducible refine gLoad ?_); first | (refine aLoad1 H _ rfl rfl (by first | exact (rfl : _ = some (Value.int _ _)) | exact (rfl : _ = some (Value.slice _ _ _)) | exact (rfl : _ = some (Value.bool _)) | exact (rfl : _ = some (Value.string _)) | exact (rfl : _ = some (Value.pointer _)) | rfl | (simp [List.getElem?_append]; done)) rfl ?_) | (refine aLoadC _ rfl rfl (by assumption) rfl ?_) | (refine aLoad H _ rfl rfl (by first | exact part_all (by first | rfl | simp []) | (simp only [List.drop_succ_cons, List.drop_zero, List.take_succ_cons, List.take_zero]; rfl) | (simp [List.drop_append, List.take_append]; rfl)) (by first | rfl | simp []) rfl ?_))
        | ((with_reducible refine gBuild ?_); refine aZero rfl rfl ?_)
        | ((with_reducible refine gStore ?_); (first | (refine aCell H _ _ rfl rfl (by first | exact (rfl : _ = Value.int _ _) | exact (rfl : _ = Value.bool _) | exact (rfl : _ = Value.slice _ _ _) | exact (rfl : _ = Value.string _) | exact (rfl : _ = Value.pointer _) | exact (rfl : _ = Value.func _ _ _) | rfl) (by rfl) (by rfl) (by first | exact of_decide_eq_true rfl | (simp []; done) | (simp []; omega)) (by first | (simp only [List.set_cons_zero, List.set_cons_succ]; rfl) | (simp [List.set_append]; rfl)) rfl ?_) | (refine aStore H _ _ rfl rfl rfl (by (first | exact ⟨rfl, rfl⟩ | exact ⟨by decide, rfl⟩ | (simp []; done) | (constructor <;> simp [] <;> omega))) (by first | rfl | simp [List.all_append, one_all]) rfl ?_) | (refine aLay H _ _ rfl rfl rfl (by (first | exact ⟨rfl, rfl⟩ | exact ⟨by decide, rfl⟩ | (simp []; done) | (constructor <;> simp [] <;> omega))) (by first | rfl | simp [List.all_append, one_all]) (by simp only [lay, List.take_succ_cons, List.take_zero, List.drop_succ_cons, List.drop_zero, List.nil_append, List.cons_append, List.length_cons, List.length_nil, Nat.zero_add, Nat.reduceAdd]; rfl) rfl ?_)); clear H; intro w' H; try dsimp only at H))
      refine bodyPost_ret (res_cell_tmp rfl _ H.hold rfl rfl) rfl ?_
      exact ⟨rfl, vw, ss, H.tail⟩
end
end Go.Proofs.YticfcelbnkiopaaDoor

namespace Go.Proofs.YticfcelbnkiopaaDoor
set_option maxRecDepth 100000
open Go.RowKit
set_option linter.unusedSimpArgs false
set_option linter.unusedVariables false

/-- What over tells and leaves: the number of writes, the error, the disk. -/
def ovr (n : Nat) (b : List UInt8) : DS → List (Bool × UInt32) → Nat → Nat × Int × DS
  | st, [], c => (c, 0, st)
  | st, (g, a) :: l, c => if g = true ∨ a = 0 then ovr n b st l c else if (st.writeE n (a.toNat : Int) b).1 = 0 then ovr n b (st.writeE n (a.toNat : Int) b).2 l (c + 1) else if (st.writeE n (a.toNat : Int) b).1 = 1 then ovr n b (st.writeE n (a.toNat : Int) b).2 l c else (0, (st.writeE n (a.toNat : Int) b).1, (st.writeE n (a.toNat : Int) b).2)
def ovG (st : DS) (n : Nat) (p : PT) : List (Bool × UInt32) := [(lkG st n p 0, p.a0), (lkG st n p 1, p.a1)]
theorem ovr_skip (n : Nat) (b : List UInt8) (st : DS) (g : Bool) (a : UInt32) (l : List (Bool × UInt32)) (c : Nat) (h : g = true ∨ a = 0) : ovr n b st ((g, a) :: l) c = ovr n b st l c := if_pos h
theorem ovr_do (n : Nat) (b : List UInt8) (st : DS) (g : Bool) (a : UInt32) (l : List (Bool × UInt32)) (c : Nat) (h1 : g = false) (h2 : a ≠ 0) : ovr n b st ((g, a) :: l) c = if (st.writeE n (a.toNat : Int) b).1 = 0 then ovr n b (st.writeE n (a.toNat : Int) b).2 l (c + 1) else if (st.writeE n (a.toNat : Int) b).1 = 1 then ovr n b (st.writeE n (a.toNat : Int) b).2 l c else (0, (st.writeE n (a.toNat : Int) b).1, (st.writeE n (a.toNat : Int) b).2) := if_neg (by simp [h1, h2])
section
variable {ρ : Operand → Value} {o : Oper} {w : World}
theorem xIdx2 (t : TypeId) (ht : Tryd.prog.underlying t = some (.array 2 30)) (x y : Operand) (ho : o.op = .index t x y) (a0 a1 : UInt32) (hx : ρ x = .agg #[u32 a0, u32 a1]) (i : Nat) (hy : ρ y = .int .i64 (i : Int)) (hi : i < 2) :
    (execOp ρ o).run Tryd.prog w = .ok (.value (.int .u32 ((if i = 0 then a0 else a1).toNat : Int))) w := by
  have h := exec_index (w := w) (EqT.int (P := Tryd.prog) (α := UInt32) 30 .u32 Tryd.underlying30 (size_of _ (by kernel_rfl)) (fun x => (x.toNat : Int))) t x y ho ht [a0, a1] (by rw [hx]; rfl) rfl i .i64 hy (by omega)
  rw [h]
  rcases i with _ | _ | i
  · rfl
  · rfl
  · omega
end
section
variable {bk bd bo bm : Nat} {vw : Value} {ss : List SVV} {t : UInt32} {st : DS} {u : List Bool}
set_option maxHeartbeats 3200000 in
theorem bOver_any (p : PT) (b : List UInt8) (vb : Value) (hk : BKok st u) (hws : st.ws.length + 2 ≤ 1000000) (hbl : b.length = 256) (w : World)
    (hD : SH (feet (bankL bk bd bo bm vw ss t st u)) w w (bankL bk bd bo bm vw ss t st u)) (hv : ∀ w', Chg (feet (bankL bk bd bo bm vw ss t st u)) w w' → RB w' vb b) :
    Calls Tryd.prog 73 #[.pointer (some ⟨bk, 0, none⟩), .agg p.cells.toArray, vb] w fun e w' => e = .returned (.tuple #[.int .i64 ((ovr u.length b st (ovG st u.length p) 0).1 : Int), .int .i64 (ovr u.length b st (ovG st u.length p) 0).2.1]) ∧ ∃ vw' ss', SH (feet (bankL bk bd bo bm vw ss t st u)) w w' (bankL bk bd bo bm vw' ss' t (ovr u.length b st (ovG st u.length p) 0).2.2 u) := by
  have hLK := fun W (k : HOLD (bankL bk bd bo bm vw ss t st u) W) => bLook_any p hk W k
  have HLK := Lib.hid hLK
  have HPL := Lib.hid p.len
  obtain ⟨F, hF⟩ : ∃ F, F = feet (bankL bk bd bo bm vw ss t st u) := ⟨_, rfl⟩
  rw [← hF] at hD hv ⊢
  obtain ⟨A0, c0, rfl, -⟩ := (hv w (Chg.refl _ _)).len
  have H := hD
  have HV := Lib.hid hv
  have HWR := Lib.hid (fun (i : Int) vw1 ss1 (st1 : DS) (q1 : st1.ok u.length) q2 W => diskWrite_any bd bo u.length i vw1 (.slice A0 256 c0) ss1 st1 b q1 q2 hbl W)
  have HOK : Hid (st.ok u.length ∧ (-1 ≤ st.lets ∧ st.lets ≤ 9223372036854775807) ∧ st.ws.length ≤ st.ws.length + 0) := Lib.hid ⟨hk.d, hk.lets, Nat.le_refl _⟩
  have HWS := Lib.hid hws
  rw [hbl] at HV ⊢
  have hg : ovG st u.length p = [(lkG st u.length p 0, p.a0), (lkG st u.length p 1, p.a1)] := rfl
  have HP33 := Lib.hid (show (p.cells.drop 33).take 2 = [u32 p.a0, u32 p.a1] by rw [PT.drop33]; rfl)
  have HA := Lib.hid (fun i => (show (if i = 0 then p.a0 else p.a1) = p.at_ i from rfl))
  generalize lkG st u.length p 0 = g0 at *
  generalize lkG st u.length p 1 = g1 at *
  generalize ovG st u.length p = G at *
  have HG := Lib.hid hg
  obtain ⟨R, hR⟩ : ∃ R, R = ovr u.length b st G 0 := ⟨_, rfl⟩
  rw [← hR]
  have HR := Lib.hid hR
  clear hF hD hv hLK hk hws hbl hg hR
  unfold bankL at H HLK ⊢
  go_enter Tryd.func73, Tryd.ntmps73
  go_wp2_with (first
    | ((with_reducible refine gDst 16 ?_); refine aLoad H _ rfl rfl (part_all HPL.out) HPL.out rfl ?_)
    | ((with_reducible refine gDst 21 ?_); refine aLoad H _ rfl rfl HP33.out rfl rfl ?_)
    | (go_at_call 21; refine (HLK.out _ (HOLD.suf H.hold)).mono ?_; rintro e w' ⟨rfl, hb⟩; replace H := H.step hb; clear hb)
    | ((with_reducible refine gDst 4 ?_); refine aBox H _ rfl rfl rfl ?_; clear H; intro b4 w4 H)
    | ((with_reducible refine gDst 8 ?_); refine aAlloc H rfl rfl ?_; clear H; intro b8 w8 H)
    | ((with_reducible refine gLoad ?_); first | (refine aLoad1 H _ rfl rfl (by first | exact (rfl : _ = some (Value.int _ _)) | exact (rfl : _ = some (Value.slice _ _ _)) | exact (rfl : _ = some (Value.bool _)) | exact (rfl : _ = some (Value.string _)) | exact (rfl : _ = some (Value.pointer _)) | rfl | (simp [List.getElem?_append]; done)) rfl ?_) | (refine aLoadC _ rfl rfl (by assumption) rfl ?_) | (refine aLoad H _ rfl rfl (by first | exact part_all (by first | rfl | simp []) | (simp only [List.drop_succ_cons, List.drop_zero, List.take_succ_cons, List.take_zero]; rfl) | (simp [List.drop_append, List.take_append]; rfl)) (by first | rfl | simp []) rfl ?_))
    | ((with_reducible refine gStore ?_); (first | (refine aStore H _ _ rfl rfl rfl (by (first | exact ⟨rfl, rfl⟩ | exact ⟨by decide, rfl⟩ | (simp []; done) | (constructor <;> simp [] <;> omega))) (by first | rfl | simp [List.all_append, one_all]) rfl ?_) | (refine aLay H _ _ rfl rfl rfl (by (first | exact ⟨rfl, rfl⟩ | exact ⟨by decide, rfl⟩ | (simp []; done) | (constructor <;> simp [] <;> omega))) (by first | rfl | simp [List.all_append, one_all]) (by simp only [lay, List.take_succ_cons, List.take_zero, List.drop_succ_cons, List.drop_zero, List.nil_append, List.cons_append, List.length_cons, List.length_nil, Nat.zero_add, Nat.reduceAdd]; rfl) rfl ?_)); clear H; intro w' H; try dsimp only at H))
  have H2 := H
  clear H
  go_loopw [10, 22] (fun v10 v22 wr => ∃ (i cnt : Nat) (st1 : DS) (vw1 : Value) (ss1 : List SVV), v22 = .int .i64 (i : Int) ∧ i ≤ 2 ∧ v10 = .int .i64 (cnt : Int) ∧ cnt ≤ i ∧ Hid (ovr u.length b st G 0 = ovr u.length b st1 (G.drop i) cnt) ∧ Hid (st1.ok u.length ∧ (-1 ≤ st1.lets ∧ st1.lets ≤ 9223372036854775807) ∧ st1.ws.length ≤ st.ws.length + i) ∧ SH F w wr (.blk b8 44 [.bool g0, .bool g1] :: .blk b4 33 p.cells :: .blk bk 133 [.pointer (some ⟨bd, 0, none⟩), .pointer (some ⟨bm, 0, none⟩), .int .u32 (t.toNat : Int)] :: .blk bm 161 (mC u.length (wL u)) :: diskL bd bo vw1 ss1 st1)) (fun _ v _ => 2 - (intOf v).toNat)
  case atStart => exact ⟨0, 0, st, vw, ss, rfl, by omega, rfl, by omega, Lib.hid rfl, HOK, H2⟩
  case round =>
    obtain ⟨i, cnt, st1, vw1, ss1, rfl, hi, rfl, hcnt, HQ, HO1, HS1⟩ := hrel
    clear H2
    have H := HS1
    clear HS1
    by_cases h2 : i < 2
    · have hii : (i : Int) < 2 := by omega
      obtain ⟨g, hgc⟩ : ∃ g, g = if i = 0 then g0 else g1 := ⟨_, rfl⟩
      have hcell : ([.bool g0, .bool g1] : List Value)[i]? = some (.bool g) := by
        rw [hgc]
        rcases i with _ | _ | i
        · rfl
        · rfl
        · omega
      have hdrop : G.drop i = (g, p.at_ i) :: G.drop (i + 1) := by
        rw [hgc, HG.out]
        rcases i with _ | _ | i
        · rfl
        · rfl
        · omega
      have HGC := Lib.hid hcell
      rw [hdrop] at HQ
      generalize hA : p.at_ i = a at *
      have HA := Lib.hid (show (if i = 0 then p.a0 else p.a1) = a from hA)
      have hab : a.toNat < 4294967296 := UInt32.toNat_lt a
      have haw : IntKind.i64.wrap (a.toNat : Int) = (a.toNat : Int) := i64w _ (by omega) (by omega)
      have hok1 := DS.ok_writeE HO1.out.1 (by have := HO1.out.2.2; have := HWS.out; omega) (a.toNat : Int) b
      have hlt1 := DS.lets_writeE (n := u.length) HO1.out.2.1 (a.toNat : Int) b
      have hln1 := DS.len_writeE st1 u.length (a.toNat : Int) b
      have hln2 := HO1.out.2.2
      have HW := Lib.hid (HWR.out (a.toNat : Int) vw1 ss1 st1 HO1.out.1 HO1.out.2.1)
      clear hgc hcell hdrop hA
      cases g with
      | true =>
        have HQ' := Lib.hid (HQ.out.trans (ovr_skip _ _ _ _ _ _ _ (.inl rfl)))
        have HO2 : Hid (st1.ok u.length ∧ (-1 ≤ st1.lets ∧ st1.lets ≤ 9223372036854775807) ∧ st1.ws.length ≤ st.ws.length + (i + 1)) := Lib.hid ⟨HO1.out.1, HO1.out.2.1, by omega⟩
        clear hok1 hlt1 hln1 hln2
        go_wp2_with (first
          | ((with_reducible refine gDst 25 ?_); refine stepV (xIdx2 31 Tryd.underlying31 _ _ rfl _ _ rfl i rfl h2) rfl ?_; rw [HA.out])
          | ((with_reducible refine gDst 28 ?_); refine aLoad1 H _ rfl rfl HGC.out rfl ?_)
          | (go_at_call 65; refine (HW.out _ (H.subS (D := diskL bd bo vw1 ss1 st1)) (fun w2 hc2 => HV.out _ (H.chgS (D := diskL bd bo vw1 ss1 st1) hc2))).mono ?_; rintro e w' ⟨rfl, vw2, ss2, k2⟩; replace H := H.viaS k2; (try dsimp only at H); clear k2)
          | ((with_reducible refine gDst 4 ?_); refine aBox H _ rfl rfl rfl ?_; clear H; intro b4 w4 H)
          | ((with_reducible refine gDst 8 ?_); refine aAlloc H rfl rfl ?_; clear H; intro b8 w8 H)
          | ((with_reducible refine gLoad ?_); first | (refine aLoad1 H _ rfl rfl (by first | exact (rfl : _ = some (Value.int _ _)) | exact (rfl : _ = some (Value.slice _ _ _)) | exact (rfl : _ = some (Value.bool _)) | exact (rfl : _ = some (Value.string _)) | exact (rfl : _ = some (Value.pointer _)) | rfl | (simp [List.getElem?_append]; done)) rfl ?_) | (refine aLoadC _ rfl rfl (by assumption) rfl ?_) | (refine aLoad H _ rfl rfl (by first | exact part_all (by first | rfl | simp []) | (simp only [List.drop_succ_cons, List.drop_zero, List.take_succ_cons, List.take_zero]; rfl) | (simp [List.drop_append, List.take_append]; rfl)) (by first | rfl | simp []) rfl ?_))
          | ((with_reducible refine gStore ?_); (first | (refine aStore H _ _ rfl rfl rfl (by (first | exact ⟨rfl, rfl⟩ | exact ⟨by decide, rfl⟩ | (simp []; done) | (constructor <;> simp [] <;> omega))) (by first | rfl | simp [List.all_append, one_all]) rfl ?_) | (refine aLay H _ _ rfl rfl rfl (by (first | exact ⟨rfl, rfl⟩ | exact ⟨by decide, rfl⟩ | (simp []; done) | (constructor <;> simp [] <;> omega))) (by first | rfl | simp [List.all_append, one_all]) (by simp only [lay, List.take_succ_cons, List.take_zero, List.drop_succ_cons, List.drop_zero, List.nil_append, List.cons_append, List.length_cons, List.length_nil, Nat.zero_add, Nat.reduceAdd]; rfl) rfl ?_)); clear H; intro w' H; try dsimp only at H))
        go_roundw
        case rel => exact ⟨i + 1, cnt, st1, vw1, ss1, by go_num, by omega, rfl, by omega, HQ', HO2, H⟩
        case measure => simp [intOf] <;> omega
      | false =>
        by_cases h0 : a = 0
        · subst h0
          have HQ' := Lib.hid (HQ.out.trans (ovr_skip _ _ _ _ _ _ _ (.inr rfl)))
          have HO2 : Hid (st1.ok u.length ∧ (-1 ≤ st1.lets ∧ st1.lets ≤ 9223372036854775807) ∧ st1.ws.length ≤ st.ws.length + (i + 1)) := Lib.hid ⟨HO1.out.1, HO1.out.2.1, by omega⟩
          have e00 : (((0 : UInt32).toNat : Int) == 0) = true := rfl
          clear hok1 hlt1 hln1 hln2
          go_wp2_with (first
            | ((with_reducible refine gDst 25 ?_); refine stepV (xIdx2 31 Tryd.underlying31 _ _ rfl _ _ rfl i rfl h2) rfl ?_; rw [HA.out])
            | ((with_reducible refine gDst 28 ?_); refine aLoad1 H _ rfl rfl HGC.out rfl ?_)
            | (go_at_call 65; refine (HW.out _ (H.subS (D := diskL bd bo vw1 ss1 st1)) (fun w2 hc2 => HV.out _ (H.chgS (D := diskL bd bo vw1 ss1 st1) hc2))).mono ?_; rintro e w' ⟨rfl, vw2, ss2, k2⟩; replace H := H.viaS k2; (try dsimp only at H); clear k2)
            | ((with_reducible refine gDst 4 ?_); refine aBox H _ rfl rfl rfl ?_; clear H; intro b4 w4 H)
            | ((with_reducible refine gDst 8 ?_); refine aAlloc H rfl rfl ?_; clear H; intro b8 w8 H)
            | ((with_reducible refine gLoad ?_); first | (refine aLoad1 H _ rfl rfl (by first | exact (rfl : _ = some (Value.int _ _)) | exact (rfl : _ = some (Value.slice _ _ _)) | exact (rfl : _ = some (Value.bool _)) | exact (rfl : _ = some (Value.string _)) | exact (rfl : _ = some (Value.pointer _)) | rfl | (simp [List.getElem?_append]; done)) rfl ?_) | (refine aLoadC _ rfl rfl (by assumption) rfl ?_) | (refine aLoad H _ rfl rfl (by first | exact part_all (by first | rfl | simp []) | (simp only [List.drop_succ_cons, List.drop_zero, List.take_succ_cons, List.take_zero]; rfl) | (simp [List.drop_append, List.take_append]; rfl)) (by first | rfl | simp []) rfl ?_))
            | ((with_reducible refine gStore ?_); (first | (refine aStore H _ _ rfl rfl rfl (by (first | exact ⟨rfl, rfl⟩ | exact ⟨by decide, rfl⟩ | (simp []; done) | (constructor <;> simp [] <;> omega))) (by first | rfl | simp [List.all_append, one_all]) rfl ?_) | (refine aLay H _ _ rfl rfl rfl (by (first | exact ⟨rfl, rfl⟩ | exact ⟨by decide, rfl⟩ | (simp []; done) | (constructor <;> simp [] <;> omega))) (by first | rfl | simp [List.all_append, one_all]) (by simp only [lay, List.take_succ_cons, List.take_zero, List.drop_succ_cons, List.drop_zero, List.nil_append, List.cons_append, List.length_cons, List.length_nil, Nat.zero_add, Nat.reduceAdd]; rfl) rfl ?_)); clear H; intro w' H; try dsimp only at H))
          go_roundw
          case rel => exact ⟨i + 1, cnt, st1, vw1, ss1, by go_num, by omega, rfl, by omega, HQ', HO2, H⟩
          case measure => simp [intOf] <;> omega
        · have h0i : ((a.toNat : Int) == 0) = false := beq_eq_false_iff_ne.2 (fun h => h0 (UInt32.toNat_inj.1 (by rw [UInt32.toNat_zero]; omega)))
          have hdo := HQ.out.trans (ovr_do u.length b st1 false a (G.drop (i + 1)) cnt rfl h0)
          generalize st1.writeE u.length (a.toNat : Int) b = WE at *
          obtain ⟨E, st2⟩ := WE
          simp only at hdo hok1 hlt1 hln1 HW
          have HO2 : Hid (st2.ok u.length ∧ (-1 ≤ st2.lets ∧ st2.lets ≤ 9223372036854775807) ∧ st2.ws.length ≤ st.ws.length + (i + 1)) := Lib.hid ⟨hok1, hlt1, by omega⟩
          clear hok1 hlt1 hln1 hln2 h0
          by_cases hE : E = 0
          · subst hE
            have HQ' := Lib.hid (hdo.trans (if_pos rfl))
            clear hdo
            go_wp2_with (first
              | ((with_reducible refine gDst 25 ?_); refine stepV (xIdx2 31 Tryd.underlying31 _ _ rfl _ _ rfl i rfl h2) rfl ?_; rw [HA.out])
              | ((with_reducible refine gDst 28 ?_); refine aLoad1 H _ rfl rfl HGC.out rfl ?_)
              | (go_at_call 65; refine (HW.out _ (H.subS (D := diskL bd bo vw1 ss1 st1)) (fun w2 hc2 => HV.out _ (H.chgS (D := diskL bd bo vw1 ss1 st1) hc2))).mono ?_; rintro e w' ⟨rfl, vw2, ss2, k2⟩; replace H := H.viaS k2; (try dsimp only at H); clear k2)
              | ((with_reducible refine gDst 4 ?_); refine aBox H _ rfl rfl rfl ?_; clear H; intro b4 w4 H)
              | ((with_reducible refine gDst 8 ?_); refine aAlloc H rfl rfl ?_; clear H; intro b8 w8 H)
              | ((with_reducible refine gLoad ?_); first | (refine aLoad1 H _ rfl rfl (by first | exact (rfl : _ = some (Value.int _ _)) | exact (rfl : _ = some (Value.slice _ _ _)) | exact (rfl : _ = some (Value.bool _)) | exact (rfl : _ = some (Value.string _)) | exact (rfl : _ = some (Value.pointer _)) | rfl | (simp [List.getElem?_append]; done)) rfl ?_) | (refine aLoadC _ rfl rfl (by assumption) rfl ?_) | (refine aLoad H _ rfl rfl (by first | exact part_all (by first | rfl | simp []) | (simp only [List.drop_succ_cons, List.drop_zero, List.take_succ_cons, List.take_zero]; rfl) | (simp [List.drop_append, List.take_append]; rfl)) (by first | rfl | simp []) rfl ?_))
              | ((with_reducible refine gStore ?_); (first | (refine aStore H _ _ rfl rfl rfl (by (first | exact ⟨rfl, rfl⟩ | exact ⟨by decide, rfl⟩ | (simp []; done) | (constructor <;> simp [] <;> omega))) (by first | rfl | simp [List.all_append, one_all]) rfl ?_) | (refine aLay H _ _ rfl rfl rfl (by (first | exact ⟨rfl, rfl⟩ | exact ⟨by decide, rfl⟩ | (simp []; done) | (constructor <;> simp [] <;> omega))) (by first | rfl | simp [List.all_append, one_all]) (by simp only [lay, List.take_succ_cons, List.take_zero, List.drop_succ_cons, List.drop_zero, List.nil_append, List.cons_append, List.length_cons, List.length_nil, Nat.zero_add, Nat.reduceAdd]; rfl) rfl ?_)); clear H; intro w' H; try dsimp only at H))
            go_roundw
            case rel => exact ⟨i + 1, cnt + 1, st2, vw2, ss2, by go_num, by omega, by go_num, by omega, HQ', HO2, H⟩
            case measure => simp [intOf] <;> omega
          · by_cases hE1 : E = 1
            · subst hE1
              have HQ' := Lib.hid (hdo.trans ((if_neg (by decide)).trans (if_pos rfl)))
              clear hdo hE
              go_wp2_with (first
                | ((with_reducible refine gDst 25 ?_); refine stepV (xIdx2 31 Tryd.underlying31 _ _ rfl _ _ rfl i rfl h2) rfl ?_; rw [HA.out])
                | ((with_reducible refine gDst 28 ?_); refine aLoad1 H _ rfl rfl HGC.out rfl ?_)
                | (go_at_call 65; refine (HW.out _ (H.subS (D := diskL bd bo vw1 ss1 st1)) (fun w2 hc2 => HV.out _ (H.chgS (D := diskL bd bo vw1 ss1 st1) hc2))).mono ?_; rintro e w' ⟨rfl, vw2, ss2, k2⟩; replace H := H.viaS k2; (try dsimp only at H); clear k2)
                | ((with_reducible refine gDst 4 ?_); refine aBox H _ rfl rfl rfl ?_; clear H; intro b4 w4 H)
                | ((with_reducible refine gDst 8 ?_); refine aAlloc H rfl rfl ?_; clear H; intro b8 w8 H)
                | ((with_reducible refine gLoad ?_); first | (refine aLoad1 H _ rfl rfl (by first | exact (rfl : _ = some (Value.int _ _)) | exact (rfl : _ = some (Value.slice _ _ _)) | exact (rfl : _ = some (Value.bool _)) | exact (rfl : _ = some (Value.string _)) | exact (rfl : _ = some (Value.pointer _)) | rfl | (simp [List.getElem?_append]; done)) rfl ?_) | (refine aLoadC _ rfl rfl (by assumption) rfl ?_) | (refine aLoad H _ rfl rfl (by first | exact part_all (by first | rfl | simp []) | (simp only [List.drop_succ_cons, List.drop_zero, List.take_succ_cons, List.take_zero]; rfl) | (simp [List.drop_append, List.take_append]; rfl)) (by first | rfl | simp []) rfl ?_))
                | ((with_reducible refine gStore ?_); (first | (refine aStore H _ _ rfl rfl rfl (by (first | exact ⟨rfl, rfl⟩ | exact ⟨by decide, rfl⟩ | (simp []; done) | (constructor <;> simp [] <;> omega))) (by first | rfl | simp [List.all_append, one_all]) rfl ?_) | (refine aLay H _ _ rfl rfl rfl (by (first | exact ⟨rfl, rfl⟩ | exact ⟨by decide, rfl⟩ | (simp []; done) | (constructor <;> simp [] <;> omega))) (by first | rfl | simp [List.all_append, one_all]) (by simp only [lay, List.take_succ_cons, List.take_zero, List.drop_succ_cons, List.drop_zero, List.nil_append, List.cons_append, List.length_cons, List.length_nil, Nat.zero_add, Nat.reduceAdd]; rfl) rfl ?_)); clear H; intro w' H; try dsimp only at H))
              go_roundw
              case rel => exact ⟨i + 1, cnt, st2, vw2, ss2, by go_num, by omega, rfl, by omega, HQ', HO2, H⟩
              case measure => simp [intOf] <;> omega
            · have hRR : R = (0, E, st2) := HR.out.trans (hdo.trans ((if_neg hE).trans (if_neg hE1)))
              have HRR := Lib.hid hRR
              have e0 : (E == 0) = false := beq_eq_false_iff_ne.2 hE
              have e1 : (E == 1) = false := beq_eq_false_iff_ne.2 hE1
              clear hdo hRR hE hE1
              go_wp2_with (first
                | ((with_reducible refine gDst 25 ?_); refine stepV (xIdx2 31 Tryd.underlying31 _ _ rfl _ _ rfl i rfl h2) rfl ?_; rw [HA.out])
                | ((with_reducible refine gDst 28 ?_); refine aLoad1 H _ rfl rfl HGC.out rfl ?_)
                | (go_at_call 65; refine (HW.out _ (H.subS (D := diskL bd bo vw1 ss1 st1)) (fun w2 hc2 => HV.out _ (H.chgS (D := diskL bd bo vw1 ss1 st1) hc2))).mono ?_; rintro e w' ⟨rfl, vw2, ss2, k2⟩; replace H := H.viaS k2; (try dsimp only at H); clear k2)
                | ((with_reducible refine gDst 4 ?_); refine aBox H _ rfl rfl rfl ?_; clear H; intro b4 w4 H)
                | ((with_reducible refine gDst 8 ?_); refine aAlloc H rfl rfl ?_; clear H; intro b8 w8 H)
                | ((with_reducible refine gLoad ?_); first | (refine aLoad1 H _ rfl rfl (by first | exact (rfl : _ = some (Value.int _ _)) | exact (rfl : _ = some (Value.slice _ _ _)) | exact (rfl : _ = some (Value.bool _)) | exact (rfl : _ = some (Value.string _)) | exact (rfl : _ = some (Value.pointer _)) | rfl | (simp [List.getElem?_append]; done)) rfl ?_) | (refine aLoadC _ rfl rfl (by assumption) rfl ?_) | (refine aLoad H _ rfl rfl (by first | exact part_all (by first | rfl | simp []) | (simp only [List.drop_succ_cons, List.drop_zero, List.take_succ_cons, List.take_zero]; rfl) | (simp [List.drop_append, List.take_append]; rfl)) (by first | rfl | simp []) rfl ?_))
                | ((with_reducible refine gStore ?_); (first | (refine aStore H _ _ rfl rfl rfl (by (first | exact ⟨rfl, rfl⟩ | exact ⟨by decide, rfl⟩ | (simp []; done) | (constructor <;> simp [] <;> omega))) (by first | rfl | simp [List.all_append, one_all]) rfl ?_) | (refine aLay H _ _ rfl rfl rfl (by (first | exact ⟨rfl, rfl⟩ | exact ⟨by decide, rfl⟩ | (simp []; done) | (constructor <;> simp [] <;> omega))) (by first | rfl | simp [List.all_append, one_all]) (by simp only [lay, List.take_succ_cons, List.take_zero, List.drop_succ_cons, List.drop_zero, List.nil_append, List.cons_append, List.length_cons, List.length_nil, Nat.zero_add, Nat.reduceAdd]; rfl) rfl ?_)); clear H; intro w' H; try dsimp only at H))
              go_ret2
              rw [HRR.out]
              exact ⟨rfl, vw2, ss2, H.tail.tail⟩
    · obtain rfl : i = 2 := by omega
      have hd : G.drop 2 = [] := by rw [HG.out]; rfl
      have hRR : R = (cnt, 0, st1) := by rw [HR.out, HQ.out, hd]; rfl
      have HRR := Lib.hid hRR
      clear hd hRR
      go_wp2
      go_ret2
      rw [HRR.out]
      exact ⟨rfl, vw1, ss1, H.tail.tail⟩
end
end Go.Proofs.YticfcelbnkiopaaDoor
