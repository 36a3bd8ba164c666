/- Layer 26: the reference's Pick. -/
import Derived.Test.YtfnneneaalaagaaMx14
namespace Go.Proofs.Ytfnneneaalaagaa
open Go.RowKit
set_option linter.unusedSimpArgs false
set_option linter.unusedVariables false

theorem rowq_map {l : List UInt8} {c q : Nat} (h : (q + 1) * c ≤ l.length) : rowq l c q = (List.range c).map fun j => l.getD (q * c + j) 0 := by
  refine List.ext_getElem (by rw [rowq_len h, List.length_map, List.length_range]) fun j h1 h2 => ?_
  rw [List.length_map, List.length_range] at h2
  rw [Nat.add_mul, Nat.one_mul] at h
  simp only [rowq, List.getElem_take, List.getElem_drop, List.getElem_map, List.getElem_range]
  rw [List.getD_eq_getElem?_getD, List.getElem?_eq_getElem (by omega)]
  rfl
def PickPost (T : AT Try.prog MX) (w : World) (l : List UInt8) (r c : Nat) (rs : List Int) (e : Ending) (w' : World) : Prop :=
  (rs.any (badRow (r : Int)) = false ∧ GivesMx T w rs.length c (pickL l c rs) 0 e w') ∨ (rs.any (badRow (r : Int)) = true ∧ e = .returned (.tuple #[.agg (T.enc T.zero).toArray, .int .i64 1]) ∧ Below w.heap.size w w')
def relQ (l : List UInt8) (rs : List Int) (r c : Nat) (m : MX) (w : World) (bm br b0 : Nat) (v7 : Value) (wr : World) : Prop := ∃ (i : Nat) (cur : List UInt8) (A : Option Addr) (cp : Nat), v7 = .int .i64 (i : Int) ∧ i ≤ rs.length ∧ Hid (cur = pickL l c (rs.take i)) ∧ Hid ((rs.take i).any (badRow (r : Int)) = false) ∧ SH Nil w wr [.row B8 (.slice A cur.length cp) cur, .blk bm 38 (mxC ((rs.length : Int), (c : Int), A, cur.length, cp)), .blk br 38 (mxC (0, 0, none, 0, 0)), .blk b0 38 (mxC m)]
def relQI (l : List UInt8) (rs : List Int) (i q c : Nat) (m : MX) (w : World) (bm br b0 : Nat) (v8 : Value) (wr : World) : Prop := ∃ (j : Nat) (cur : List UInt8) (A : Option Addr) (cp : Nat), v8 = .int .i64 (j : Int) ∧ j ≤ c ∧ Hid (cur = pickL l c (rs.take i) ++ (List.range j).map fun j => l.getD (q * c + j) 0) ∧ SH Nil w wr [.row B8 (.slice A cur.length cp) cur, .blk bm 38 (mxC ((rs.length : Int), (c : Int), A, cur.length, cp)), .blk br 38 (mxC (0, 0, none, 0, 0)), .blk b0 38 (mxC m)]
def SQ (bm b0 : Nat) (m1 m0 : MX) (a : Addr) (x : Int) (w' : World) : Prop := VA w' bm 38 (mxC m1) ∧ VA w' b0 38 (mxC m0) ∧ w'.cell? a = some (.int .i64 x)
theorem SQ.below {bm b0 : Nat} {m1 m0 : MX} {a : Addr} {x : Int} {w w' : World} (h : SQ bm b0 m1 m0 a x w) (hb : Below w.heap.size w w') : SQ bm b0 m1 m0 a x w' := ⟨VA.below h.1 hb, VA.below h.2.1 hb, cell_below hb h.2.2⟩
set_option maxHeartbeats 3200000 in
set_option maxRecDepth 100000 in
theorem rPick_main (l : List UInt8) (r c n : Nat) (A0 : Option Addr) (cp0 : Nat) (vr : Value) (rs : List Int) (w : World) (hr1 : 1 ≤ r) (hr2 : r ≤ 32) (hc1 : 1 ≤ c) (hc2 : c ≤ 32) (hn : n = r * c) (hl : l.length = n) (hv : RB w (.slice A0 n cp0) l) (hcp : n ≤ cp0)
    (hvr : RI w vr rs) (hs1 : 1 ≤ rs.length) (hs2 : rs.length ≤ 32) :
    Calls Try.prog 22 #[.agg (rxT.enc ((r : Int), (c : Int), A0, n, cp0)).toArray, vr] w fun e w' => PickPost rxT w l r c rs e w' := by
  have H0 := SH.start Nil w
  have hnc : n ≤ 32 * 32 := by rw [hn]; exact Nat.mul_le_mul hr2 hc2
  have hpos : 0 < n := by rw [hn]; exact Nat.mul_pos (by omega) (by omega)
  obtain ⟨ad, rfl, -⟩ := id (hv.byte (by omega))
  have hmay : mayB (r : Int) (c : Int) n = true := by
    rw [mayB, if_pos ((sizeB_iff _).2 (by omega)), if_pos ((sizeB_iff _).2 (by omega)), hn]
    exact beq_iff_eq.mpr (by push_cast; rfl)
  have cM : ∀ W, Calls Try.prog 38 #[.agg (rxT.enc ((r : Int), (c : Int), some ad, n, cp0)).toArray] W fun e w' => e = .returned (.bool true) ∧ Below W.heap.size W w' := fun W => by rw [← hmay]; exact rMay_any _ _ _ _ _ W
  have cA : ∀ W, Below w.heap.size w W → ∀ q j, q < r → j < c → Calls Try.prog 52 #[.agg (rxT.enc ((r : Int), (c : Int), some ad, n, cp0)).toArray, .int .i64 (q : Int), .int .i64 (j : Int)] W fun e w' => e = .returned (.int .u8 ((l.getD (q * c + j) 0).toNat : Int)) ∧ Below W.heap.size W w' := fun W hb q j hq hj => by
    have h1 : (q + 1) * c ≤ r * c := Nat.mul_le_mul_right c hq
    rw [Nat.add_mul, Nat.one_mul] at h1
    exact rat_any l r c q j (some ad) n cp0 W (hv.below hb) hl (by omega) (by omega) (by omega) (by omega) (by omega)
  have hrow : ∀ q, q < r → rowq l c q = (List.range c).map fun j => l.getD (q * c + j) 0 := fun q hq => rowq_map (by rw [hl, hn]; exact Nat.mul_le_mul_right c hq)
  have hel : ∀ i, i < rs.length → ∃ (adr : Addr), w.cell? (adr.add i) = some (.int .i64 (rs.getD i 0)) ∧ ∃ cr, vr = .slice (some adr) rs.length cr := fun i hi => by
    obtain ⟨A2, c2, e, _⟩ := id hvr
    subst e
    obtain ⟨adr, rfl, hcl⟩ := RI.byte hvr i hi
    exact ⟨adr, hcl, _, rfl⟩
  have hany : ∀ i, i < rs.length → (rs.take (i + 1)).any (badRow (r : Int)) = ((rs.take i).any (badRow (r : Int)) || badRow (r : Int) (rs.getD i 0)) := fun i hi => by
    rw [List.take_add_one, List.any_append, List.getElem?_eq_getElem hi, List.getD_eq_getElem?_getD, List.getElem?_eq_getElem hi]
    simp
  have hall : ∀ i, i < rs.length → badRow (r : Int) (rs.getD i 0) = true → rs.any (badRow (r : Int)) = true := fun i hi h => by
    rw [List.any_eq_true]
    exact ⟨_, by rw [List.getD_eq_getElem?_getD, List.getElem?_eq_getElem hi]; exact List.getElem_mem hi, h⟩
  have hlen : ∀ i, i ≤ rs.length → (rs.take i).any (badRow (r : Int)) = false → (pickL l c (rs.take i)).length ≤ 2000 := fun i hi hb => by
    rw [pickL_len l c r (by rw [hl, hn]) _ hb, List.length_take]
    have := Nat.mul_le_mul (show min i rs.length ≤ 32 by omega) hc2
    omega
  obtain ⟨Ar, cr, hvre, -⟩ := id hvr
  have HA := Lib.hid cA
  have HROW := Lib.hid hrow
  have HEL := Lib.hid hel
  have HLEN := Lib.hid hlen
  have HANY := Lib.hid hany
  have HALL := Lib.hid hall
  have HPT := Lib.hid (pickL_take l c rs)
  have hsi : (rs.length : Int) ≤ 32 := by omega
  have d1 : decide ((rs.length : Int) < 1) = false := by simp; omega
  have d2 : decide ((32 : Int) < (rs.length : Int)) = false := by simp; omega
  clear cA hrow hel hlen hany hall hv hvr hmay hn hl
  subst hvre
  go_enter Try.func22, Try.ntmps22
  go_wp2_with (first
    | ((with_reducible refine gAlloc ?_); refine wVar rxT ((rs.length : Int), (c : Int), none, 0, 0) H3 rfl 6 _ rfl rfl rfl rfl rfl ?_; clear H3; intro w4 H4)
    | ((with_reducible refine gBox ?_); refine wBox rxT ((r : Int), (c : Int), some ad, n, cp0) H0 _ rfl rfl rfl ?_; clear H0; intro w1 H1)
    | ((with_reducible refine gAlloc ?_); refine wAlloc rxT H1 rfl rfl ?_; clear H1; intro w2 H2)
    | ((with_reducible refine gLoad ?_); refine wLoad rxT ((r : Int), (c : Int), some ad, n, cp0) H2 1 rfl rfl _ rfl rfl rfl ?_)
    | (go_at_call 38; (with_reducible refine (cM _).mono ?_); rintro e w3 ⟨rfl, hb⟩; have H3 := H2.step hb; clear H2 hb; have k1 : w3.cell? ⟨w.heap.size, 1, none⟩ = some (.int .i64 (c : Int)) := (H3.va 1 rfl).cell 1))
  clear k1
  go_loopw [7] (fun v7 wr => relQ l rs r c ((r : Int), (c : Int), some ad, n, cp0) w w3.heap.size w1.heap.size w.heap.size v7 wr) (fun v _ => rs.length - (intOf v).toNat)
  case atStart => exact ⟨0, [], none, 0, rfl, by omega, by rfl, by rfl, H4.nilRow B8⟩
  case round =>
    obtain ⟨i, cur, A, cp, rfl, hi, HCU, HB, HS⟩ := hrel
    clear H4
    by_cases him : i < rs.length
    · have hii : (i : Int) < (rs.length : Int) := by omega
      obtain ⟨adr, hcl, cr', hvre⟩ := HEL.out i him
      injection hvre with hv1 hv2 hv3
      subst hv1
      subst hv3
      have HALLi := HALL.out i him
      have HANYi := HANY.out i him
      have hst := HPT.out i him
      have hcul := HLEN.out i hi HB.out
      have HCL := Lib.hid (cell_below HS.below hcl)
      have HCW := Lib.hid hcl
      generalize rs.getD i 0 = x at HCL HCW HALLi HANYi hst
      by_cases hx0 : x < 0
      · have e1 : decide (x < 0) = true := by simpa using hx0
        have HALL2 := HALLi (by simp [badRow, e1])
        have H := HS.drew
        have HS0 : SQ w3.heap.size w.heap.size ((rs.length : Int), (c : Int), A, cur.length, cp) ((r : Int), (c : Int), some ad, n, cp0) (adr.add i) x wr.drew := ⟨H.va 1 rfl, H.va 3 rfl, HCL.out⟩
        clear hcl HS
        go_wp2
        refine startS (SQ w3.heap.size w.heap.size ((rs.length : Int), (c : Int), A, cur.length, cp) ((r : Int), (c : Int), some ad, n, cp0) (adr.add i) x) (by kernel_rfl) HS0 ?_
        refine takeS 0 HS0 rfl (by kernel_rfl) (by kernel_rfl) (by kernel_rfl) (fun _ _ _ h => h) rfl (v := ?_) ?_ ?_
        rotate_left
        · intro w' hw'; clear hw'; go_simp; (try with_reducible rfl)
        (try simp only [Act.put, List.setIfInBounds_toArray, List.set_cons_zero, List.set_cons_succ])
        refine takeS 1 HS0 rfl (by kernel_rfl) (by kernel_rfl) (by kernel_rfl) (fun _ _ _ h => h) rfl (v := ?_) ?_ ?_
        rotate_left
        · intro w' hw'; clear hw'; go_simp; (try with_reducible rfl)
        (try simp only [Act.put, List.setIfInBounds_toArray, List.set_cons_zero, List.set_cons_succ])
        refine takeS 2 HS0 rfl (by kernel_rfl) (by kernel_rfl) (by kernel_rfl) (fun _ _ _ h => h) rfl (v := ?_) ?_ ?_
        rotate_left
        · intro w' hw'; clear hw'; go_simp; (try with_reducible rfl)
        (try simp only [Act.put, List.setIfInBounds_toArray, List.set_cons_zero, List.set_cons_succ])
        refine takeS 3 HS0 rfl (by kernel_rfl) (by kernel_rfl) (by kernel_rfl) (fun _ _ _ h => h) rfl (v := ?_) ?_ ?_
        rotate_left
        · intro w' hw'; have k5 := hw'.2.2; clear hw'; go_simp; (try with_reducible rfl)
        (try simp only [Act.put, List.setIfInBounds_toArray, List.set_cons_zero, List.set_cons_succ])
        refine takeS 4 HS0 rfl (by kernel_rfl) (by kernel_rfl) (by kernel_rfl) (fun _ _ _ h => h) rfl (v := ?_) ?_ ?_
        rotate_left
        · intro w' hw'; clear hw'; go_simp; (try with_reducible rfl)
        (try simp only [Act.put, List.setIfInBounds_toArray, List.set_cons_zero, List.set_cons_succ])
        refine takeS 5 HS0 rfl (by kernel_rfl) (by kernel_rfl) (by kernel_rfl) (fun _ _ _ h => h) rfl (v := ?_) ?_ ?_
        rotate_left
        · intro w' hw'; clear hw'; go_simp; (try with_reducible rfl)
        (try simp only [Act.put, List.setIfInBounds_toArray, List.set_cons_zero, List.set_cons_succ])
        refine skipS 6 HS0 rfl (by kernel_rfl) (by kernel_rfl) (by kernel_rfl) (fun _ _ _ h => h) rfl ?_
        (try simp only [Act.put, List.setIfInBounds_toArray, List.set_cons_zero, List.set_cons_succ])
        refine skipS 7 HS0 rfl (by kernel_rfl) (by kernel_rfl) (by kernel_rfl) (fun _ _ _ h => h) rfl ?_
        (try simp only [Act.put, List.setIfInBounds_toArray, List.set_cons_zero, List.set_cons_succ])
        refine skipS 8 HS0 rfl (by kernel_rfl) (by kernel_rfl) (by kernel_rfl) (fun _ _ _ h => h) rfl ?_
        (try simp only [Act.put, List.setIfInBounds_toArray, List.set_cons_zero, List.set_cons_succ])
        refine skipS 9 HS0 rfl (by kernel_rfl) (by kernel_rfl) (by kernel_rfl) (fun _ _ _ h => h) rfl ?_
        (try simp only [Act.put, List.setIfInBounds_toArray, List.set_cons_zero, List.set_cons_succ])
        refine skipS 10 HS0 rfl (by kernel_rfl) (by kernel_rfl) (by kernel_rfl) (fun _ _ _ h => h) rfl ?_
        (try simp only [Act.put, List.setIfInBounds_toArray, List.set_cons_zero, List.set_cons_succ])
        refine skipS 11 HS0 rfl (by kernel_rfl) (by kernel_rfl) (by kernel_rfl) (fun _ _ _ h => h) rfl ?_
        (try simp only [Act.put, List.setIfInBounds_toArray, List.set_cons_zero, List.set_cons_succ])
        refine skipS 12 HS0 rfl (by kernel_rfl) (by kernel_rfl) (by kernel_rfl) (fun _ _ _ h => h) rfl ?_
        (try simp only [Act.put, List.setIfInBounds_toArray, List.set_cons_zero, List.set_cons_succ])
        refine takeS 13 HS0 rfl (by kernel_rfl) (by kernel_rfl) (by kernel_rfl) (fun _ _ _ h => h) rfl (v := ?_) ?_ ?_
        rotate_left
        · intro w' hw'; clear hw'; go_simp; (try with_reducible rfl)
        (try simp only [Act.put, List.setIfInBounds_toArray, List.set_cons_zero, List.set_cons_succ])
        refine doneS (by kernel_rfl) ?_
        go_wp2_with (first
          | ((with_reducible refine gBuild ?_); refine wZero rxT rfl rfl ?_)
          | ((with_reducible refine gStore ?_); refine wStore rxT rxT.zero H 2 rfl rfl _ _ rfl rfl rfl rfl ?_; clear H; intro w5 H5))
        refine bodyPost_ret (results_cell_tmp rfl _ (H5.va 2 rfl) rfl _ Try.underlying38 rfl (rxT.sz _)) rfl ?_
        exact .inr ⟨HALL2, rfl, H5.below⟩
      · have e1 : decide (x < 0) = false := by simpa using hx0
        by_cases hxr : (r : Int) ≤ x
        · have e2 : decide ((r : Int) ≤ x) = true := by simpa using hxr
          have HALL2 := HALLi (by simp [badRow, e2])
          have H := HS.drew
          have HS0 : SQ w3.heap.size w.heap.size ((rs.length : Int), (c : Int), A, cur.length, cp) ((r : Int), (c : Int), some ad, n, cp0) (adr.add i) x wr.drew := ⟨H.va 1 rfl, H.va 3 rfl, HCL.out⟩
          clear hcl HS
          go_wp2
          refine startS (SQ w3.heap.size w.heap.size ((rs.length : Int), (c : Int), A, cur.length, cp) ((r : Int), (c : Int), some ad, n, cp0) (adr.add i) x) (by kernel_rfl) HS0 ?_
          refine takeS 0 HS0 rfl (by kernel_rfl) (by kernel_rfl) (by kernel_rfl) (fun _ _ _ h => h) rfl (v := ?_) ?_ ?_
          rotate_left
          · intro w' hw'; clear hw'; go_simp; (try with_reducible rfl)
          (try simp only [Act.put, List.setIfInBounds_toArray, List.set_cons_zero, List.set_cons_succ])
          refine takeS 1 HS0 rfl (by kernel_rfl) (by kernel_rfl) (by kernel_rfl) (fun _ _ _ h => h) rfl (v := ?_) ?_ ?_
          rotate_left
          · intro w' hw'; clear hw'; go_simp; (try with_reducible rfl)
          (try simp only [Act.put, List.setIfInBounds_toArray, List.set_cons_zero, List.set_cons_succ])
          refine takeS 2 HS0 rfl (by kernel_rfl) (by kernel_rfl) (by kernel_rfl) (fun _ _ _ h => h) rfl (v := ?_) ?_ ?_
          rotate_left
          · intro w' hw'; clear hw'; go_simp; (try with_reducible rfl)
          (try simp only [Act.put, List.setIfInBounds_toArray, List.set_cons_zero, List.set_cons_succ])
          refine takeS 3 HS0 rfl (by kernel_rfl) (by kernel_rfl) (by kernel_rfl) (fun _ _ _ h => h) rfl (v := ?_) ?_ ?_
          rotate_left
          · intro w' hw'; have k5 := hw'.2.2; clear hw'; go_simp; (try with_reducible rfl)
          (try simp only [Act.put, List.setIfInBounds_toArray, List.set_cons_zero, List.set_cons_succ])
          refine takeS 4 HS0 rfl (by kernel_rfl) (by kernel_rfl) (by kernel_rfl) (fun _ _ _ h => h) rfl (v := ?_) ?_ ?_
          rotate_left
          · intro w' hw'; clear hw'; go_simp; (try with_reducible rfl)
          (try simp only [Act.put, List.setIfInBounds_toArray, List.set_cons_zero, List.set_cons_succ])
          refine takeS 5 HS0 rfl (by kernel_rfl) (by kernel_rfl) (by kernel_rfl) (fun _ _ _ h => h) rfl (v := ?_) ?_ ?_
          rotate_left
          · intro w' hw'; clear hw'; go_simp; (try with_reducible rfl)
          (try simp only [Act.put, List.setIfInBounds_toArray, List.set_cons_zero, List.set_cons_succ])
          refine takeS 6 HS0 rfl (by kernel_rfl) (by kernel_rfl) (by kernel_rfl) (fun _ _ _ h => h) rfl (v := ?_) ?_ ?_
          rotate_left
          · intro w' hw'; clear hw'; go_simp; (try with_reducible rfl)
          (try simp only [Act.put, List.setIfInBounds_toArray, List.set_cons_zero, List.set_cons_succ])
          refine takeS 7 HS0 rfl (by kernel_rfl) (by kernel_rfl) (by kernel_rfl) (fun _ _ _ h => h) rfl (v := ?_) ?_ ?_
          rotate_left
          · intro w' hw'; clear hw'; go_simp; (try with_reducible rfl)
          (try simp only [Act.put, List.setIfInBounds_toArray, List.set_cons_zero, List.set_cons_succ])
          refine takeS 8 HS0 rfl (by kernel_rfl) (by kernel_rfl) (by kernel_rfl) (fun _ _ _ h => h) rfl (v := ?_) ?_ ?_
          rotate_left
          · intro w' hw'; clear hw'; go_simp; (try with_reducible rfl)
          (try simp only [Act.put, List.setIfInBounds_toArray, List.set_cons_zero, List.set_cons_succ])
          refine takeS 9 HS0 rfl (by kernel_rfl) (by kernel_rfl) (by kernel_rfl) (fun _ _ _ h => h) rfl (v := ?_) ?_ ?_
          rotate_left
          · intro w' hw'; have k5 := hw'.2.2; clear hw'; go_simp; (try with_reducible rfl)
          (try simp only [Act.put, List.setIfInBounds_toArray, List.set_cons_zero, List.set_cons_succ])
          refine takeS 10 HS0 rfl (by kernel_rfl) (by kernel_rfl) (by kernel_rfl) (fun _ _ _ h => h) rfl (v := ?_) ?_ ?_
          rotate_left
          · intro w' hw'; clear hw'; go_simp; (try with_reducible rfl)
          (try simp only [Act.put, List.setIfInBounds_toArray, List.set_cons_zero, List.set_cons_succ])
          refine takeS 11 HS0 rfl (by kernel_rfl) (by kernel_rfl) (by kernel_rfl) (fun _ _ _ h => h) rfl (v := ?_) ?_ ?_
          rotate_left
          · intro w' hw'; have k6 : w'.cell? ⟨w.heap.size, 0, none⟩ = some (.int .i64 (r : Int)) := VA.cell hw'.2.1 0; clear hw'; go_simp; (try with_reducible rfl)
          (try simp only [Act.put, List.setIfInBounds_toArray, List.set_cons_zero, List.set_cons_succ])
          refine takeS 12 HS0 rfl (by kernel_rfl) (by kernel_rfl) (by kernel_rfl) (fun _ _ _ h => h) rfl (v := ?_) ?_ ?_
          rotate_left
          · intro w' hw'; clear hw'; go_simp; (try with_reducible rfl)
          (try simp only [Act.put, List.setIfInBounds_toArray, List.set_cons_zero, List.set_cons_succ])
          refine takeS 13 HS0 rfl (by kernel_rfl) (by kernel_rfl) (by kernel_rfl) (fun _ _ _ h => h) rfl (v := ?_) ?_ ?_
          rotate_left
          · intro w' hw'; clear hw'; go_simp; (try with_reducible rfl)
          (try simp only [Act.put, List.setIfInBounds_toArray, List.set_cons_zero, List.set_cons_succ])
          refine doneS (by kernel_rfl) ?_
          go_wp2_with (first
            | ((with_reducible refine gBuild ?_); refine wZero rxT rfl rfl ?_)
            | ((with_reducible refine gStore ?_); refine wStore rxT rxT.zero H 2 rfl rfl _ _ rfl rfl rfl rfl ?_; clear H; intro w5 H5))
          refine bodyPost_ret (results_cell_tmp rfl _ (H5.va 2 rfl) rfl _ Try.underlying38 rfl (rxT.sz _)) rfl ?_
          exact .inr ⟨HALL2, rfl, H5.below⟩
        · have e2 : decide ((r : Int) ≤ x) = false := by simpa using hxr
          obtain ⟨q, rfl⟩ : ∃ q : Nat, x = (q : Int) := ⟨x.toNat, by omega⟩
          have hqr : q < r := by omega
          have e3 : (r ≤ q) = False := eq_false (by omega)
          rw [HB.out, badRow, e1, e2] at HANYi
          rw [Int.toNat_natCast, HROW.out q hqr, ← HCU.out] at hst
          rw [← HCU.out] at hcul
          have HST := Lib.hid hst
          have HB2 := Lib.hid (show (rs.take (i + 1)).any (badRow (r : Int)) = false from HANYi)
          have HCUL := Lib.hid hcul
          have HCUR := Lib.hid HCU.out
          clear hst hcul HALLi HANYi hcl
          have H := HS.drew
          have HS0 : SQ w3.heap.size w.heap.size ((rs.length : Int), (c : Int), A, cur.length, cp) ((r : Int), (c : Int), some ad, n, cp0) (adr.add i) (q : Int) wr.drew := ⟨H.va 1 rfl, H.va 3 rfl, HCL.out⟩
          clear HS
          go_wp2
          refine startS (SQ w3.heap.size w.heap.size ((rs.length : Int), (c : Int), A, cur.length, cp) ((r : Int), (c : Int), some ad, n, cp0) (adr.add i) (q : Int)) (by kernel_rfl) HS0 ?_
          refine takeS 0 HS0 rfl (by kernel_rfl) (by kernel_rfl) (by kernel_rfl) (fun _ _ _ h => h) rfl (v := ?_) ?_ ?_
          rotate_left
          · intro w' hw'; clear hw'; go_simp; (try with_reducible rfl)
          (try simp only [Act.put, List.setIfInBounds_toArray, List.set_cons_zero, List.set_cons_succ])
          refine takeS 1 HS0 rfl (by kernel_rfl) (by kernel_rfl) (by kernel_rfl) (fun _ _ _ h => h) rfl (v := ?_) ?_ ?_
          rotate_left
          · intro w' hw'; clear hw'; go_simp; (try with_reducible rfl)
          (try simp only [Act.put, List.setIfInBounds_toArray, List.set_cons_zero, List.set_cons_succ])
          refine takeS 2 HS0 rfl (by kernel_rfl) (by kernel_rfl) (by kernel_rfl) (fun _ _ _ h => h) rfl (v := ?_) ?_ ?_
          rotate_left
          · intro w' hw'; clear hw'; go_simp; (try with_reducible rfl)
          (try simp only [Act.put, List.setIfInBounds_toArray, List.set_cons_zero, List.set_cons_succ])
          refine takeS 3 HS0 rfl (by kernel_rfl) (by kernel_rfl) (by kernel_rfl) (fun _ _ _ h => h) rfl (v := ?_) ?_ ?_
          rotate_left
          · intro w' hw'; have k5 := hw'.2.2; clear hw'; go_simp; (try with_reducible rfl)
          (try simp only [Act.put, List.setIfInBounds_toArray, List.set_cons_zero, List.set_cons_succ])
          refine takeS 4 HS0 rfl (by kernel_rfl) (by kernel_rfl) (by kernel_rfl) (fun _ _ _ h => h) rfl (v := ?_) ?_ ?_
          rotate_left
          · intro w' hw'; clear hw'; go_simp; (try with_reducible rfl)
          (try simp only [Act.put, List.setIfInBounds_toArray, List.set_cons_zero, List.set_cons_succ])
          refine takeS 5 HS0 rfl (by kernel_rfl) (by kernel_rfl) (by kernel_rfl) (fun _ _ _ h => h) rfl (v := ?_) ?_ ?_
          rotate_left
          · intro w' hw'; clear hw'; go_simp; (try with_reducible rfl)
          (try simp only [Act.put, List.setIfInBounds_toArray, List.set_cons_zero, List.set_cons_succ])
          refine takeS 6 HS0 rfl (by kernel_rfl) (by kernel_rfl) (by kernel_rfl) (fun _ _ _ h => h) rfl (v := ?_) ?_ ?_
          rotate_left
          · intro w' hw'; clear hw'; go_simp; (try with_reducible rfl)
          (try simp only [Act.put, List.setIfInBounds_toArray, List.set_cons_zero, List.set_cons_succ])
          refine takeS 7 HS0 rfl (by kernel_rfl) (by kernel_rfl) (by kernel_rfl) (fun _ _ _ h => h) rfl (v := ?_) ?_ ?_
          rotate_left
          · intro w' hw'; clear hw'; go_simp; (try with_reducible rfl)
          (try simp only [Act.put, List.setIfInBounds_toArray, List.set_cons_zero, List.set_cons_succ])
          refine takeS 8 HS0 rfl (by kernel_rfl) (by kernel_rfl) (by kernel_rfl) (fun _ _ _ h => h) rfl (v := ?_) ?_ ?_
          rotate_left
          · intro w' hw'; clear hw'; go_simp; (try with_reducible rfl)
          (try simp only [Act.put, List.setIfInBounds_toArray, List.set_cons_zero, List.set_cons_succ])
          refine takeS 9 HS0 rfl (by kernel_rfl) (by kernel_rfl) (by kernel_rfl) (fun _ _ _ h => h) rfl (v := ?_) ?_ ?_
          rotate_left
          · intro w' hw'; have k5 := hw'.2.2; clear hw'; go_simp; (try with_reducible rfl)
          (try simp only [Act.put, List.setIfInBounds_toArray, List.set_cons_zero, List.set_cons_succ])
          refine takeS 10 HS0 rfl (by kernel_rfl) (by kernel_rfl) (by kernel_rfl) (fun _ _ _ h => h) rfl (v := ?_) ?_ ?_
          rotate_left
          · intro w' hw'; clear hw'; go_simp; (try with_reducible rfl)
          (try simp only [Act.put, List.setIfInBounds_toArray, List.set_cons_zero, List.set_cons_succ])
          refine takeS 11 HS0 rfl (by kernel_rfl) (by kernel_rfl) (by kernel_rfl) (fun _ _ _ h => h) rfl (v := ?_) ?_ ?_
          rotate_left
          · intro w' hw'; have k6 : w'.cell? ⟨w.heap.size, 0, none⟩ = some (.int .i64 (r : Int)) := VA.cell hw'.2.1 0; clear hw'; go_simp; (try with_reducible rfl)
          (try simp only [Act.put, List.setIfInBounds_toArray, List.set_cons_zero, List.set_cons_succ])
          refine takeS 12 HS0 rfl (by kernel_rfl) (by kernel_rfl) (by kernel_rfl) (fun _ _ _ h => h) rfl (v := ?_) ?_ ?_
          rotate_left
          · intro w' hw'; clear hw'; go_simp; (try with_reducible rfl)
          (try simp only [Act.put, List.setIfInBounds_toArray, List.set_cons_zero, List.set_cons_succ])
          refine takeS 13 HS0 rfl (by kernel_rfl) (by kernel_rfl) (by kernel_rfl) (fun _ _ _ h => h) rfl (v := ?_) ?_ ?_
          rotate_left
          · intro w' hw'; clear hw'; go_simp; (try with_reducible rfl)
          (try simp only [Act.put, List.setIfInBounds_toArray, List.set_cons_zero, List.set_cons_succ])
          refine doneS (by kernel_rfl) ?_
          go_wp2
          go_loopw [8] (fun v8 wr => relQI l rs i q c ((r : Int), (c : Int), some ad, n, cp0) w w3.heap.size w1.heap.size w.heap.size v8 wr) (fun v _ => c - (intOf v).toNat)
          case atStart => exact ⟨0, cur, A, cp, rfl, by omega, by simp [Hid, HCUR.out], H⟩
          case round =>
            obtain ⟨j, cu2, A2, cp2, rfl, hj, HC2, HS2⟩ := hrel
            have k1 : World.cell? _ ⟨w.heap.size, 1, none⟩ = some (.int .i64 (c : Int)) := (HS2.va 3 rfl).cell 1
            by_cases hjc : j < c
            · have hji : (j : Int) < (c : Int) := by omega
              have hcl2 : cu2.length ≤ 3000 := by
                rw [HC2.out, ← HCUR.out, List.length_append, List.length_map, List.length_range]
                have := HCUL.out
                omega
              have hst2 : cu2 ++ [l.getD (q * c + j) 0] = pickL l c (rs.take i) ++ (List.range (j + 1)).map fun j => l.getD (q * c + j) 0 := by rw [HC2.out, List.range_succ, List.map_append, List.append_assoc]; rfl
              have cT := fun W h => HA.out W h q j hqr hjc
              generalize l.getD (q * c + j) 0 = y at hst2 cT
              have HST2 := Lib.hid hst2
              have HCL2 := Lib.hid hcl2
              clear hst2 hcl2
              have hcw := cell_below HS2.below HCW.out
              have H := HS2.drew
              have HS0 : SQ w3.heap.size w.heap.size ((rs.length : Int), (c : Int), A2, cu2.length, cp2) ((r : Int), (c : Int), some ad, n, cp0) (adr.add i) (q : Int) _ := ⟨H.va 1 rfl, H.va 3 rfl, hcw⟩
              clear HS2 hcw
              go_wp2
              clear k1
              refine startL (SQ w3.heap.size w.heap.size ((rs.length : Int), (c : Int), A2, cu2.length, cp2) ((r : Int), (c : Int), some ad, n, cp0) (adr.add i) (q : Int)) (fun i => i == 12) (by kernel_rfl) ?_
              refine takeP 0 rfl (by kernel_rfl) (by kernel_rfl) (by kernel_rfl) (by kernel_rfl) (fun _ _ _ h => h) rfl (v := ?_) ?_ ?_
              rotate_left
              · intro w'; go_simp; (try with_reducible rfl)
              (try simp only [Act.put, List.setIfInBounds_toArray, List.set_cons_zero, List.set_cons_succ])
              refine takeL 1 HS0 rfl (by kernel_rfl) (by kernel_rfl) (by kernel_rfl) (by kernel_rfl) (by kernel_rfl) (fun _ _ _ h => h) rfl (v := ?_) ?_ ?_
              rotate_left
              · intro w' hw'; have k2 : w'.cell? ⟨w3.heap.size, 2, none⟩ = some (.slice A2 cu2.length cp2) := VA.cell hw'.1 2; clear hw'; go_simp; (try with_reducible rfl)
              (try simp only [Act.put, List.setIfInBounds_toArray, List.set_cons_zero, List.set_cons_succ])
              refine takeL 2 HS0 rfl (by kernel_rfl) (by kernel_rfl) (by kernel_rfl) (by kernel_rfl) (by kernel_rfl) (fun _ _ _ h => h) rfl (v := ?_) ?_ ?_
              rotate_left
              · intro w' hw'; refine Eq.trans (exec_load 38 _ rfl w.heap.size 0 rfl (mxC ((r : Int), (c : Int), some ad, n, cp0)) rxT.d (VA.all hw'.2.1) rxT.under rxT.row (rxT.sz _)) ?_; with_reducible rfl
              (try simp only [Act.put, List.setIfInBounds_toArray, List.set_cons_zero, List.set_cons_succ])
              refine takeP 3 rfl (by kernel_rfl) (by kernel_rfl) (by kernel_rfl) (by kernel_rfl) (fun _ _ _ h => h) rfl (v := ?_) ?_ ?_
              rotate_left
              · intro w'; go_simp; (try with_reducible rfl)
              (try simp only [Act.put, List.setIfInBounds_toArray, List.set_cons_zero, List.set_cons_succ])
              refine takeP 4 rfl (by kernel_rfl) (by kernel_rfl) (by kernel_rfl) (by kernel_rfl) (fun _ _ _ h => h) rfl (v := ?_) ?_ ?_
              rotate_left
              · intro w'; go_simp; (try with_reducible rfl)
              (try simp only [Act.put, List.setIfInBounds_toArray, List.set_cons_zero, List.set_cons_succ])
              refine takeP 5 rfl (by kernel_rfl) (by kernel_rfl) (by kernel_rfl) (by kernel_rfl) (fun _ _ _ h => h) rfl (v := ?_) ?_ ?_
              rotate_left
              · intro w'; go_simp; (try with_reducible rfl)
              (try simp only [Act.put, List.setIfInBounds_toArray, List.set_cons_zero, List.set_cons_succ])
              refine takeL 6 HS0 rfl (by kernel_rfl) (by kernel_rfl) (by kernel_rfl) (by kernel_rfl) (by kernel_rfl) (fun _ _ _ h => h) rfl (v := ?_) ?_ ?_
              rotate_left
              · intro w' hw'; have k5 := hw'.2.2; clear hw'; go_simp; (try with_reducible rfl)
              (try simp only [Act.put, List.setIfInBounds_toArray, List.set_cons_zero, List.set_cons_succ])
              refine takeP 7 rfl (by kernel_rfl) (by kernel_rfl) (by kernel_rfl) (by kernel_rfl) (fun _ _ _ h => h) rfl (v := ?_) ?_ ?_
              rotate_left
              · intro w'; go_simp; (try with_reducible rfl)
              (try simp only [Act.put, List.setIfInBounds_toArray, List.set_cons_zero, List.set_cons_succ])
              refine stepL 8 rfl (by kernel_rfl) rfl (fun K hK => ?_)
              (go_simp; refine (cT _ H.below).mono ?_; rintro e w5 ⟨rfl, hb5⟩; replace H := H.step hb5; have HS1 := SQ.below HS0 hb5; clear hb5; refine hK.out _ _ (fun _ _ => HS1) ?_; clear K hK HS0; have HS0 := HS1; clear HS1)
              (try simp only [Act.put, List.setIfInBounds_toArray, List.set_cons_zero, List.set_cons_succ])
              refine stepL 9 rfl (by kernel_rfl) rfl (fun K hK => ?_)
              (go_simp; have HS1 := SQ.below HS0 (alloc_belowAt _ (.cells #[.int .u8 (y.toNat : Int)] 5)); refine hK.out _ _ (fun _ _ => HS1) ?_; clear K hK HS0; have HS0 := HS1; clear HS1)
              (try simp only [Act.put, List.setIfInBounds_toArray, List.set_cons_zero, List.set_cons_succ])
              refine stepL 10 rfl (by kernel_rfl) rfl (fun K hK => ?_)
              (refine oAppLit sB [y] #[.int .u8 (y.toNat : Int)] rfl (by simp) 1 rfl H 0 rfl (by have := HCL2.out; show (cu2.length + 1) * 1 ≤ _; omega) _ _ rfl rfl rfl ?_; clear H; intro v6 w6 H; obtain ⟨A6, c6, rfl, hc6⟩ := (H.rr 0 rfl).len; have HS1 : SQ w3.heap.size w.heap.size ((rs.length : Int), (c : Int), A2, cu2.length, cp2) ((r : Int), (c : Int), some ad, n, cp0) (adr.add i) (q : Int) w6 := ⟨H.va 1 rfl, H.va 3 rfl, cell_below H.below HCW.out⟩; refine hK.out _ _ (fun _ _ => HS1) ?_; clear K hK HS0; have HS0 := HS1; clear HS1)
              (try simp only [Act.put, List.setIfInBounds_toArray, List.set_cons_zero, List.set_cons_succ])
              refine takeP 11 rfl (by kernel_rfl) (by kernel_rfl) (by kernel_rfl) (by kernel_rfl) (fun _ _ _ h => h) rfl (v := ?_) ?_ ?_
              rotate_left
              · intro w'; go_simp; (try with_reducible rfl)
              (try simp only [Act.put, List.setIfInBounds_toArray, List.set_cons_zero, List.set_cons_succ])
              refine stepL 12 rfl (by kernel_rfl) rfl (fun K hK => ?_)
              (refine oCell 22 (.slice A6 (cu2 ++ [y]).length c6) (by kernel_rfl) rfl rfl H 1 (off := 2) rfl (Nat.le_refl 3) (mxC ((rs.length : Int), (c : Int), A6, (cu2 ++ [y]).length, c6)) rfl _ _ rfl rfl rfl ?_; clear H; intro w7 H; refine hK.out _ _ (fun h => by cases h) ?_; clear K hK HS0)
              (try simp only [Act.put, List.setIfInBounds_toArray, List.set_cons_zero, List.set_cons_succ])
              refine doneL (by kernel_rfl) ?_
              go_wp2
              go_roundw
              case rel => first | exact ⟨j + 1, _, _, _, by go_num, by omega, HST2, H⟩ | exact ⟨_, ⟨j + 1, _, _, _, by go_num, by omega, HST2, H⟩, rfl⟩ | ((repeat (apply Exists.intro)); refine ⟨⟨j + 1, _, _, _, ?_, by omega, HST2, H⟩, rfl⟩; go_num)
              case measure => simp [intOf] <;> omega
            · obtain rfl : j = c := by omega
              have hcur : cu2 = pickL l j (rs.take (i + 1)) := by rw [HC2.out, HST.out, ← HCUR.out]
              have HCU2 := Lib.hid hcur
              clear hcur
              go_wp2
              go_roundw
              case rel => first | exact ⟨i + 1, _, _, _, by go_num, by omega, HCU2, HB2, HS2⟩ | exact ⟨_, ⟨i + 1, _, _, _, by go_num, by omega, HCU2, HB2, HS2⟩, rfl⟩ | ((repeat (apply Exists.intro)); refine ⟨⟨i + 1, _, _, _, ?_, by omega, HCU2, HB2, HS2⟩, rfl⟩; go_num)
              case measure => simp [intOf] <;> omega
    · have hi2 : i = rs.length := by omega
      have hcur := HCU.out
      have hbb := HB.out
      rw [hi2, List.take_length] at hcur hbb
      have HBB := Lib.hid hbb
      clear hbb HB HCU
      subst hcur
      subst hi2
      go_wp2_with (first
        | ((with_reducible refine gLoad ?_); refine wLoad rxT ((rs.length : Int), (c : Int), A, (pickL l c rs).length, cp) HS 1 rfl rfl _ rfl rfl rfl ?_)
        | ((with_reducible refine gStore ?_); refine wStore rxT ((rs.length : Int), (c : Int), A, (pickL l c rs).length, cp) HS 2 rfl rfl _ _ rfl rfl rfl rfl ?_; clear HS; intro w5 H))
      refine bodyPost_ret (results_cell_tmp rfl _ (H.va 2 rfl) rfl _ Try.underlying38 rfl (rxT.sz _)) rfl ?_
      exact .inl ⟨HBB.out, A, cp, rfl, H.orow 0 rfl, H.below⟩
end Go.Proofs.Ytfnneneaalaagaa
