/- Layer 26: the program's Pick. -/
import Derived.Test.YtfnneneaalaagaaMx13
import Derived.Test.YtfnneneaalaagaaMx3
namespace Go.Proofs.Ytfnneneaalaagaa
open Go.RowKit
set_option linter.unusedSimpArgs false
set_option linter.unusedVariables false

def rowq (l : List UInt8) (c q : Nat) : List UInt8 := (l.drop (q * c)).take c
theorem rowq_len {l : List UInt8} {c q : Nat} (h : (q + 1) * c ≤ l.length) : (rowq l c q).length = c := by
  rw [Nat.add_mul, Nat.one_mul] at h
  rw [rowq, List.length_take, List.length_drop]; omega
theorem RB.rowq {w : World} {ad : Addr} {n cp : Nat} {l : List UInt8} {c q : Nat} (hv : RB w (.slice (some ad) n cp) l) (hq : (q + 1) * c ≤ l.length) (hc : 0 < c) : RB w (.slice (some (ad.add (q * c))) c c) (rowq l c q) := by
  have hl := rowq_len hq
  rw [Nat.add_mul, Nat.one_mul] at hq
  obtain ⟨A2, c2, e, h1, h2, h3⟩ := hv
  obtain ⟨ad2, rfl, hcc⟩ := h3 (by omega)
  injection e with e1 e2 e3
  injection e1 with e1
  subst e1
  refine ⟨_, c, by rw [hl], Nat.le_of_eq hl, by rw [hl]; omega, fun _ => ⟨_, rfl, fun j u hj => ?_⟩⟩
  rw [addr_add2]
  refine hcc _ _ ?_
  rw [U8_all, List.getElem?_map] at hj ⊢
  rw [Go.Proofs.Ytfnneneaalaagaa.rowq, List.getElem?_take] at hj
  split at hj
  · rw [List.getElem?_drop] at hj; exact hj
  · cases hj
def pickL (l : List UInt8) (c : Nat) (rs : List Int) : List UInt8 := rs.flatMap fun q => rowq l c q.toNat
theorem pickL_take (l : List UInt8) (c : Nat) (rs : List Int) (i : Nat) (h : i < rs.length) : pickL l c (rs.take (i + 1)) = pickL l c (rs.take i) ++ rowq l c (rs.getD i 0).toNat := by
  rw [pickL, List.take_add_one, List.flatMap_append, List.getElem?_eq_getElem h, List.getD_eq_getElem?_getD, List.getElem?_eq_getElem h]
  simp [pickL]
theorem pickL_len (l : List UInt8) (c r : Nat) (hl : l.length = r * c) : ∀ (rs : List Int), rs.any (badRow r) = false → (pickL l c rs).length = rs.length * c
  | [], _ => by simp [pickL]
  | x :: t, h => by
    rw [List.any_cons, Bool.or_eq_false_iff] at h
    have hx := h.1
    simp only [badRow, Bool.or_eq_false_iff, decide_eq_false_iff_not] at hx
    have hq : (x.toNat + 1) * c ≤ l.length := by rw [hl]; exact Nat.mul_le_mul_right c (by omega)
    have := pickL_len l c r hl t h.2
    rw [pickL, List.flatMap_cons, List.length_append, rowq_len hq, List.length_cons, Nat.add_mul, Nat.one_mul]
    rw [pickL] at this
    omega
def relP (l : List UInt8) (rs : List Int) (c : Nat) (m : MX) (w : World) (bm br b0 : Nat) (v33 : Value) (wr : World) : Prop := ∃ (i : Nat) (cur : List UInt8) (A : Option Addr) (cp : Nat), v33 = .int .i64 (i : Int) ∧ i ≤ rs.length ∧ Hid (cur = pickL l c (rs.take i)) ∧ SH Nil w wr [.row B8 (.slice A cur.length cp) cur, .blk bm 32 (mxC ((rs.length : Int), (c : Int), A, cur.length, cp)), .blk br 32 (mxC (0, 0, none, 0, 0)), .blk b0 32 (mxC m)]
set_option maxHeartbeats 3200000 in
set_option maxRecDepth 100000 in
theorem Pick_ok (l : List UInt8) (r c n : Nat) (A0 : Option Addr) (cp0 : Nat) (vr : Value) (rs : List Int) (w : World) (hr1 : 1 ≤ r) (hr2 : r ≤ 32) (hc1 : 1 ≤ c) (hc2 : c ≤ 32) (hn : n = r * c) (hl : l.length = n) (hv : RB w (.slice A0 n cp0) l) (hcp : n ≤ cp0)
    (hvr : RI w vr rs) (hs1 : 1 ≤ rs.length) (hs2 : rs.length ≤ 32) (hbad : rs.any (badRow (r : Int)) = false) :
    Calls Try.prog 21 #[.agg (mxT.enc ((r : Int), (c : Int), A0, n, cp0)).toArray, vr] w fun e w' => GivesMx mxT w rs.length c (pickL l c rs) 0 e w' := by
  have H0 := SH.start Nil w
  have hnc : n ≤ 32 * 32 := by rw [hn]; exact Nat.mul_le_mul hr2 hc2
  have hpos : 0 < n := by rw [hn]; exact Nat.mul_pos (by omega) (by omega)
  obtain ⟨ad, rfl, -⟩ := id (hv.byte (by omega))
  have hmay : mayB (r : Int) (c : Int) n = true := by
    rw [mayB, if_pos ((sizeB_iff _).2 (by omega)), if_pos ((sizeB_iff _).2 (by omega)), hn]
    exact beq_iff_eq.mpr (by push_cast; rfl)
  have hsz : sizeB (rs.length : Int) = true := (sizeB_iff _).2 (by omega)
  have cM : ∀ W, Calls Try.prog 37 #[.agg (mxT.enc ((r : Int), (c : Int), some ad, n, cp0)).toArray] W fun e w' => e = .returned (.bool true) ∧ Below W.heap.size W w' := fun W => by rw [← hmay]; exact MMay_any _ _ _ _ _ W
  have cS : ∀ W, Calls Try.prog 49 #[.int .i64 (rs.length : Int)] W fun e w' => e = .returned (.bool true) ∧ W = w' := fun W => by rw [← hsz]; exact isSize_any _ W
  have cC : ∀ W b, W.cell? ⟨b, 0, none⟩ = some (.int .i64 (r : Int)) → RI W vr rs → Calls Try.prog 50 #[vr, fnV 48 #[.pointer (some ⟨b, 0, none⟩)]] W fun e w' => e = .returned (.bool false) ∧ W = w' := fun W b hb hW => by rw [← hbad]; exact contains_any _ b vr rs W hb hW (by omega)
  have cR := fun (W : World) (q : Nat) (hq : q < r) => row_any (r : Int) c q ad n cp0 W (by omega) (by rw [hn]; exact Nat.mul_le_mul_right c hq) hcp (by omega)
  have hrow : ∀ q, q < r → RB w (.slice (some (ad.add (q * c))) c c) (rowq l c q) ∧ (rowq l c q).length = c := fun q hq => by
    have h : (q + 1) * c ≤ l.length := by rw [hl, hn]; exact Nat.mul_le_mul_right c hq
    exact ⟨hv.rowq h (by omega), rowq_len h⟩
  have hel : ∀ i, i < rs.length → ∃ (q : Nat) (adr : Addr) , rs.getD i 0 = (q : Int) ∧ q < r ∧ w.cell? (adr.add i) = some (.int .i64 (q : Int)) ∧ ∃ cr, vr = .slice (some adr) rs.length cr := fun i hi => by
    obtain ⟨A2, c2, e, _⟩ := id hvr
    subst e
    obtain ⟨adr, rfl, hcl⟩ := RI.byte hvr i hi
    have hx : badRow (r : Int) (rs.getD i 0) = false := by
      have := List.any_eq_false.1 hbad (rs.getD i 0) (by rw [List.getD_eq_getElem?_getD, List.getElem?_eq_getElem hi]; exact List.getElem_mem hi)
      simpa using this
    simp only [badRow, Bool.or_eq_false_iff, decide_eq_false_iff_not] at hx
    obtain ⟨q, hq⟩ : ∃ q : Nat, rs.getD i 0 = (q : Int) := ⟨(rs.getD i 0).toNat, by omega⟩
    rw [hq] at hcl hx
    exact ⟨q, adr, hq, by omega, hcl, _, rfl⟩
  have hlen : ∀ i, i ≤ rs.length → (pickL l c (rs.take i)).length ≤ 2000 := fun i hi => by
    have hb : (rs.take i).any (badRow (r : Int)) = false := by
      rw [List.any_eq_false] at hbad ⊢
      exact fun x hx => hbad x (List.mem_of_mem_take hx)
    rw [pickL_len l c r (by rw [hl, hn]) _ hb, List.length_take]
    have := Nat.mul_le_mul (show min i rs.length ≤ 32 by omega) hc2
    omega
  obtain ⟨Ar, cr, hvre, -⟩ := id hvr
  have HC := Lib.hid cC
  have HCR := Lib.hid cR
  have HROW := Lib.hid hrow
  have HEL := Lib.hid hel
  have HLEN := Lib.hid hlen
  have HPT := Lib.hid (pickL_take l c rs)
  have HRI := Lib.hid hvr
  have hsi : (rs.length : Int) ≤ 32 := by omega
  clear cC cR hrow hel hlen hv hvr hbad hmay hsz hn hl
  subst hvre
  go_enter Try.func21, Try.ntmps21
  go_wp2_with (first
    | ((with_reducible refine gAlloc ?_); refine wVar mxT ((rs.length : Int), (c : Int), none, 0, 0) H3 rfl 7 _ rfl rfl rfl rfl rfl ?_; clear H3; intro w4 H4)
    | ((with_reducible refine gBox ?_); refine wBox mxT ((r : Int), (c : Int), some ad, n, cp0) H0 _ rfl rfl rfl ?_; clear H0; intro w1 H1)
    | ((with_reducible refine gAlloc ?_); refine wAlloc mxT H1 rfl rfl ?_; clear H1; intro w2 H2)
    | ((with_reducible refine gLoad ?_); refine wLoad mxT ((r : Int), (c : Int), some ad, n, cp0) H2 1 rfl rfl _ rfl rfl rfl ?_)
    | (go_at_call 37; (with_reducible refine (cM _).mono ?_); rintro e w3 ⟨rfl, hb⟩; have H3 := H2.step hb; clear H2 hb; have k0 : w3.cell? ⟨w.heap.size, 0, none⟩ = some (.int .i64 (r : Int)) := (H3.va 1 rfl).cell 0; have k1 : w3.cell? ⟨w.heap.size, 1, none⟩ = some (.int .i64 (c : Int)) := (H3.va 1 rfl).cell 1)
    | (go_at_call 49; (with_reducible refine (cS _).mono ?_); rintro e w5 ⟨rfl, rfl⟩)
    | (go_at_call 50; (with_reducible refine (HC.out _ _ k0 (HRI.out.below H3.below)).mono ?_); rintro e w5 ⟨rfl, rfl⟩))
  clear k0 k1
  go_loopw [33] (fun v33 wr => relP l rs c ((r : Int), (c : Int), some ad, n, cp0) w w3.heap.size w1.heap.size w.heap.size v33 wr) (fun v _ => rs.length - (intOf v).toNat)
  case atStart => exact ⟨0, [], none, 0, rfl, by omega, by rfl, H4.nilRow B8⟩
  case round =>
    obtain ⟨i, cur, A, cp, rfl, hi, HCU, HS⟩ := hrel
    clear H4
    by_cases him : i < rs.length
    · have hii : (i : Int) < (rs.length : Int) := by omega
      obtain ⟨q, adr, hq, hqr, hcl, cr', hvre⟩ := HEL.out i him
      injection hvre with hv1 hv2 hv3
      subst hv1
      have hcl := cell_below HS.below hcl
      have hst := HPT.out i him
      rw [hq, Int.toNat_natCast, ← HCU.out] at hst
      obtain ⟨hrb, hrl⟩ := HROW.out q hqr
      have hcul : cur.length ≤ 2000 := by rw [HCU.out]; exact HLEN.out i hi
      have cRq := fun W => HCR.out W q hqr
      generalize rowq l c q = y at hst hrb hrl
      have HST := Lib.hid hst
      have HRB := Lib.hid hrb
      have HRL := Lib.hid hrl
      have HCUL := Lib.hid hcul
      clear hst hrb hrl hcul hq hv3
      have H := HS.drew
      have HS0 := And.intro (H.va 1 rfl) (H.va 3 rfl)
      clear HS
      go_wp2
      refine startL (fun w' => VA w' w3.heap.size 32 (mxC ((rs.length : Int), (c : Int), A, cur.length, cp)) ∧ VA w' w.heap.size 32 (mxC ((r : Int), (c : Int), some ad, n, cp0))) (fun i => i == 7) (by kernel_rfl) ?_
      refine takeP 0 rfl (by kernel_rfl) (by kernel_rfl) (by kernel_rfl) (by kernel_rfl) (fun _ _ _ h => h) rfl (v := ?_) ?_ ?_
      rotate_left
      · intro w'; go_simp; (try with_reducible rfl)
      (try simp only [Act.put, List.setIfInBounds_toArray, List.set_cons_zero, List.set_cons_succ])
      refine takeL 1 HS0 rfl (by kernel_rfl) (by kernel_rfl) (by kernel_rfl) (by kernel_rfl) (by kernel_rfl) (fun _ _ _ h => h) rfl (v := ?_) ?_ ?_
      rotate_left
      · intro w' hw'; have k2 : w'.cell? ⟨w3.heap.size, 2, none⟩ = some (.slice A cur.length cp) := VA.cell hw'.1 2; clear hw'; go_simp; (try with_reducible rfl)
      (try simp only [Act.put, List.setIfInBounds_toArray, List.set_cons_zero, List.set_cons_succ])
      refine takeL 2 HS0 rfl (by kernel_rfl) (by kernel_rfl) (by kernel_rfl) (by kernel_rfl) (by kernel_rfl) (fun _ _ _ h => h) rfl (v := ?_) ?_ ?_
      rotate_left
      · intro w' hw'; refine Eq.trans (exec_load 32 _ rfl w.heap.size 0 rfl (mxC ((r : Int), (c : Int), some ad, n, cp0)) mxT.d (VA.all hw'.2) mxT.under mxT.row (mxT.sz _)) ?_; with_reducible rfl
      (try simp only [Act.put, List.setIfInBounds_toArray, List.set_cons_zero, List.set_cons_succ])
      refine takeP 3 rfl (by kernel_rfl) (by kernel_rfl) (by kernel_rfl) (by kernel_rfl) (fun _ _ _ h => h) rfl (v := ?_) ?_ ?_
      rotate_left
      · intro w'; go_simp; (try with_reducible rfl)
      (try simp only [Act.put, List.setIfInBounds_toArray, List.set_cons_zero, List.set_cons_succ])
      refine stepL 4 rfl (by kernel_rfl) rfl (fun K hK => ?_)
      (go_simp; refine (cRq _).mono ?_; rintro e w5 ⟨rfl, hb5⟩; replace H := H.step hb5; clear hb5; have HS1 := And.intro (H.va 1 rfl) (H.va 3 rfl); refine hK.out _ _ (fun _ _ => HS1) ?_; clear K hK HS0; have HS0 := HS1; clear HS1)
      (try simp only [Act.put, List.setIfInBounds_toArray, List.set_cons_zero, List.set_cons_succ])
      refine stepL 5 rfl (by kernel_rfl) rfl (fun K hK => ?_)
      (refine oAppend sB H 0 rfl _ y (HRB.out.below H.below) (by have := HCUL.out; have := HRL.out; show (cur.length + y.length) * 1 ≤ _; omega) _ _ rfl rfl rfl ?_; clear H; intro v6 w6 H; obtain ⟨A6, c6, rfl, hc6⟩ := (H.rr 0 rfl).len; have HS1 := And.intro (H.va 1 rfl) (H.va 3 rfl); refine hK.out _ _ (fun _ _ => HS1) ?_; clear K hK HS0; have HS0 := HS1; clear HS1)
      (try simp only [Act.put, List.setIfInBounds_toArray, List.set_cons_zero, List.set_cons_succ])
      refine takeP 6 rfl (by kernel_rfl) (by kernel_rfl) (by kernel_rfl) (by kernel_rfl) (fun _ _ _ h => h) rfl (v := ?_) ?_ ?_
      rotate_left
      · intro w'; go_simp; (try with_reducible rfl)
      (try simp only [Act.put, List.setIfInBounds_toArray, List.set_cons_zero, List.set_cons_succ])
      refine stepL 7 rfl (by kernel_rfl) rfl (fun K hK => ?_)
      (refine oCell 22 (.slice A6 (cur ++ y).length c6) (by kernel_rfl) rfl rfl H 1 (off := 2) rfl (Nat.le_refl 3) (mxC ((rs.length : Int), (c : Int), A6, (cur ++ y).length, c6)) rfl _ _ rfl rfl rfl ?_; clear H; intro w7 H; refine hK.out _ _ (fun h => by cases h) ?_; clear K hK HS0)
      (try simp only [Act.put, List.setIfInBounds_toArray, List.set_cons_zero, List.set_cons_succ])
      refine doneL (by kernel_rfl) ?_
      go_wp2
      go_roundw
      case rel => first | exact ⟨i + 1, _, _, _, by go_num, by omega, Lib.hid HST.out.symm, H⟩ | exact ⟨_, ⟨i + 1, _, _, _, by go_num, by omega, Lib.hid HST.out.symm, H⟩, rfl⟩
      case measure => simp [intOf] <;> omega
    · obtain hi2 : i = rs.length := by omega
      have hcur := HCU.out
      rw [hi2, List.take_length] at hcur
      subst hcur
      clear HCU
      subst hi2
      go_wp2_with (first
        | ((with_reducible refine gLoad ?_); refine wLoad mxT ((rs.length : Int), (c : Int), A, (pickL l c rs).length, cp) HS 1 rfl rfl _ rfl rfl rfl ?_)
        | ((with_reducible refine gStore ?_); refine wStore mxT ((rs.length : Int), (c : Int), A, (pickL l c rs).length, cp) HS 2 rfl rfl _ _ rfl rfl rfl rfl ?_; clear HS; intro w5 H))
      refine bodyPost_ret (results_cell_tmp rfl _ (H.va 2 rfl) rfl _ Try.underlying32 rfl (mxT.sz _)) rfl ?_
      exact ⟨A, cp, rfl, H.orow 0 rfl, H.below⟩
end Go.Proofs.Ytfnneneaalaagaa
