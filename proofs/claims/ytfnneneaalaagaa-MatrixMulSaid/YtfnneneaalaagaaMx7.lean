/- Layer 26: columns; the first byte that is not 0. -/
import Derived.Test.YtfnneneaalaagaaMx6
namespace Go.Proofs.Ytfnneneaalaagaa
open Go.RowKit
set_option linter.unusedSimpArgs false
set_option linter.unusedVariables false

theorem addr_add2 (ad : Addr) (p j : Nat) : (ad.add p).add j = ad.add (p + j) := by
  unfold Addr.add
  by_cases h1 : p = 0 <;> by_cases h2 : j = 0 <;> simp [h1, h2, Nat.add_assoc]
def colL (l : List UInt8) (r c j : Nat) : List UInt8 := (List.range r).map fun i => l.getD (i * c + j) 0
theorem colL_len (l : List UInt8) (r c j : Nat) : (colL l r c j).length = r := by simp [colL]
theorem colL_succ (l : List UInt8) (r c j : Nat) : colL l (r + 1) c j = colL l r c j ++ [l.getD (r * c + j) 0] := by simp [colL, List.range_succ]
def relC (l : List UInt8) (r c j : Nat) (m : MX) (w : World) (bm : Nat) (v12 v5 : Value) (wr : World) : Prop := ∃ (i : Nat), v12 = .int .i64 (i : Int) ∧ i ≤ r ∧ SH Nil w wr [.row B8 v5 (colL l i c j), .blk bm 32 (mxC m)]
set_option maxHeartbeats 1600000 in
set_option maxRecDepth 100000 in
theorem column_any (l : List UInt8) (r c j : Nat) (ad : Addr) (cp : Nat) (w : World) (hv : RB w (.slice (some ad) (r * c) cp) l) (hl : l.length = r * c) (hr : r ≤ 64) (hc : c ≤ 64) (hj : j < c) (hcp : r * c ≤ cp) :
    Calls Try.prog 66 #[.agg (mxT.enc ((r : Int), (c : Int), some ad, r * c, cp)).toArray, .int .i64 (j : Int)] w fun e w' => ∃ v, e = .returned v ∧ OB w' w.heap.size v (colL l r c j) ∧ Below w.heap.size w w' := by
  have H0 := SH.start Nil w
  obtain ⟨n, hn⟩ : ∃ n, n = r * c := ⟨_, rfl⟩
  have hn2 : n ≤ 64 * 64 := by rw [hn]; exact Nat.mul_le_mul hr hc
  rw [← hn] at hv hl hcp ⊢
  have cR := fun (W : World) (q : Nat) (hq : q < r) => row_any (r : Int) c q ad n cp W (by omega) (by rw [hn]; exact row_in hq) (by omega) (by omega)
  have hcell : ∀ k, k < n → w.cell? (ad.add k) = some (.int .u8 ((l.getD k 0).toNat : Int)) := fun k hk => by
    obtain ⟨A2, c2, e, _, _, h3⟩ := hv
    injection e with e1 e2 e3
    subst e1
    obtain ⟨ad', e4, hcc⟩ := h3 (by omega)
    injection e4 with e4
    subst e4
    refine hcc k _ ?_
    rw [U8_all, List.getElem?_map, List.getD_eq_getElem?_getD, List.getElem?_eq_getElem (by omega)]
    rfl
  have hq : ∀ i, i < r → i * c + j < n := fun i hi => by
    have := row_in (c := c) hi
    rw [Nat.add_mul, Nat.one_mul] at this
    omega
  have CR := Lib.hid cR
  have HC := Lib.hid hcell
  have HQ := Lib.hid hq
  have HA := Lib.hid (addr_add2 ad)
  have hji : (j : Int) < (c : Int) := by omega
  have hri : (r : Int) ≤ 64 := by omega
  have hci : (c : Int) ≤ 64 := by omega
  clear cR hcell hq hv hl hcp hn
  go_enter Try.func66, Try.ntmps66
  go_wp2_with (first
    | ((with_reducible refine gBox ?_); refine wBox mxT ((r : Int), (c : Int), some ad, n, cp) H0 _ rfl rfl rfl ?_; clear H0; intro w1 H1; have k0 : w1.cell? ⟨w.heap.size, 0, none⟩ = some (.int .i64 (r : Int)) := (H1.va 0 rfl).cell 0)
    | ((with_reducible refine gMake ?_); refine wMake0 r (by omega) H1 _ _ rfl rfl rfl rfl ?_; clear H1; intro w2 H2; have k1 : w2.cell? ⟨w.heap.size, 0, none⟩ = some (.int .i64 (r : Int)) := (H2.va 1 rfl).cell 0))
  clear k0
  have K1 := Lib.hid k1
  clear k1
  go_loopw [12, 5] (fun v12 v5 wr => relC l r c j ((r : Int), (c : Int), some ad, n, cp) w w.heap.size v12 v5 wr) (fun v _ _ => r - (intOf v).toNat)
  case atStart => exact ⟨0, rfl, by omega, H2⟩
  case round =>
    obtain ⟨i, rfl, hi, HS⟩ := hrel
    clear H2
    by_cases hir : i < r
    · have hii : (i : Int) < (r : Int) := by omega
      have c1 := fun W => CR.out W i hir
      have hcl := cell_below HS.below (HC.out (i * c + j) (HQ.out i hir))
      have hadd := HA.out (i * c) j
      have hs := colL_succ l i c j
      have hln : (colL l i c j).length ≤ 64 := by rw [colL_len]; omega
      generalize l.getD (i * c + j) 0 = x at hcl hs
      have HSS := Lib.hid hs
      have HLN := Lib.hid hln
      have HCL := Lib.hid hcl
      clear hs hln hcl
      go_wp2_with (first
        | ((with_reducible refine gLoad ?_); refine wLoad mxT ((r : Int), (c : Int), some ad, n, cp) HS 1 rfl rfl _ rfl rfl rfl ?_)
        | (go_at_call 51; (with_reducible refine (c1 _).mono ?_); rintro e w5 ⟨rfl, hb⟩; have H5 := HS.step hb; have hcl := cell_below hb HCL.out; clear HS hb)
        | (at_builtin; refine wAppLit sB [x] #[.int .u8 (x.toNat : Int)] rfl (by simp) 1 rfl H5 0 rfl (by have := HLN.out; show (_ + 1) * 1 ≤ _; omega) _ _ rfl rfl rfl rfl ?_; clear H5; intro v6 w6 H6; rw [← HSS.out] at H6))
      go_roundw
      case rel => first | exact ⟨i + 1, by go_num, by omega, H6⟩ | exact ⟨_, _, ⟨i + 1, by go_num, by omega, H6⟩, rfl, rfl⟩
      case measure => simp [intOf] <;> omega
    · obtain rfl : i = r := by omega
      go_wp2
      go_ret
      exact ⟨_, rfl, HS.orow 0 rfl, HS.below⟩
def nzR : List UInt8 → Nat → Int
  | [], _ => -1
  | x :: r, k => if x = 0 then nzR r (k + 1) else (k : Int)
/-- The place of the first that is not 0; -1: there is none. -/
def nzI (l : List UInt8) : Int := nzR l 0
theorem nzR_range : ∀ (l : List UInt8) (k : Nat), nzR l k = -1 ∨ ((k : Int) ≤ nzR l k ∧ nzR l k < (k : Int) + (l.length : Int))
  | [], k => .inl rfl
  | x :: r, k => by
    rw [nzR]
    split
    · rcases nzR_range r (k + 1) with h | h
      · exact .inl h
      · right; rw [List.length_cons]; push_cast at h ⊢; omega
    · right; rw [List.length_cons]; push_cast; omega
theorem nzI_range (l : List UInt8) : nzI l = -1 ∨ (0 ≤ nzI l ∧ nzI l < (l.length : Int)) := by
  have := nzR_range l 0
  unfold nzI
  omega
theorem nz1_any (x : UInt8) (w : World) : Calls Try.prog 75 #[.int .u8 (x.toNat : Int)] w fun e w' => e = .returned (.bool (x != 0)) ∧ w = w' := by
  have h := u8_eqI x 0
  rw [show ((0 : UInt8).toNat : Int) = 0 from rfl] at h
  have h2 : ((x.toNat : Int) != 0) = (x != 0) := by rw [bne, bne, h]
  generalize (x != 0) = b at h2
  clear h
  go_enter Try.func75, Try.ntmps75
  go_wp2
  go_ret
  exact ⟨by simp [h2], rfl⟩

set_option maxHeartbeats 800000 in
set_option maxRecDepth 100000 in
theorem idx_any (v : Value) (l : List UInt8) (w : World) (hv : RB w v l) (hl : l.length ≤ 1000000) :
    Calls Try.prog 74 #[v, fnV 75 #[]] w fun e w' => e = .returned (.int .i64 (nzI l)) ∧ w = w' := by
  obtain ⟨A, c, rfl, hc⟩ := id hv.len
  have hcell : ∀ k, k < l.length → ∃ ad, A = some ad ∧ w.cell? (ad.add k) = some (.int .u8 ((l.getD k 0).toNat : Int)) := fun k hk => by
    obtain ⟨ad, rfl, h⟩ := RB.byte hv (by omega)
    exact ⟨ad, rfl, h k hk⟩
  obtain ⟨r, hr⟩ : ∃ r, r = nzI l := ⟨_, rfl⟩
  rw [← hr]
  have HC := Lib.hid hcell
  have HR := Lib.hid hr
  clear hcell hv hr
  go_enter Try.func74, Try.ntmps74
  go_wp2
  go_loop [8] (fun v8 => ∃ k : Nat, v8 = .int .i64 (k : Int) ∧ k ≤ l.length ∧ Hid (nzR (l.drop k) k = r)) (fun v => l.length - (intOf v).toNat)
  case atStart => exact ⟨0, rfl, by omega, HR.out.symm⟩
  case round =>
    obtain ⟨k, rfl, hk, HK⟩ := hrel
    by_cases hkn : k < l.length
    · have hki : (k : Int) < (l.length : Int) := by omega
      obtain ⟨ad, rfl, hcl⟩ := HC.out k hkn
      have e : l.drop k = l.getD k 0 :: l.drop (k + 1) := by rw [List.drop_eq_getElem_cons hkn, List.getD_eq_getElem?_getD, List.getElem?_eq_getElem hkn]; rfl
      have hh := HK.out
      rw [e, nzR] at hh
      generalize l.getD k 0 = x at hcl hh
      have cN := fun W => nz1_any x W
      by_cases hx : x = 0
      · have hb : (x != 0) = false := by simpa using hx
        rw [hb] at cN
        rw [if_pos hx] at hh
        have HH := Lib.hid hh
        clear hh e hx hb
        go_wp2_with (first
          | (go_at_call 75; (with_reducible refine (cN _).mono ?_); rintro e w2 ⟨rfl, rfl⟩))
        go_round
        case rel => exact ⟨k + 1, by go_num, by omega, HH⟩
        case measure => simp [intOf] <;> omega
      · have hb : (x != 0) = true := by simpa using hx
        rw [hb] at cN
        rw [if_neg hx] at hh
        have HH := Lib.hid hh
        clear hh e hx hb
        go_wp2_with (first
          | (go_at_call 75; (with_reducible refine (cN _).mono ?_); rintro e w2 ⟨rfl, rfl⟩))
        go_ret
        exact ⟨by rw [← HH.out]; rfl, rfl⟩
    · have hh := HK.out
      rw [List.drop_of_length_le (by omega), nzR] at hh
      have HH := Lib.hid hh
      clear hh
      go_wp2
      go_ret
      exact ⟨by rw [← HH.out]; rfl, rfl⟩
end Go.Proofs.Ytfnneneaalaagaa
