/- Ground of the statements BankHealed, part 4: Mp3, Dk1, Mp4, Dk2, Dk3, Dk4, Dk5, Dk6, Dk7, Dk8, Dk9, Dk10, Dk11, Dk12, Ptr, Ptr2, Ptr3, Num2, Num3, Num4, Ref01, Ptr4, Kit2, Ptr5, Ptr6, Ptr7. -/
import Derived.RangeFuncNested
import Derived.RangeFuncBound
import Derived.RangeFuncCalls
import Derived.RangeFuncLeaves
import Derived.Shelf.Abstract
import Derived.Shelf.RegionOpen
import Derived.OwnWalkIn
import Derived.TacticsInMore
import Derived.LoopNIn
import Derived.LoopIn
import Derived.Deep.MidRow
import Derived.Test.YticfcelbnkiopaaDoorBBC3
namespace Go.Proofs.YticfcelbnkiopaaDoor
set_option maxRecDepth 100000
open Go.RowKit
set_option linter.unusedSimpArgs false
set_option linter.unusedVariables false

theorem add64' (a b : UInt64) (h : a.toNat + b.toNat < 18446744073709551616) : (a + b).toNat = a.toNat + b.toNat := by
  rw [UInt64.toNat_add]; exact Nat.mod_eq_of_lt h
theorem shr64' (a : UInt64) (k : Nat) (h : k < 64) : (a >>> UInt64.ofNat k).toNat = a.toNat >>> k := by
  rw [UInt64.toNat_shiftRight, UInt64.toNat_ofNat', Nat.mod_eq_of_lt (by omega : k < 2 ^ 64), Nat.mod_eq_of_lt h]
theorem popR_nat (x : UInt64) : (popR x).toNat = popNat x.toNat ∧ popNat x.toNat < 9223372036854775808 := by
  have hrr : popR x = (let a := ((x >>> UInt64.ofNat 1) &&& 6148914691236517205) + (x &&& 6148914691236517205)
    let b := ((a >>> UInt64.ofNat 2) &&& 3689348814741910323) + (a &&& 3689348814741910323)
    let c := ((b >>> UInt64.ofNat 4) + b) &&& 1085102592571150095
    let d := c + (c >>> UInt64.ofNat 8)
    let e := d + (d >>> UInt64.ofNat 16)
    e + (e >>> UInt64.ofNat 32)) := rfl
  rw [hrr]
  unfold popNat
  simp only
  have l1 : ∀ y : UInt64, (y &&& 6148914691236517205).toNat ≤ 6148914691236517205 := fun y => by rw [UInt64.toNat_and]; exact Nat.and_le_right
  have l2 : ∀ y : UInt64, (y &&& 3689348814741910323).toNat ≤ 3689348814741910323 := fun y => by rw [UInt64.toNat_and]; exact Nat.and_le_right
  have l3 : ∀ y : UInt64, (y &&& 1085102592571150095).toNat ≤ 1085102592571150095 := fun y => by rw [UInt64.toNat_and]; exact Nat.and_le_right
  obtain ⟨a, ha⟩ : ∃ a, a = ((x >>> UInt64.ofNat 1) &&& 6148914691236517205) + (x &&& 6148914691236517205) := ⟨_, rfl⟩
  have ea : a.toNat = ((x.toNat >>> 1) &&& 6148914691236517205) + (x.toNat &&& 6148914691236517205) := by
    rw [ha, add64' _ _ (by have := l1 (x >>> UInt64.ofNat 1); have := l1 x; omega), UInt64.toNat_and, UInt64.toNat_and, shr64' _ _ (by decide)]; rfl
  rw [← ha, ← ea]
  obtain ⟨b, hb⟩ : ∃ b, b = ((a >>> UInt64.ofNat 2) &&& 3689348814741910323) + (a &&& 3689348814741910323) := ⟨_, rfl⟩
  have eb : b.toNat = ((a.toNat >>> 2) &&& 3689348814741910323) + (a.toNat &&& 3689348814741910323) := by
    rw [hb, add64' _ _ (by have := l2 (a >>> UInt64.ofNat 2); have := l2 a; omega), UInt64.toNat_and, UInt64.toNat_and, shr64' _ _ (by decide)]; rfl
  have bb : b.toNat ≤ 7378697629483820646 := by
    rw [hb, add64' _ _ (by have := l2 (a >>> UInt64.ofNat 2); have := l2 a; omega)]
    have := l2 (a >>> UInt64.ofNat 2); have := l2 a; omega
  rw [← hb, ← eb]
  obtain ⟨c, hc⟩ : ∃ c, c = ((b >>> UInt64.ofNat 4) + b) &&& 1085102592571150095 := ⟨_, rfl⟩
  have ec : c.toNat = ((b.toNat >>> 4) + b.toNat) &&& 1085102592571150095 := by
    rw [hc, UInt64.toNat_and, add64' _ _ (by rw [shr64' _ _ (by decide), Nat.shiftRight_eq_div_pow]; omega), shr64' _ _ (by decide)]; rfl
  have bc : c.toNat ≤ 1085102592571150095 := by rw [hc]; exact l3 _
  rw [← hc, ← ec]
  obtain ⟨d, hd⟩ : ∃ d, d = c + (c >>> UInt64.ofNat 8) := ⟨_, rfl⟩
  have ed : d.toNat = c.toNat + (c.toNat >>> 8) := by
    rw [hd, add64' _ _ (by rw [shr64' _ _ (by decide), Nat.shiftRight_eq_div_pow]; omega), shr64' _ _ (by decide)]
  have bd : d.toNat ≤ 1100000000000000000 := by
    rw [ed, Nat.shiftRight_eq_div_pow]; omega
  rw [← hd, ← ed]
  obtain ⟨e, he⟩ : ∃ e, e = d + (d >>> UInt64.ofNat 16) := ⟨_, rfl⟩
  have ee : e.toNat = d.toNat + (d.toNat >>> 16) := by
    rw [he, add64' _ _ (by rw [shr64' _ _ (by decide), Nat.shiftRight_eq_div_pow]; omega), shr64' _ _ (by decide)]
  have be : e.toNat ≤ 1200000000000000000 := by
    rw [ee, Nat.shiftRight_eq_div_pow]; omega
  rw [← he, ← ee]
  have ef : (e + (e >>> UInt64.ofNat 32)).toNat = e.toNat + (e.toNat >>> 32) := by
    rw [add64' _ _ (by rw [shr64' _ _ (by decide), Nat.shiftRight_eq_div_pow]; omega), shr64' _ _ (by decide)]
  refine ⟨ef, ?_⟩
  rw [Nat.shiftRight_eq_div_pow]; omega
theorem cnt_word (u : List Bool) (k : Nat) (w : World) : Calls Tryd.prog 141 #[.int .u64 ((wrd u k).toNat : Int)] w fun e w' => e = .returned (.int .i64 ((cntN (fun j => u.getD (64 * k + j) false) 64 : Nat) : Int)) ∧ w = w' := by
  obtain ⟨h1, h2⟩ := popR_nat (wrd u k)
  have e : popNat (wrd u k).toNat % 128 = cntN (fun j => u.getD (64 * k + j) false) 64 := by rw [wrd_nat, pop_bitN]
  have := ones_any (wrd u k) (popNat (wrd u k).toNat) h1 h2 w
  rw [e] at this
  exact this
section
variable {ops : Array Oper} {rest : List Oper} {o : Oper} {a : Act} {Q : Exit → Act → World → Prop} {w : World} {ρ : Operand → Value}
theorem xIndexU {m : Nat} (t : TypeId) (ht : Tryd.prog.underlying t = some (.array m 158)) (x y : Operand) (ho : o.op = .index t x y) (xs : List UInt64) (hx : ρ x = .agg (xs.map v64).toArray) (hl : xs.length = m) (i : Nat) (hy : ρ y = .int .i64 (i : Int)) (hi : i < m) :
    (execOp ρ o).run Tryd.prog w = .ok (.value (v64 (xs.getD i 0))) w := by
  have h := exec_index (w := w) (EqT.int (P := Tryd.prog) (α := UInt64) 158 .u64 Tryd.underlying158 (size_of _ (by kernel_rfl)) (fun x => (x.toNat : Int))) t x y ho ht xs (by rw [hx, map_flat]) hl i .i64 hy (by omega)
  rw [h, List.getD_eq_getElem?_getD, List.getElem?_eq_getElem (by omega)]; rfl
end
theorem mC_words (n : Nat) (u : List Bool) : ((mC n (wL u)).drop 1).take 8 = (wL u).map v64 := by
  rw [mC, List.drop_succ_cons, List.drop_zero, List.take_of_length_le (by rw [List.length_map, wL_len]; exact Nat.le_refl _)]
set_option maxHeartbeats 1600000 in
theorem mapFree_any (bm : Nat) (u : List Bool) (hu : u.length ≤ 512) (w : World) (hv : VA w bm 161 (mC u.length (wL u))) : Calls Tryd.prog 112 #[.pointer (some ⟨bm, 0, none⟩)] w fun e w' => e = .returned (.int .i64 (freeN u : Int)) ∧ w = w' := by
  have HL := Lib.hid (mapLen_any u.length bm (wL u) w hv)
  have RO : HOLD [.blk bm 161 (mC u.length (wL u))] w := fun o ho => by rw [List.mem_singleton.mp ho]; exact hv
  have HD := Lib.hid (mC_words u.length u)
  have HWL := Lib.hid (show ((wL u).map v64).length = 8 by rw [List.length_map, wL_len])
  have hall := cntK_all u 512 hu
  have HALL := Lib.hid hall
  have HU := Lib.hid hu
  clear hv hall hu
  go_enter Tryd.func112, Tryd.ntmps112
  go_wp2_with (first
    | (go_at_call 140; refine HL.out.mono ?_; rintro e w' ⟨rfl, rfl⟩)
    | ((with_reducible refine gDst 14 ?_); refine stepV (xLoad RO _ rfl rfl HD.out HWL.out) rfl ?_))
  go_loopw [3, 15] (fun v3 v15 wr => ∃ k : Nat, v15 = .int .i64 (k : Int) ∧ k ≤ 8 ∧ v3 = .int .i64 ((u.length : Int) - (cntK u (64 * k) : Int)) ∧ w = wr) (fun _ v _ => 8 - (intOf v).toNat)
  case atStart => exact ⟨0, rfl, by omega, by simp [cntK, cntN], rfl⟩
  case round =>
    obtain ⟨k, rfl, hk, rfl, rfl⟩ := hrel
    by_cases h8 : k < 8
    · have hki : (k : Int) < 8 := by omega
      have hg := wL_get u k h8
      have HC := Lib.hid (cnt_word u k w)
      have hword := cntK_word u k
      have hle := cntN_le (fun j => u.getD (64 * k + j) false) 64
      have HG := Lib.hid hg
      have hcl : cntK u (64 * k) ≤ 64 * k := cntN_le _ _
      generalize cntN (fun j => u.getD (64 * k + j) false) 64 = c at *
      have hul := HU.out
      have k1 : IntKind.i64.wrap ((u.length : Int) - (cntK u (64 * k) : Int) - (c : Int)) = (u.length : Int) - (cntK u (64 * (k + 1)) : Int) := by
        rw [i64w _ (by omega) (by omega), hword]; omega
      have HW := Lib.hid hword
      clear hword hg hle hul hcl
      go_wp2_with (first
        | ((with_reducible refine gDst 17 ?_); refine stepV (xIndexU 159 Tryd.underlying159 _ _ rfl (wL u) rfl (wL_len u) k rfl h8) rfl ?_; rw [HG.out])
        | (go_at_call 141; refine HC.out.mono ?_; rintro e w' ⟨rfl, rfl⟩))
      go_roundw
      case rel => first | exact ⟨k + 1, by go_num, by omega, rfl, trivial⟩ | exact ⟨_, ⟨k + 1, by go_num, by omega, rfl, trivial⟩, rfl⟩ | exact ⟨_, _, ⟨k + 1, by go_num, by omega, rfl, trivial⟩, rfl, rfl⟩ | exact ⟨_, _, _, ⟨k + 1, by go_num, by omega, rfl, trivial⟩, rfl, rfl, rfl⟩ | exact ⟨_, _, _, _, ⟨k + 1, by go_num, by omega, rfl, trivial⟩, rfl, rfl, rfl, rfl⟩ | exact ⟨_, _, _, _, _, ⟨k + 1, by go_num, by omega, rfl, trivial⟩, rfl, rfl, rfl, rfl, rfl⟩ | ((repeat (apply Exists.intro)); exact ⟨⟨k + 1, by go_num, by omega, rfl, trivial⟩, rfl⟩)
      case measure => simp [intOf] <;> omega
    · obtain rfl : k = 8 := by omega
      have hr : (u.length : Int) - (cntK u (64 * 8) : Int) = (freeN u : Int) := by have := HALL.out; change cntK u (64 * 8) + _ = _ at this; omega
      go_wp2
      go_ret
      exact ⟨congrArg (fun z => Ending.returned (.int .i64 z)) hr, rfl⟩
/-! The lowest one. -/
theorem tz_pow : ∀ r, r < 64 → tabL.getD (((UInt64.ofNat (2 ^ r) * 285870213051353865) >>> 58).toNat) 0 = r := by decide
theorem tz_word (u : List Bool) (i : Nat) (hi : i < 512) (h0 : u.getD i false = false) (h1 : ∀ j, j < i → u.getD j false = true) (w : World) (hT : TabAt w) :
    Calls Tryd.prog 142 #[.int .u64 ((~~~ (wrd u (i / 64))).toNat : Int)] w fun e w' => e = .returned (.int .i64 ((i % 64 : Nat) : Int)) ∧ w = w' := by
  obtain ⟨-, h3, h4⟩ := low_words u i hi h0 h1
  have := tz_any (~~~ (wrd u (i / 64))) h4 w hT
  rw [tzI, h3, tz_pow _ (by omega)] at this
  exact this
theorem ofInt64 (a : UInt64) : BitVec.ofInt 64 (a.toNat : Int) = a.toBitVec := by
  apply BitVec.eq_of_toNat_eq
  simp
theorem not64 (a : UInt64) : bits .xor .u64 IntKind.u64.max (a.toNat : Int) = ((~~~ a).toNat : Int) := by
  have e : bits .xor .u64 IntKind.u64.max (a.toNat : Int) = IntKind.u64.wrap (((BitVec.ofInt 64 18446744073709551615 ^^^ BitVec.ofInt 64 (a.toNat : Int)).toNat : Nat) : Int) := rfl
  have e2 : BitVec.ofInt 64 18446744073709551615 ^^^ a.toBitVec = ~~~ a.toBitVec := by
    have : BitVec.ofInt 64 18446744073709551615 = BitVec.allOnes 64 := by decide
    rw [this, BitVec.allOnes_xor]
  rw [e, ofInt64, e2, IntKind.wrap_u64]
  have e3 : (~~~ a.toBitVec).toNat = (~~~ a).toNat := rfl
  rw [e3]
  have := UInt64.toNat_lt (~~~ a)
  omega
theorem andNot64 (a b : UInt64) : bits .andNot .u64 (a.toNat : Int) (b.toNat : Int) = ((a &&& ~~~ b).toNat : Int) := by
  have e : bits .andNot .u64 (a.toNat : Int) (b.toNat : Int) = IntKind.u64.wrap (((BitVec.ofInt 64 (a.toNat : Int) &&& ~~~ BitVec.ofInt 64 (b.toNat : Int)).toNat : Nat) : Int) := rfl
  rw [e, ofInt64, ofInt64, IntKind.wrap_u64]
  have e3 : (a.toBitVec &&& ~~~ b.toBitVec).toNat = (a &&& ~~~ b).toNat := rfl
  rw [e3]
  have := UInt64.toNat_lt (a &&& ~~~ b)
  omega
set_option maxHeartbeats 1600000 in
theorem mapLowest_any (bm : Nat) (u : List Bool) (hu : u.length ≤ 512) (hf : 0 < freeN u) (w : World) (hT : TabAt w) (hv : VA w bm 161 (mC u.length (wL u))) : Calls Tryd.prog 113 #[.pointer (some ⟨bm, 0, none⟩)] w fun e w' => e = .returned (.int .i64 (lowF u : Int)) ∧ w = w' := by
  have RO : HOLD [.blk bm 161 (mC u.length (wL u))] w := fun o ho => by rw [List.mem_singleton.mp ho]; exact hv
  have HD := Lib.hid (mC_words u.length u)
  have HWL := Lib.hid (show ((wL u).map v64).length = 8 by rw [List.length_map, wL_len])
  obtain ⟨q1, q2, q3⟩ := lowF_spec u hf
  have hi : lowF u < 512 := by omega
  have HTZ := Lib.hid (tz_word u (lowF u) hi q2 q3 w hT)
  obtain ⟨r1, r2, r3⟩ := low_words u (lowF u) hi q2 q3
  have hsum : lowF u / 64 * 64 + lowF u % 64 = lowF u := by omega
  have hq8 : lowF u / 64 < 8 := by omega
  generalize lowF u % 64 = r at *
  generalize hq : lowF u / 64 = q at *
  generalize lowF u = i at *
  have HR1 := Lib.hid r1
  have HR3 := Lib.hid r3
  have HSUM := Lib.hid hsum
  clear hv q1 q2 q3 r1 r2 r3 hf hT hq hsum hu
  go_enter Tryd.func113, Tryd.ntmps113
  go_wp2_with (first
    | ((with_reducible refine gDst 8 ?_); refine stepV (xLoad RO _ rfl rfl HD.out HWL.out) rfl ?_))
  go_loopw [9] (fun v9 wr => ∃ k : Nat, v9 = .int .i64 (k : Int) ∧ k ≤ q ∧ w = wr) (fun v _ => 8 - (intOf v).toNat)
  case atStart => exact ⟨0, rfl, by omega, rfl⟩
  case round =>
    obtain ⟨k, rfl, hk, rfl⟩ := hrel
    have h8 : k < 8 := by omega
    have hki : (k : Int) < 8 := by omega
    have HG := Lib.hid (wL_get u k h8)
    have hn := not64 (wrd u k)
    by_cases hkq : k < q
    · have hz := HR1.out k hkq
      rw [hz] at hn
      change bits .xor .u64 IntKind.u64.max _ = (0 : Int) at hn
      have hb : (bits .xor .u64 IntKind.u64.max ((wrd u k).toNat : Int) != 0) = false := by rw [hn]; rfl
      have hb2 : (bits .xor .u64 (if IntKind.u64.signed = true then -1 else IntKind.u64.max) ((wrd u k).toNat : Int) != 0) = false := hb
      clear hz hn
      go_wp2_with (first
        | ((with_reducible refine gDst 12 ?_); refine stepV (xIndexU 159 Tryd.underlying159 _ _ rfl (wL u) rfl (wL_len u) k rfl h8) rfl ?_; rw [HG.out]))
      go_roundw
      case rel => first | exact ⟨k + 1, by go_num, by omega, trivial⟩ | exact ⟨_, ⟨k + 1, by go_num, by omega, trivial⟩, rfl⟩ | exact ⟨_, _, ⟨k + 1, by go_num, by omega, trivial⟩, rfl, rfl⟩ | exact ⟨_, _, _, ⟨k + 1, by go_num, by omega, trivial⟩, rfl, rfl, rfl⟩ | exact ⟨_, _, _, _, ⟨k + 1, by go_num, by omega, trivial⟩, rfl, rfl, rfl, rfl⟩ | exact ⟨_, _, _, _, _, ⟨k + 1, by go_num, by omega, trivial⟩, rfl, rfl, rfl, rfl, rfl⟩ | ((repeat (apply Exists.intro)); exact ⟨⟨k + 1, by go_num, by omega, trivial⟩, rfl⟩)
      case measure => simp [intOf] <;> omega
    · obtain rfl : k = q := by omega
      have hne : (((~~~ (wrd u k)).toNat : Int) != 0) = true := by
        simp only [bne_iff_ne, ne_eq]
        intro h
        exact HR3.out (UInt64.toNat_inj.1 (by rw [UInt64.toNat_zero]; omega))
      rw [← hn] at hne
      have HTZ2 := HTZ
      rw [← hn] at HTZ2
      have hb2 : (bits .xor .u64 (if IntKind.u64.signed = true then -1 else IntKind.u64.max) ((wrd u k).toNat : Int) != 0) = true := hne
      clear HTZ hn
      have m1 : (k : Int) * 64 + (r : Int) = (i : Int) := by have := HSUM.out; omega
      have k1 : IntKind.i64.wrap ((k : Int) * 64) = (k : Int) * 64 := i64w _ (by omega) (by omega)
      have k2 : IntKind.i64.wrap (i : Int) = (i : Int) := i64w _ (by omega) (by omega)
      go_wp2_with (first
        | ((with_reducible refine gDst 12 ?_); refine stepV (xIndexU 159 Tryd.underlying159 _ _ rfl (wL u) rfl (wL_len u) k rfl h8) rfl ?_; rw [HG.out])
        | (go_at_call 142; refine HTZ2.out.mono ?_; rintro e w' ⟨rfl, rfl⟩))
      go_ret
      exact ⟨rfl, rfl⟩
end Go.Proofs.YticfcelbnkiopaaDoor

namespace Go.Proofs.YticfcelbnkiopaaDoor
set_option maxRecDepth 100000
open Go.RowKit
set_option linter.unusedSimpArgs false
set_option linter.unusedVariables false

/-- All blocks of some things. -/
def feet (D : List Own) : Nat → Prop := fun k => ∃ o ∈ D, o.foot k
theorem SH.subL {F : Nat → Prop} {w0 w : World} {D L : List Own} (h : SH F w0 w (D ++ L)) : SH (feet D) w w D :=
  ⟨Chg.refl _ w, fun o ho => h.holds o (List.mem_append_left _ ho), fun o ho b hb => .inl ⟨o, ho, hb⟩, (List.pairwise_append.1 h.apart).1⟩
/-- A callee that was handed the things of D. -/
theorem SH.viaL {F : Nat → Prop} {w0 w w' : World} {D D' L : List Own} (h : SH F w0 w (D ++ L)) (k : SH (feet D) w w' D') : SH F w0 w' (D' ++ L) := by
  have hap := List.pairwise_append.1 h.apart
  have hD : ∀ b, feet D b → F b ∨ w0.heap.size ≤ b := fun b ⟨o, ho, hb⟩ => h.foot o (List.mem_append_left _ ho) b hb
  have hL : ∀ o ∈ L, ∀ b, o.foot b → b < w.heap.size ∧ ¬ feet D b := fun o ho b hb => ⟨o.lt w b (h.holds o (List.mem_append_right _ ho)) hb, fun ⟨o', ho', hb'⟩ => hap.2.2 o' ho' o ho b hb' hb⟩
  refine ⟨⟨k.chg.os.trans h.chg.os, k.chg.tape.trans h.chg.tape, k.chg.output.trans h.chg.output, Nat.le_trans h.chg.size k.chg.size, fun i hi hn => (k.chg.block i (Nat.lt_of_lt_of_le hi h.chg.size) fun hf => ?_).trans (h.chg.block i hi hn)⟩, fun o ho => ?_, fun o ho b hb => ?_, List.pairwise_append.2 ⟨k.apart, hap.2.1, fun o ho o' ho' b hb hb' => ?_⟩⟩
  · rcases hD i hf with h1 | h1
    · exact hn h1
    · omega
  · rcases List.mem_append.mp ho with ho | ho
    · exact k.holds o ho
    · exact o.keep w w' (h.holds o (List.mem_append_right _ ho)) k.chg.size fun b hb => k.chg.block b (hL o ho b hb).1 (hL o ho b hb).2
  · rcases List.mem_append.mp ho with ho | ho
    · rcases k.foot o ho b hb with h1 | h1
      · exact hD b h1
      · exact .inr (Nat.le_trans h.chg.size h1)
    · exact h.foot o (List.mem_append_right _ ho) b hb
  · have h2 := hL o' ho' b hb'
    rcases k.foot o ho b hb with h1 | h1
    · exact h2.2 h1
    · omega
/-- A write that waits: where, and its bytes' slice. -/
abbrev WV := Int × SVV
def WT : Ty WV := ⟨144, 2, 32, .agg #[.int .i64 0, .slice none 0 0], fun x => [.int .i64 x.1, x.2.val], fun _ => rfl, fun x u hu => by rcases List.mem_cons.mp hu with rfl | hu <;> first | rfl | (rw [List.mem_singleton.mp hu]; rfl), by decide, by decide⟩
abbrev wv0 : WV := (0, sv0)
/-- A disk: its sectors' bytes, its waiting writes, its fuse, its power. -/
structure DS where
  on : List UInt8
  ws : List (Nat × List UInt8)
  lets : Int
  off : Bool
def DS.pairs (st : DS) (ss : List SVV) : List WV := (st.ws.map fun x => (x.1 : Int)).zip ss
def diskL (bd bo : Nat) (vw : Value) (ss : List SVV) (st : DS) : List Own :=
  [.blk bd 142 [.slice (some ⟨bo, 0, none⟩) st.on.length st.on.length, vw, .int .i64 st.lets, .bool st.off], .blk bo 5 (st.on.map cb), .row WT vw (st.pairs ss), .rdAll ss (st.ws.map (·.2))]
/-- What is read of a sector. -/
def DS.sec (st : DS) (i : Nat) : List UInt8 := (st.on.drop (i * 256)).take 256
/-- The newest of the first k waiting writes of a sector, or what is on the disk. -/
def DS.readK (st : DS) (i : Nat) : Nat → List UInt8
  | 0 => st.sec i
  | k + 1 => if (st.ws.getD k (0, [])).1 = i then (st.ws.getD k (0, [])).2 else st.readK i k
def DS.read (st : DS) (i : Nat) : List UInt8 := st.readK i st.ws.length
end Go.Proofs.YticfcelbnkiopaaDoor

namespace Go.Proofs.YticfcelbnkiopaaDoor
set_option maxRecDepth 100000
open Go.RowKit
set_option linter.unusedSimpArgs false
set_option linter.unusedVariables false

/-- The map behind so many takings; what was taken. -/
def tkU (u : List Bool) : Nat → List Bool
  | 0 => u
  | k + 1 => (tkU u k).set (lowF (tkU u k)) true
def tkL (u : List Bool) : Nat → List Nat
  | 0 => []
  | k + 1 => tkL u k ++ [lowF (tkU u k)]
theorem tkU_len (u : List Bool) : ∀ k, (tkU u k).length = u.length
  | 0 => rfl
  | k + 1 => by rw [tkU, List.length_set, tkU_len u k]
theorem tkL_len (u : List Bool) : ∀ k, (tkL u k).length = k
  | 0 => rfl
  | k + 1 => by rw [tkL, List.length_append, tkL_len u k]; rfl
theorem tkU_free (u : List Bool) : ∀ k, k ≤ freeN u → freeN (tkU u k) + k = freeN u
  | 0, _ => rfl
  | k + 1, h => by
    have ih := tkU_free u k (by omega)
    obtain ⟨h1, h2, -⟩ := lowF_spec (tkU u k) (by omega)
    have := freeN_set (tkU u k) _ h1 h2
    rw [tkU]; omega
def l32 (l : List Nat) : List UInt32 := l.map UInt32.ofNat
def relTk (F : Nat → Prop) (w : World) (bm : Nat) (u : List Bool) (k : Nat) (v6 v25 : Value) (wr : World) : Prop := ∃ (j : Nat) (A : Option Addr) (c : Nat), v25 = .int .i64 (j : Int) ∧ j ≤ k ∧ v6 = .slice A j c ∧ SH F w wr [.row U32T (.slice A j c) (l32 (tkL u j)), .blk bm 161 (mC u.length (wL (tkU u j)))]
set_option maxHeartbeats 1600000 in
theorem mapTake_ok (bm k : Nat) (u : List Bool) (hu : u.length ≤ 512) (hk : k ≤ 8) (hf : k ≤ freeN u) (w : World) (hT : ∀ w', Chg (fun b => b = bm) w w' → TabAt w') (hv : VA w bm 161 (mC u.length (wL u))) :
    Calls Tryd.prog 64 #[.pointer (some ⟨bm, 0, none⟩), .int .i64 (k : Int)] w fun e w' => ∃ A c, e = .returned (.tuple #[.slice A k c, .int .i64 0]) ∧ SH (fun b => b = bm) w w' [.row U32T (.slice A k c) (l32 (tkL u k)), .blk bm 161 (mC u.length (wL (tkU u k)))] := by
  have H := SH.ofB hv
  obtain ⟨F, hF⟩ : ∃ F : Nat → Prop, F = fun b => b = bm := ⟨_, rfl⟩
  rw [← hF] at H hT ⊢
  have HFR := Lib.hid (fun W (h : VA W bm 161 (mC u.length (wL u))) => mapFree_any bm u hu W h)
  have HT := Lib.hid hT
  have HFF := Lib.hid hf
  have HU := Lib.hid hu
  have hki : (k : Int) ≤ 8 := by omega
  have hk0 : ((8 : Int) < (k : Int)) = False := eq_false (by omega)
  have hfi : ((freeN u : Int) < (k : Int)) = False := eq_false (by omega)
  have hk1 : ((k : Int) < 0) = False := eq_false (by omega)
  clear hF hT hf hu hv
  go_enter Tryd.func64, Tryd.ntmps64
  go_wp2_with (first
    | (go_at_call 112; refine (HFR.out _ (H.hold.va (b := bm))).mono ?_; rintro e w' ⟨rfl, rfl⟩)
    | (at_builtin; refine aAppB1 _ H _ _ rfl rfl rfl (by first | omega | (have := HCL.out; omega)) rfl ?_; clear H; intro v' w' ys HY H; (try dsimp only at H); obtain ⟨A', c', rfl, hc'⟩ := (H.hold.rr v').len))
  have H2 := H.nilRow U32T
  clear H
  go_loopw [6, 25] (fun v6 v25 wr => relTk F w bm u k v6 v25 wr) (fun _ v _ => k - (intOf v).toNat)
  case atStart => exact ⟨0, none, 0, rfl, by omega, rfl, H2⟩
  case round =>
    obtain ⟨j, A, c, rfl, hj, rfl, HS⟩ := hrel
    clear H2
    have H := HS
    clear HS
    by_cases hjk : j < k
    · have hji : (j : Int) < (k : Int) := by omega
      have hfree := tkU_free u j (by have := HFF.out; omega)
      have hul := tkU_len u j
      have hfp : 0 < freeN (tkU u j) := by have := HFF.out; omega
      obtain ⟨q1, q2, q3⟩ := lowF_spec (tkU u j) hfp
      have hlow := fun W h hT => mapLowest_any bm (tkU u j) (by rw [hul]; exact HU.out) hfp W hT h
      rw [hul] at hlow q1
      have hset := fun W (h : VA W bm 161 (mC u.length (wL (tkU u j)))) => mapSet_any u.length bm (lowF (tkU u j)) (wL (tkU u j)) (wL_len _) (by have := HU.out; omega) W h
      rw [setU_wL _ _ (by rw [hul]; exact q1) (by have := HU.out; omega)] at hset
      change ∀ W, VA W bm 161 (mC u.length (wL (tkU u j))) → Calls Tryd.prog 114 #[.pointer (some ⟨bm, 0, none⟩), .int .i64 ((lowF (tkU u j) : Nat) : Int)] W fun e w' => e = .returned (.tuple #[]) ∧ SH (fun k => k = bm) W w' [.blk bm 161 (mC u.length (wL (tkU u (j + 1))))] at hset
      have hnext : l32 (tkL u (j + 1)) = l32 (tkL u j) ++ [UInt32.ofNat (lowF (tkU u j))] := by rw [tkL, l32, List.map_append]; rfl
      have hll : (l32 (tkL u j)).length = j := by rw [l32, List.length_map, tkL_len]
      have hi512 : lowF (tkU u j) < 512 := by have := HU.out; omega
      have hun : ((UInt32.ofNat (lowF (tkU u j))).toNat : Int) = (lowF (tkU u j) : Int) := by rw [UInt32.toNat_ofNat', Nat.mod_eq_of_lt (by omega)]
      generalize lowF (tkU u j) = i at *
      have hw32 : IntKind.u32.wrap (i : Int) = ((UInt32.ofNat i).toNat : Int) := by rw [hun, IntKind.wrap_u32]; omega
      have HLOW := Lib.hid hlow
      have HSET := Lib.hid hset
      have HNX := Lib.hid hnext
      have HLL := Lib.hid hll
      generalize UInt32.ofNat i = x at *
      generalize tkU u j = uj at *
      generalize hU1 : tkU u (j + 1) = uj1 at *
      have HU1 := Lib.hid hU1
      clear hU1
      generalize l32 (tkL u j) = lj at *
      clear hlow hset hnext q2 q3 hfree hfp hul hll hun
      go_wp2_with (first
        | (go_at_call 113; refine (HLOW.out _ (H.hold.va (b := bm)) (HT.out _ H.chg)).mono ?_; rintro e w' ⟨rfl, rfl⟩)
        | (go_at_call 114; refine (HSET.out _ (H.hold.va (b := bm))).mono ?_; rintro e w' ⟨rfl, k2⟩; replace H := H.viaB k2; (try dsimp only at H); clear k2)
        | ((with_reducible refine gDst 36 ?_); refine aAppLit sW [x] #[vw x] rfl (by simp) 1 rfl H _ _ rfl rfl rfl (by rw [HLL.out]; show (j + 1) * 4 ≤ _; omega) rfl ?_; clear H; intro v' w' ys HY H; (try dsimp only at H); rw [HY.out, ← HNX.out] at H; obtain ⟨A', c', rfl, hc'⟩ := (H.hold.rr v').len)
        | (at_builtin; refine aAppB1 _ H _ _ rfl rfl rfl (by first | omega | (have := HCL.out; omega)) rfl ?_; clear H; intro v' w' ys HY H; (try dsimp only at H); obtain ⟨A', c', rfl, hc'⟩ := (H.hold.rr v').len))
      have hl1 : (l32 (tkL u (j + 1))).length = j + 1 := by rw [l32, List.length_map, tkL_len]
      rw [hl1, ← HU1.out] at H
      go_roundw
      case rel => first | exact ⟨j + 1, A', c', by go_num, by omega, by rw [hl1], H⟩ | exact ⟨_, ⟨j + 1, A', c', by go_num, by omega, by rw [hl1], H⟩, rfl⟩ | exact ⟨_, _, ⟨j + 1, A', c', by go_num, by omega, by rw [hl1], H⟩, rfl, rfl⟩ | exact ⟨_, _, _, ⟨j + 1, A', c', by go_num, by omega, by rw [hl1], H⟩, rfl, rfl, rfl⟩ | exact ⟨_, _, _, _, ⟨j + 1, A', c', by go_num, by omega, by rw [hl1], H⟩, rfl, rfl, rfl, rfl⟩ | exact ⟨_, _, _, _, _, ⟨j + 1, A', c', by go_num, by omega, by rw [hl1], H⟩, rfl, rfl, rfl, rfl, rfl⟩ | ((repeat (apply Exists.intro)); exact ⟨⟨j + 1, A', c', by go_num, by omega, by rw [hl1], H⟩, rfl⟩)
      case measure => simp [intOf] <;> omega
    · obtain rfl : j = k := by omega
      go_wp2
      go_ret2
      exact ⟨A, c, rfl, H⟩
set_option maxHeartbeats 1600000 in
theorem mapTake_full (bm k : Nat) (u : List Bool) (hu : u.length ≤ 512) (hk : k ≤ 8) (hf : freeN u < k) (w : World) (hv : VA w bm 161 (mC u.length (wL u))) :
    Calls Tryd.prog 64 #[.pointer (some ⟨bm, 0, none⟩), .int .i64 (k : Int)] w fun e w' => e = .returned (.tuple #[.slice none 0 0, .int .i64 7]) ∧ w = w' := by
  have HFR := Lib.hid (mapFree_any bm u hu w hv)
  have hk0 : ((8 : Int) < (k : Int)) = False := eq_false (by omega)
  have hfi : ((freeN u : Int) < (k : Int)) := by omega
  have hk1 : ((k : Int) < 0) = False := eq_false (by omega)
  clear hv hf hu
  go_enter Tryd.func64, Tryd.ntmps64
  go_wp2_with (first
    | (go_at_call 112; refine HFR.out.mono ?_; rintro e w' ⟨rfl, rfl⟩))
  go_ret2
  exact ⟨rfl, rfl⟩
set_option maxHeartbeats 1600000 in
theorem mapGive_ok (bm i : Nat) (u : List Bool) (hu : u.length ≤ 512) (h4 : 4 ≤ i) (hi : i < u.length) (hx : u.getD i true = true) (w : World) (hv : VA w bm 161 (mC u.length (wL u))) :
    Calls Tryd.prog 115 #[.pointer (some ⟨bm, 0, none⟩), .int .u32 (i : Int)] w fun e w' => e = .returned (.int .i64 0) ∧ SH (fun b => b = bm) w w' [.blk bm 161 (mC u.length (wL (u.set i false)))] := by
  have H := SH.ofB hv
  have HUS := Lib.hid (fun W (h : VA W bm 161 (mC u.length (wL u))) => mapUsed_any bm i u hu (by omega) W h)
  rw [hx] at HUS
  have hq : (i : Int).tdiv 64 = ((i / 64 : Nat) : Int) := by rw [Int.tdiv_eq_ediv_of_nonneg (by omega)]; push_cast; rfl
  have hm : (i : Int).tmod 64 = ((i % 64 : Nat) : Int) := by rw [Int.tmod_eq_emod_of_nonneg (by omega)]; push_cast; rfl
  have hql : i / 64 < 8 := by omega
  have hrl : i % 64 < 64 := by omega
  have c0 : w.cell? ⟨bm, 0, none⟩ = some (.int .i64 (u.length : Int)) := hv.cell 0
  have hc := cell_word hv (i / 64) hql
  have hset : (mC u.length (wL u)).set (1 + i / 64) (v64 (wrd u (i / 64) &&& ~~~ (bit64 (i % 64)))) = mC u.length (wL (u.set i false)) := by
    rw [← clrU_wL u i hi (by omega), mC, mC, clrU, Nat.add_comm, List.set_cons_succ, List.map_set, wL_get _ _ hql]
  have ho := andNot64 (wrd u (i / 64)) (bit64 (i % 64))
  have hb := bit64_nat _ hrl
  have hp : (2 : Int) ^ (i % 64) = ((bit64 (i % 64)).toNat : Int) := by rw [hb]; push_cast; rfl
  have hlen : (mC u.length (wL u)).length = 9 := by rw [mC, List.length_cons, List.length_map, wL_len]
  have h4i : ((i : Int) < 4) = False := eq_false (by omega)
  have hni : ((u.length : Int) ≤ (i : Int)) = False := eq_false (by omega)
  have hii : (i : Int) < 512 := by omega
  have hwi : IntKind.i64.wrap (i : Int) = (i : Int) := i64w _ (by omega) (by omega)
  generalize wrd u (i / 64) &&& ~~~ (bit64 (i % 64)) = z at *
  generalize wrd u (i / 64) = x at *
  have hyl : (bit64 (i % 64)).toNat < 18446744073709551616 := UInt64.toNat_lt _
  generalize bit64 (i % 64) = y at *
  generalize hQ : i / 64 = q at *
  generalize hR : i % 64 = r at *
  have hqi : (q : Int) < 8 := by omega
  have hri : (r : Int) < 64 := by omega
  have hyw : IntKind.u64.wrap (y.toNat : Int) = (y.toNat : Int) := by rw [IntKind.wrap_u64]; omega
  have hqw : IntKind.i64.wrap (q : Int) = (q : Int) := i64w _ (by omega) (by omega)
  have HSET := Lib.hid hset
  have HLEN := Lib.hid hlen
  clear hset hlen hv hb hyl hQ hR hx hu h4 hi
  go_enter Tryd.func115, Tryd.ntmps115
  go_wp2_with (first
    | ((with_reducible refine gDst 19 ?_); refine aLoadC _ rfl rfl c0 rfl ?_)
    | (go_at_call 143; refine (HUS.out _ (H.hold.va (b := bm))).mono ?_; rintro e w' ⟨rfl, rfl⟩))
  refine startA (fun i => i == 14) (by kernel_rfl) (fun wS hS => ?_)
  replace H := H.drew
  rw [← hS] at H
  have HH := H.hold
  have HS0 : Below wS.heap.size wS wS := Below.refl _ _
  replace hc := cellS hS hc
  clear hS
  refine takeP 0 rfl (by kernel_rfl) (by kernel_rfl) (by kernel_rfl) (by kernel_rfl) (fun _ _ _ h => h) rfl (v := ?_) ?_ ?_
  rotate_left
  · intro w'; go_simp; (try with_reducible rfl)
  (try simp only [Act.put, List.setIfInBounds_toArray, List.set_cons_zero, List.set_cons_succ])
  refine takeP 1 rfl (by kernel_rfl) (by kernel_rfl) (by kernel_rfl) (by kernel_rfl) (fun _ _ _ h => h) rfl (v := ?_) ?_ ?_
  rotate_left
  · intro w'; go_simp; (try with_reducible rfl)
  (try simp only [Act.put, List.setIfInBounds_toArray, List.set_cons_zero, List.set_cons_succ])
  refine takeP 2 rfl (by kernel_rfl) (by kernel_rfl) (by kernel_rfl) (by kernel_rfl) (fun _ _ _ h => h) rfl (v := ?_) ?_ ?_
  rotate_left
  · intro w'; go_simp; (try with_reducible rfl)
  (try simp only [Act.put, List.setIfInBounds_toArray, List.set_cons_zero, List.set_cons_succ])
  refine takeP 3 rfl (by kernel_rfl) (by kernel_rfl) (by kernel_rfl) (by kernel_rfl) (fun _ _ _ h => h) rfl (v := ?_) ?_ ?_
  rotate_left
  · intro w'; go_simp; (try with_reducible rfl)
  (try simp only [Act.put, List.setIfInBounds_toArray, List.set_cons_zero, List.set_cons_succ])
  refine takeP 4 rfl (by kernel_rfl) (by kernel_rfl) (by kernel_rfl) (by kernel_rfl) (fun _ _ _ h => h) rfl (v := ?_) ?_ ?_
  rotate_left
  · intro w'; go_simp; (try with_reducible rfl)
  (try simp only [Act.put, List.setIfInBounds_toArray, List.set_cons_zero, List.set_cons_succ])
  refine takeP 5 rfl (by kernel_rfl) (by kernel_rfl) (by kernel_rfl) (by kernel_rfl) (fun _ _ _ h => h) rfl (v := ?_) ?_ ?_
  rotate_left
  · intro w'; go_simp; (try with_reducible rfl)
  (try simp only [Act.put, List.setIfInBounds_toArray, List.set_cons_zero, List.set_cons_succ])
  refine takeL 6 HS0 rfl (by kernel_rfl) (by kernel_rfl) (by kernel_rfl) (by kernel_rfl) (by kernel_rfl) (fun _ _ _ h => h) rfl (v := ?_) ?_ ?_
  rotate_left
  · intro w' hw'; first | (refine Eq.trans (xLoad1 (HH.below hw') _ rfl rfl (by first | exact (rfl : _ = some (Value.int _ _)) | exact (rfl : _ = some (Value.slice _ _ _)) | exact (rfl : _ = some (Value.bool _)) | exact (rfl : _ = some (Value.string _)) | exact (rfl : _ = some (Value.pointer _)) | rfl | (simp [List.getElem?_append]; done))) ?_; with_reducible rfl) | (refine Eq.trans (xLoadC _ rfl rfl (cell_below hw' (by assumption))) ?_; with_reducible rfl)
  (try simp only [Act.put, List.setIfInBounds_toArray, List.set_cons_zero, List.set_cons_succ])
  refine takeP 7 rfl (by kernel_rfl) (by kernel_rfl) (by kernel_rfl) (by kernel_rfl) (fun _ _ _ h => h) rfl (v := ?_) ?_ ?_
  rotate_left
  · intro w'; go_simp; (try with_reducible rfl)
  (try simp only [Act.put, List.setIfInBounds_toArray, List.set_cons_zero, List.set_cons_succ])
  refine takeP 8 rfl (by kernel_rfl) (by kernel_rfl) (by kernel_rfl) (by kernel_rfl) (fun _ _ _ h => h) rfl (v := ?_) ?_ ?_
  rotate_left
  · intro w'; go_simp; (try with_reducible rfl)
  (try simp only [Act.put, List.setIfInBounds_toArray, List.set_cons_zero, List.set_cons_succ])
  refine takeP 9 rfl (by kernel_rfl) (by kernel_rfl) (by kernel_rfl) (by kernel_rfl) (fun _ _ _ h => h) rfl (v := ?_) ?_ ?_
  rotate_left
  · intro w'; go_simp; (try with_reducible rfl)
  (try simp only [Act.put, List.setIfInBounds_toArray, List.set_cons_zero, List.set_cons_succ])
  refine takeP 10 rfl (by kernel_rfl) (by kernel_rfl) (by kernel_rfl) (by kernel_rfl) (fun _ _ _ h => h) rfl (v := ?_) ?_ ?_
  rotate_left
  · intro w'; go_simp; (try with_reducible rfl)
  (try simp only [Act.put, List.setIfInBounds_toArray, List.set_cons_zero, List.set_cons_succ])
  refine takeP 11 rfl (by kernel_rfl) (by kernel_rfl) (by kernel_rfl) (by kernel_rfl) (fun _ _ _ h => h) rfl (v := ?_) ?_ ?_
  rotate_left
  · intro w'; go_simp; (try with_reducible rfl)
  (try simp only [Act.put, List.setIfInBounds_toArray, List.set_cons_zero, List.set_cons_succ])
  refine takeP 12 rfl (by kernel_rfl) (by kernel_rfl) (by kernel_rfl) (by kernel_rfl) (fun _ _ _ h => h) rfl (v := ?_) ?_ ?_
  rotate_left
  · intro w'; go_simp; (try with_reducible rfl)
  (try simp only [Act.put, List.setIfInBounds_toArray, List.set_cons_zero, List.set_cons_succ])
  refine takeP 13 rfl (by kernel_rfl) (by kernel_rfl) (by kernel_rfl) (by kernel_rfl) (fun _ _ _ h => h) rfl (v := ?_) ?_ ?_
  rotate_left
  · intro w'; go_simp; (try with_reducible rfl)
  (try simp only [Act.put, List.setIfInBounds_toArray, List.set_cons_zero, List.set_cons_succ])
  refine stepL 14 rfl (by kernel_rfl) rfl (fun K hK => ?_)
  (refine oCellA (v := v64 z) (new := mC u.length (wL (u.set i false))) H _ _ rfl rfl rfl rfl rfl (by rw [HLEN.out]; omega) HSET.out ?_; clear H; intro w' H; (try dsimp only at H); refine hK.out _ _ (fun h => by cases h) ?_; clear K hK HS0)
  (try simp only [Act.put, List.setIfInBounds_toArray, List.set_cons_zero, List.set_cons_succ])
  refine doneL (by kernel_rfl) ?_
  go_wp2
  go_ret
  exact ⟨rfl, H⟩
end Go.Proofs.YticfcelbnkiopaaDoor

namespace Go.Proofs.YticfcelbnkiopaaDoor
set_option maxRecDepth 100000
open Go.RowKit Go.Shelf
set_option linter.unusedSimpArgs false
set_option linter.unusedVariables false
attribute [local go_sem] Oper.semAt_some

theorem run_loadW {w : World} {ad : Addr} {x : WV} (h : ∀ (j : Nat) (v : Value), (WT.enc x)[j]? = some v → w.cell? (ad.add j) = some v) :
    (Instr.loadAt 144 (.pointer (some ad))).run Tryd.prog w = .ok (.agg (WT.enc x).toArray) w :=
  run_loadAt_any w ad 144 (WT.enc x) _ h Tryd.underlying144 rfl (by kernel_rfl)
set_option maxHeartbeats 1600000 in
theorem newest_any (l bd m cp : Nat) (A : Option Addr) (ws : List WV) (hm : ws.length = m) (J Jx : Nat → World → Prop)
    (hread : ∀ k W, J k W → W.cell? ⟨bd, 1, none⟩ = some (.slice A m cp) ∧ RR WT W (.slice A m cp) ws)
    (hY : ∀ k W, J (k + 1) W → k < m → YieldAt Fence.wide 2 Tryd.prog l #[.agg (WT.enc (ws.getD k wv0)).toArray] W fun e W' => (e = .returned (.bool true) ∧ J k W') ∨ (e = .returned (.bool false) ∧ Jx k W'))
    (W : World) (h0 : J m W) :
    CallsIn Fence.wide 3 Tryd.prog 133 (#[.pointer (some ⟨bd, 0, none⟩)] ++ #[.func (.yield l) #[] #[]]) W fun e W' => (∃ v, e = .returned v) ∧ (J 0 W' ∨ ∃ k, k < m ∧ Jx k W') := by
  show CallsIn Fence.wide 3 Tryd.prog 133 #[.pointer (some ⟨bd, 0, none⟩), .func (.yield l) #[] #[]] W _
  refine callsIn_of_wp Tryd.func133 rfl trivial ?_ rfl
  simp only [Tryd.ntmps133, List.size_toArray, List.length_cons, List.length_nil, Nat.reduceAdd, Nat.reduceSub, Array.replicate_succ, Array.replicate_zero, List.push_toArray, List.append_toArray, List.nil_append, List.cons_append]
  have hc := (hread m W h0).1
  have hml : (m : Int) ≤ 9223372036854775807 := by obtain ⟨_, _, _, h1⟩ := (hread m W h0).2; have := h1.2.1; omega
  gi_wp2
  gi_loopw [4] (fun v4 wr => ∃ k : Nat, v4 = .int .i64 ((k : Int) - 1) ∧ k ≤ m ∧ J k wr) (fun v _ => ((intOf v) + 1).toNat)
  case atStart => exact ⟨m, rfl, Nat.le_refl _, h0⟩
  case round =>
    obtain ⟨k, rfl, hk, hJ⟩ := hrel
    clear hc
    cases k with
    | zero =>
      gi_wp2
      go_end0
      exact ⟨⟨_, rfl⟩, .inl hJ⟩
    | succ k =>
      obtain ⟨hc, hR⟩ := hread _ wr hJ
      have hkm : k < m := by omega
      obtain ⟨ad, rfl, hcell⟩ := hR.at_ k (by rw [hm]; exact hkm)
      obtain ⟨fn, tmps, assign, body, hy, hRd⟩ := hY k wr hJ hkm
      have hgk : ws.getD k wv0 = ws[k] := by rw [List.getD_eq_getElem?_getD, List.getElem?_eq_getElem (by omega)]; rfl
      rw [hgk] at hy
      have hc0 : wr.cell? (ad.add (k * 2)) = some (.int .i64 ws[k].1) := hcell 0 _ rfl
      have hc1 : wr.cell? ⟨(ad.add (k * 2)).block, (ad.add (k * 2)).off + 1, none⟩ = some ws[k].2.val := by
        rw [← hcell 1 _ rfl]
        congr 1
        show _ = ad.add (k * 2 + 1)
        unfold Addr.add
        by_cases h1 : k * 2 = 0 <;> simp [h1, Nat.add_assoc]
      change (Instr.yield l #[Value.agg #[Value.int .i64 ws[k].1, ws[k].2.val]]).run Tryd.prog wr = _ at hy
      generalize ws[k].1 = xa at *
      generalize ws[k].2.val = xb at *
      have hki : (k : Int) < (m : Int) := by omega
      have HREAD := Lib.hid hread
      have HYY := Lib.hid hY
      have HR := Lib.hid hR
      have HCELL := Lib.hid hcell
      clear hread hY hR hcell hgk
      gi_wp2
      refine hRd.mono ?_
      rintro e W3 (⟨rfl, hJ3⟩ | ⟨rfl, hJx3⟩)
      · gi_wp2
        go_roundw
        case rel => exact ⟨k, by go_num, by omega, hJ3⟩
        case measure => simp [intOf] <;> omega
      · gi_wp2
        refine bodyPost_ret (results_none rfl _ _ _) rfl ?_
        exact ⟨⟨_, rfl⟩, .inr ⟨k, hkm, hJx3⟩⟩
end Go.Proofs.YticfcelbnkiopaaDoor

namespace Go.Proofs.YticfcelbnkiopaaDoor
set_option maxRecDepth 100000
open Go.RowKit Go.Shelf
set_option linter.unusedSimpArgs false
set_option linter.unusedVariables false

section
variable {G : Fence} {m : Nat} {P : Program} {ops : Array Oper} {rest : List Oper} {o : Oper} {a : Act} {Q : Exit → Act → World → Prop} {F : Nat → Prop} {w0 w w' : World} {L : List Own}
variable {b off n : Nat} {t t2 : TypeId} {cs vs new z : List Value} {v zv : Value} {put : List Value → List Own} {y p : Operand}
theorem stepVIn (hd : ∀ c, o.op ≠ .defer c) (hf : ∀ f, G.fn f) (hr : (execOp a.eval o).run P w = .ok (.value v) w') (hw : Region.wanted o (yielded ops a.tmps) = true) (h : wpListIn G m P ops Q rest (a.put o.dst v) w') : wpListIn G m P ops Q (o :: rest) a w :=
  wpListIn_step fun K hK => by
    rw [if_pos hw]
    refine ⟨fun f _ => hf f, ?_⟩
    rw [Oper.semAt_eq _ _ _ hd, hr]
    exact hK _ _ h
theorem stepSIn (hd : ∀ c, o.op ≠ .defer c) (hf : ∀ f, G.fn f) (hr : (execOp a.eval o).run P w = .ok .skip w') (hw : Region.wanted o (yielded ops a.tmps) = true) (h : wpListIn G m P ops Q rest (a.put o.dst undef) w') : wpListIn G m P ops Q (o :: rest) a w :=
  wpListIn_step fun K hK => by
    rw [if_pos hw]
    refine ⟨fun f _ => hf f, ?_⟩
    rw [Oper.semAt_eq _ _ _ hd, hr]
    exact hK _ _ h
theorem gDstI (k : Nat) {op : Op} {ty : TypeId} {q : String} {af : Array Edge} {gd : Option (Nat × Bool)} (h : wpListIn G m P ops Q (⟨some k, op, ty, q, af, gd⟩ :: rest) a w) : wpListIn G m P ops Q (⟨some k, op, ty, q, af, gd⟩ :: rest) a w := h
theorem gStoI (p y : Operand) {t : TypeId} {d : Option Tmp} {ty : TypeId} {q : String} {af : Array Edge} {gd : Option (Nat × Bool)} (h : wpListIn G m P ops Q (⟨d, .store t p y, ty, q, af, gd⟩ :: rest) a w) : wpListIn G m P ops Q (⟨d, .store t p y, ty, q, af, gd⟩ :: rest) a w := h
theorem iAlloc (hf : ∀ f, G.fn f) (H : SH F w0 w L) (ho : o.op = .alloc t) [T : TI P t n z] (hw : Region.wanted o (yielded ops a.tmps) = true)
    (h : ∀ b w', SH F w0 w' (.blk b t z :: L) → wpListIn G m P ops Q rest (a.put o.dst (.pointer (some ⟨b, 0, none⟩))) w') : wpListIn G m P ops Q (o :: rest) a w :=
  stepVIn (by rw [ho]; exact fun c h => by cases h) hf (exec_alloc t ho _ z T.zinfo rfl) hw (h _ _ (H.new _ _))
theorem iStore (hf : ∀ f, G.fn f) (H : SH F w0 w L) (p y : Operand) (ho : o.op = .store t p y) (hx : a.eval p = .pointer (some ⟨b, 0, none⟩)) (hy : a.eval y = .agg vs.toArray) [HasB L b t cs put] [TI P t n z] (hl : cs.length = n ∧ vs.length = n) (h1 : (vs.all fun u => u.oneCell') = true) (hw : Region.wanted o (yielded ops a.tmps) = true)
    (h : ∀ w', SH F w0 w' (put vs) → wpListIn G m P ops Q rest (a.put o.dst undef) w') : wpListIn G m P ops Q (o :: rest) a w := by
  obtain ⟨w', hr, H'⟩ := xLay (P := P) (ρ := a.eval) (new := vs) H p y ho hx hy (by omega) h1 (lay_whole (by omega))
  exact stepSIn (by rw [ho]; exact fun c h => by cases h) hf hr hw (h w' H')
theorem iCell (hf : ∀ f, G.fn f) (H : SH F w0 w L) (p y : Operand) (ho : o.op = .store t p y) (hx : a.eval p = .pointer (some ⟨b, off, none⟩)) (hy : a.eval y = v) [HasB L b t2 cs put] [TS P t zv] (hc : v.cells = [v].toArray) (h1 : v.oneCell' = true) (hl : off < cs.length) (hn : cs.set off v = new) (hw : Region.wanted o (yielded ops a.tmps) = true)
    (h : ∀ w', SH F w0 w' (put new) → wpListIn G m P ops Q rest (a.put o.dst undef) w') : wpListIn G m P ops Q (o :: rest) a w := by
  obtain ⟨w', hr, H'⟩ := xCell (P := P) (ρ := a.eval) H p y ho hx hy hc h1 hl hn
  exact stepSIn (by rw [ho]; exact fun c h => by cases h) hf hr hw (h w' H')
theorem iLoad1 (hf : ∀ f, G.fn f) (H : SH F w0 w L) (y : Operand) (ho : o.op = .load t y) (hx : a.eval y = .pointer (some ⟨b, off, none⟩)) [HasB L b t2 cs put] [TS P t zv] (hc : cs[off]? = some v) (hw : Region.wanted o (yielded ops a.tmps) = true)
    (h : wpListIn G m P ops Q rest (a.put o.dst v) w) : wpListIn G m P ops Q (o :: rest) a w :=
  stepVIn (by rw [ho]; exact fun c h => by cases h) hf (xLoad1 H.hold y ho hx hc) hw h
end
end Go.Proofs.YticfcelbnkiopaaDoor

namespace Go.Proofs.YticfcelbnkiopaaDoor
set_option maxRecDepth 100000
open Go.RowKit Go.Shelf
set_option linter.unusedSimpArgs false
set_option linter.unusedVariables false

/-- How a round may be left. -/
def roundEnd (F : Nat → Prop) (w0 : World) (L : List Own) (K : Nat → Prop) (X : Nat → List Own → Prop) (l D k : Nat) (rl : Obj) : Exit → Act → World → Prop
  | .normal, _, W => SH F w0 W (.obj l rl :: .obj D (.deferred (some [])) :: L) ∧ K k
  | .ret, _, W => ∃ LL, X k LL ∧ SH F w0 W (.obj l rl :: .obj D (.deferred (some [])) :: LL)
  | _, _, _ => False
theorem rangeFunc_newest {g : Operand} {ps : Array Tmp} {assign body : Code} {Q : Exit → Act → World → Prop} {a : Act} {w w0 : World} {F : Nat → Prop} {L : List Own} (H : SH F w0 w L) {bd : Nat} (hg : a.eval g = .func (.func 133) #[.pointer (some ⟨bd, 0, none⟩)] #[]) (hps : ps.size = 1)
    (m cp : Nat) (A : Option Addr) (ws : List WV) (hm : ws.length = m) (hread : ∀ W L', SH F w0 W L' → W.cell? ⟨bd, 1, none⟩ = some (.slice A m cp) ∧ RR WT W (.slice A m cp) ws)
    (K : Nat → Prop) (hK : K m) (X : Nat → List Own → Prop) (A1 : Nat → Nat → Act) (tm : Nat → Array Value) (htm : ∀ k, (ps.zip #[.agg (WT.enc (ws.getD k wv0)).toArray]).foldl (fun t (p, v) => t.setIfInBounds p v) a.tmps = tm k)
    (hassign : ∀ (l D k : Nat) (rl : Obj) (W : World) (B : Act → World → Prop), k < m → K (k + 1) → SH F w0 W (.obj l rl :: .obj D (.deferred (some [])) :: L) →
      (∀ b W1, SH F w0 W1 (.blk b 144 (WT.enc (ws.getD k wv0)) :: .obj l rl :: .obj D (.deferred (some [])) :: L) → B (A1 k b) W1) →
      assign.wpIn (Fence.wide.inRound l) 2 Tryd.prog (Exit.then B (fun _ _ _ => False)) { tmps := tm k, defers := [] } W)
    (hbody : ∀ (l D k b : Nat) (rl : Obj) (W : World), k < m → K (k + 1) → SH F w0 W (.blk b 144 (WT.enc (ws.getD k wv0)) :: .obj l rl :: .obj D (.deferred (some [])) :: L) →
      body.wpIn (Fence.wide.inRound l) 2 Tryd.prog (roundEnd F w0 L K X l D k rl) (A1 k b) W)
    (hdone : ∀ (D : Nat) (W : World), K 0 → SH F w0 W (.obj D (.deferred (some [])) :: L) → Q .normal { a with defers := { target := .collected D, args := #[] } :: a.defers } W)
    (hstop : ∀ (D k : Nat) (LL : List Own) (W : World), k < m → X k LL → SH F w0 W (.obj D (.deferred (some [])) :: LL) → Code.ret.wp Tryd.prog Q { a with defers := { target := .collected D, args := #[] } :: a.defers } W) :
    (Code.rangeFunc g ps assign body).wp Tryd.prog Q a w := by
  refine (wpIn_wide (n := 4)).1 (wpIn_rangeFunc ?_)
  intro fn hfn
  obtain ⟨rec, hrec⟩ : ∃ rec : LoopState → Option Code → Loop, rec = fun st pe => { state := st, pending := pe, fn, tmps := a.tmps, params := ps, assign, body, defers := w.heap.size } := ⟨_, rfl⟩
  obtain ⟨W1, hW1⟩ : ∃ W1, (w.alloc (.deferred (some []))).alloc (.loop (rec .ready none)) = W1 := ⟨_, rfl⟩
  have H1 : SH F w0 W1 (.obj (w.heap.size + 1) (.loop (rec .ready none)) :: .obj w.heap.size (.deferred (some [])) :: L) := by
    have h1 := H.push (alloc_belowAt w (.deferred (some []))) (.obj w.heap.size (.deferred (some []))) (World.alloc_heap_new w _) (fun k hk => by have e : k = w.heap.size := hk; omega)
    have h2 := h1.push (alloc_belowAt (w.alloc (.deferred (some []))) (.loop (rec .ready none))) (.obj (w.heap.size + 1) (.loop (rec .ready none))) (by have := World.alloc_heap_new (w.alloc (.deferred (some []))) (.loop (rec .ready none)); rwa [World.size_alloc] at this) (fun k hk => by have e : k = w.heap.size + 1 := hk; rw [World.size_alloc]; omega)
    rw [hW1] at h2
    exact h2
  refine ⟨w.heap.size + 1, [{ target := .collected w.heap.size, args := #[] }], W1, { target := .fn (.func 133) #[], args := #[.pointer (some ⟨bd, 0, none⟩)] ++ #[.func (.yield (w.heap.size + 1)) #[] #[]] }, W1, 133,
    #[.pointer (some ⟨bd, 0, none⟩)] ++ #[.func (.yield (w.heap.size + 1)) #[] #[]], W1, ?_, ?_, ?_, ?_, fun _ => by decide, ?_⟩
  · rw [← hW1, hrec]; exact run_enterLoop_outer _ _ _ _ _
  · simp only [resolve, hg]
    simp [go_sem]
  · intro f' hf'; trivial
  · have eg := fun args W => Go.MuLone.run_callFunc_enter Tryd.func133 (by kernel_rfl) rfl args W
    simp [invoke, go_sem, eg]
  · generalize hl : w.heap.size + 1 = l at *
    generalize hD : w.heap.size = D at *
    refine (newest_any l bd m cp A ws hm (fun k W => K k ∧ SH F w0 W (.obj l (.loop (rec .ready none)) :: .obj D (.deferred (some [])) :: L)) (fun k W => ∃ LL, X k LL ∧ SH F w0 W (.obj l (.loop (rec .done (some .ret))) :: .obj D (.deferred (some [])) :: LL))
      (fun k W h => hread W _ h.2) (fun k W h hkm => ?_) W1 ⟨hK, H1⟩).mono ?_
    · obtain ⟨hk1, hs⟩ := h
      have hlt : W.heap[l]? = some (.loop (rec .ready none)) := hs.at_ 0 rfl
      have hy := run_yield (P := Tryd.prog) (args := #[.agg (WT.enc (ws.getD k wv0)).toArray]) hlt (by rw [hrec]; exact hps.symm)
      rw [hrec] at hy
      have hy2 := hy
      simp only [htm k] at hy2
      refine ⟨fn, _, assign, body, hy2, roundIn_of_wpIn hfn (hassign l D k _ W _ hkm hk1 hs fun b W1 hs1 => ?_)⟩
      have hlt1 : W1.heap[l]? = some (.loop (rec .ready none)) := hs1.at_ 1 rfl
      refine ⟨_, run_beginRound hlt1 (by rw [hrec]), ?_⟩
      have hs2 := hs1.setObj 1 rfl (.loop { rec .ready none with state := .busy })
      simp only [List.set_cons_succ, List.set_cons_zero] at hs2
      refine wpIn_mono (hbody l D k b _ _ hkm hk1 hs2) ?_
      have fin : ∀ (jump : Option Code) (W3 : World) (LL : List Own), SH F w0 W3 (.obj l (.loop { rec .ready none with state := .busy }) :: .obj D (.deferred (some [])) :: LL) →
          ∃ W4, (Instr.endRound l jump).run Tryd.prog W3 = .ok (.bool jump.isNone) W4 ∧ SH F w0 W4 (.obj l (.loop (rec (if jump.isNone then .ready else .done) jump)) :: .obj D (.deferred (some [])) :: LL) := fun jump W3 LL h3 => by
        have hl3 : W3.heap[l]? = some (.loop { rec .ready none with state := .busy }) := h3.at_ 0 rfl
        have hr := run_endRound (P := Tryd.prog) jump hl3
        have h4 := h3.setObj 0 rfl (.loop (rec (if jump.isNone then .ready else .done) jump))
        simp only [List.set_cons_zero] at h4
        refine ⟨_, ?_, h4⟩
        rw [hrec] at hr ⊢
        exact hr
      rintro e a3 W3 hp
      cases e with
      | normal =>
        obtain ⟨W4, hr, h4⟩ := fin none W3 _ hp.1
        exact ⟨_, _, hr, .inl ⟨rfl, hp.2, h4⟩⟩
      | ret =>
        obtain ⟨LL, hX, h3⟩ := hp
        obtain ⟨W4, hr, h4⟩ := fin (some .ret) W3 _ h3
        exact ⟨_, _, hr, .inr ⟨rfl, LL, hX, h4⟩⟩
      | exit id => exact hp.elim
      | goto t => exact hp.elim
      | panic ch => exact hp.elim
      | outgrown => exact hp.elim
    · rintro e W2 ⟨⟨v, rfl⟩, (⟨h0, hs⟩ | ⟨k, hkm, LL, hX, hs⟩)⟩
      · have hl2 : W2.heap[l]? = some (.loop (rec .ready none)) := hs.at_ 0 rfl
        have h4 := hs.setObj 0 rfl (.loop { rec .ready none with state := .exhausted })
        simp only [List.set_cons_zero] at h4
        exact ⟨none, _, by have := run_endLoop (P := Tryd.prog) hl2 (by rw [hrec]; simp); rw [hrec] at this ⊢; exact this, hdone D _ h0 h4.tail⟩
      · have hl2 : W2.heap[l]? = some (.loop (rec .done (some .ret))) := hs.at_ 0 rfl
        have h4 := hs.setObj 0 rfl (.loop { rec .done (some .ret) with state := .exhausted })
        simp only [List.set_cons_zero] at h4
        exact ⟨some .ret, _, by have := run_endLoop (P := Tryd.prog) hl2 (by rw [hrec]; simp); rw [hrec] at this ⊢; exact this, wpIn_wide.2 (hstop D k LL _ hkm hX h4.tail)⟩
end Go.Proofs.YticfcelbnkiopaaDoor

namespace Go.Proofs.YticfcelbnkiopaaDoor
set_option maxRecDepth 100000
open Go.RowKit Go.Shelf
set_option linter.unusedSimpArgs false
set_option linter.unusedVariables false
attribute [local go_sem] Oper.semAt_some

/-- A disk as it can be. -/
structure DS.ok (st : DS) (n : Nat) : Prop where
  n1 : 16 ≤ n
  n2 : n ≤ 512
  ol : st.on.length = n * 256
  ws : ∀ k, k < st.ws.length → (st.ws.getD k (0, [])).1 < n ∧ (st.ws.getD k (0, [])).2.length = 256
  wl : st.ws.length ≤ 1000000
theorem DS.sec_len {st : DS} {n : Nat} (h : st.ok n) (i : Nat) (hi : i < n) : (st.sec i).length = 256 := by
  rw [DS.sec, List.length_take, List.length_drop, h.ol]; omega
theorem DS.readK_len {st : DS} {n : Nat} (h : st.ok n) (i : Nat) (hi : i < n) : ∀ k, k ≤ st.ws.length → (st.readK i k).length = 256
  | 0, _ => DS.sec_len h i hi
  | k + 1, hk => by
    rw [DS.readK]
    split
    · exact (h.ws k (by omega)).2
    · exact DS.readK_len h i hi k (by omega)
theorem DS.pairs_len {st : DS} {ss : List SVV} (h : ss.length = st.ws.length) : (st.pairs ss).length = st.ws.length := by
  rw [DS.pairs, List.length_zip, List.length_map, h, Nat.min_self]
theorem DS.pairs_get {st : DS} {ss : List SVV} (h : ss.length = st.ws.length) (k : Nat) (hk : k < st.ws.length) : (st.pairs ss).getD k wv0 = (((st.ws.getD k (0, [])).1 : Int), ss.getD k sv0) := by
  rw [DS.pairs, List.getD_eq_getElem?_getD, List.getElem?_eq_getElem (by rw [List.length_zip, List.length_map, h, Nat.min_self]; exact hk), List.getElem_zip, List.getElem_map]
  rw [List.getD_eq_getElem?_getD, List.getElem?_eq_getElem hk, List.getD_eq_getElem?_getD, List.getElem?_eq_getElem (by omega)]
  rfl
theorem iCloneB (l : Nat) {n : Nat} (v : Value) (xs : List UInt8) (w : World) (hv : RB w v xs) (hl : xs.length = 256) : CallsIn (Fence.wide.inRound l) n Tryd.prog 74 #[v] w fun e w' => ∃ A c, e = .returned (.slice A 256 c) ∧ OB w' w.heap.size (.slice A 256 c) xs ∧ Below w.heap.size w w' := by
  refine (CallsIn.inRound l (callsIn_wide.2 (Clone_any v xs w hv (by rw [hl]; decide)))).mono ?_
  rintro e w' ⟨v', h1, h2, h3⟩
  obtain ⟨A, c, rfl, -⟩ := h2.reads.len
  rw [hl] at h1 h2
  exact ⟨A, c, h1, h2, h3⟩
set_option maxHeartbeats 3200000 in
theorem diskRead_any (bd bo n i : Nat) (vw : Value) (ss : List SVV) (st : DS) (hs : st.ok n) (hoff : st.off = false) (hi : i < n) (w : World) (hD : HOLD (diskL bd bo vw ss st) w)
    (hHas : ∀ W, Below w.heap.size w W → Calls Tryd.prog 72 #[.pointer (some ⟨bd, 0, none⟩), .int .i64 (i : Int)] W fun e w' => e = .returned (.bool true) ∧ W = w')
    (hSec : ∀ W, Below w.heap.size w W → Calls Tryd.prog 71 #[.pointer (some ⟨bd, 0, none⟩), .int .i64 (i : Int)] W fun e w' => ∃ A c, e = .returned (.slice A 256 c) ∧ RB W (.slice A 256 c) (st.sec i) ∧ W = w') :
    Calls Tryd.prog 101 #[.pointer (some ⟨bd, 0, none⟩), .int .i64 (i : Int)] w fun e w' => ∃ v, e = .returned (.tuple #[v, .int .i64 0]) ∧ OB w' w.heap.size v (st.read i) ∧ Below w.heap.size w w' := by
  have H := SH.start Nil w
  unfold diskL at hD
  have hlb : LB w ss (st.ws.map (·.2)) := by
    have h : (Own.rdAll ss (st.ws.map fun x : Nat × List UInt8 => x.2)).holds w := hD _ (by simp)
    exact h
  have hsl : ss.length = st.ws.length := by rw [hlb.1, List.length_map]
  have hpl := DS.pairs_len hsl
  obtain ⟨A, cp, rfl, -⟩ := (hD.rr vw).len
  rw [hpl] at hD
  obtain ⟨m, hm⟩ : ∃ m, m = st.ws.length := ⟨_, rfl⟩
  rw [← hm] at hpl hD
  have c3 : w.cell? ⟨bd, 3, none⟩ = some (Value.bool false) := by
    have := (hD.va (b := bd)).cell 3
    rw [this, hoff]; rfl
  have hread : ∀ W L', SH Nil w W L' → W.cell? ⟨bd, 1, none⟩ = some (.slice A m cp) ∧ RR WT W (.slice A m cp) (st.pairs ss) := fun W L' h => ⟨((hD.below h.below).va (b := bd)).cell 1, (hD.below h.below).rr _⟩
  have HREAD := Lib.hid hread
  have HLB := Lib.hid hlb
  have HHAS := Lib.hid hHas
  have HSEC := Lib.hid hSec
  have HD := Lib.hid hD
  have HS := Lib.hid hs
  have HPL := Lib.hid hpl
  have HSL := Lib.hid hsl
  have HM := Lib.hid hm
  clear hread hlb hHas hSec hD hs hpl hsl hm hoff
  refine calls_marks Tryd.func101 rfl ?_
  simp only [Tryd.ntmps101, List.size_toArray, List.length_cons, List.length_nil, Nat.reduceAdd, Nat.reduceSub, Array.replicate_succ, Array.replicate_zero, List.push_toArray, List.append_toArray, List.nil_append, List.cons_append]
  go_wp2_with (first
    | ((with_reducible refine gDst 14 ?_); refine aLoadC _ rfl rfl (cell_below H.below c3) rfl ?_)
    | (go_at_call 72; refine (HHAS.out _ H.below).mono ?_; rintro e w' ⟨rfl, rfl⟩)
    | ((with_reducible refine gDst 3 ?_); refine aBox1 H _ rfl (by first | exact (rfl : _ = Value.int _ _) | exact (rfl : _ = Value.bool _) | exact (rfl : _ = Value.slice _ _ _) | exact (rfl : _ = Value.string _) | exact (rfl : _ = Value.pointer _) | exact (rfl : _ = Value.func _ _ _) | rfl) (by rfl) rfl ?_; clear H; intro b3 w3 H)
    | ((with_reducible refine gDst 4 ?_); refine aAlloc1 H rfl rfl ?_; clear H; intro b4 w4 H)
    | ((with_reducible refine gDst 5 ?_); refine aAlloc1 H rfl rfl ?_; clear H; intro b5 w5 H)
    | ((with_reducible refine gDst 6 ?_); refine aAlloc H rfl rfl ?_; clear H; intro b6 w6 H)
    | ((with_reducible refine gLoad ?_); first | (refine aLoad1 H _ rfl rfl (by first | exact (rfl : _ = some (Value.int _ _)) | exact (rfl : _ = some (Value.slice _ _ _)) | exact (rfl : _ = some (Value.bool _)) | exact (rfl : _ = some (Value.string _)) | exact (rfl : _ = some (Value.pointer _)) | rfl | (simp [List.getElem?_append]; done)) rfl ?_) | (refine aLoadC _ rfl rfl (by assumption) rfl ?_))
    | ((with_reducible refine gStore ?_); (first | (refine aCell H _ _ rfl rfl (by first | exact (rfl : _ = Value.int _ _) | exact (rfl : _ = Value.bool _) | exact (rfl : _ = Value.slice _ _ _) | exact (rfl : _ = Value.string _) | exact (rfl : _ = Value.pointer _) | exact (rfl : _ = Value.func _ _ _) | rfl) (by rfl) (by rfl) (by first | exact of_decide_eq_true rfl | (simp []; done) | (simp []; omega)) (by first | (simp only [List.set_cons_zero, List.set_cons_succ]; rfl) | (simp [List.set_append]; rfl)) rfl ?_) | (refine aStore H _ _ rfl rfl rfl (by (first | exact ⟨rfl, rfl⟩ | exact ⟨by decide, rfl⟩ | (simp []; done) | (constructor <;> simp [] <;> omega))) (by first | rfl | simp [List.all_append, one_all]) rfl ?_) | (refine aLay H _ _ rfl rfl rfl (by (first | exact ⟨rfl, rfl⟩ | exact ⟨by decide, rfl⟩ | (simp []; done) | (constructor <;> simp [] <;> omega))) (by first | rfl | simp [List.all_append, one_all]) (by simp only [lay, List.take_succ_cons, List.take_zero, List.drop_succ_cons, List.drop_zero, List.nil_append, List.cons_append, List.length_cons, List.length_nil, Nat.zero_add, Nat.reduceAdd]; rfl) rfl ?_)); clear H; intro w' H; try dsimp only at H))
  refine rangeFunc_newest H rfl rfl m cp A (st.pairs ss) HPL.out HREAD.out (fun k => st.readK i m = st.readK i k) rfl (fun k LL => ∃ A c, LL = [.row B8 (.slice A 256 c) (st.readK i m), .blk b5 34 [.int .i64 0], .blk b4 22 [.slice A 256 c], .blk b3 3 [.int .i64 (i : Int)]]) (fun k b => { tmps := #[Value.pointer (some ⟨bd, 0, none⟩), .int .i64 (i : Int), undef, .pointer (some ⟨b3, 0, none⟩), .pointer (some ⟨b4, 0, none⟩), .pointer (some ⟨b5, 0, none⟩), .pointer (some ⟨b, 0, none⟩), .bool false, Value.pointer (some ⟨bd, 0, none⟩), .bool false, .bool false, Value.pointer (some ⟨bd, 0, none⟩), Value.pointer (some ⟨bd, 0, none⟩), .pointer (some ⟨bd, 3, none⟩), .bool false, .bool false, .bool false, Value.pointer (some ⟨bd, 0, none⟩), .int .i64 (i : Int), .bool true, .bool false, Value.pointer (some ⟨bd, 0, none⟩), .func (.func 133) #[.pointer (some ⟨bd, 0, none⟩)] #[], .agg (WT.enc ((st.pairs ss).getD k wv0)).toArray, undef, undef, undef, undef, undef, undef, undef, undef, undef, undef, undef], defers := [] }) (fun k => #[Value.pointer (some ⟨bd, 0, none⟩), .int .i64 (i : Int), undef, .pointer (some ⟨b3, 0, none⟩), .pointer (some ⟨b4, 0, none⟩), .pointer (some ⟨b5, 0, none⟩), undef, .bool false, Value.pointer (some ⟨bd, 0, none⟩), .bool false, .bool false, Value.pointer (some ⟨bd, 0, none⟩), Value.pointer (some ⟨bd, 0, none⟩), .pointer (some ⟨bd, 3, none⟩), .bool false, .bool false, .bool false, Value.pointer (some ⟨bd, 0, none⟩), .int .i64 (i : Int), .bool true, .bool false, Value.pointer (some ⟨bd, 0, none⟩), .func (.func 133) #[.pointer (some ⟨bd, 0, none⟩)] #[], .agg (WT.enc ((st.pairs ss).getD k wv0)).toArray, undef, undef, undef, undef, undef, undef, undef, undef, undef, undef, undef]) (fun k => by simp) ?assign ?body ?done ?stop
  case assign =>
    intro l D k rl W B hkm hK H0 hB
    clear H
    have H := H0
    clear H0
    have hB' := Lib.hid hB
    clear hB
    generalize (st.pairs ss).getD k wv0 = x at *
    gi_wp2_with (first
      | ((with_reducible refine gDstI 6 ?_); refine iAlloc (fun _ => trivial) H rfl rfl ?_; clear H; intro b6 w6 H)
      | ((with_reducible refine gStoI (.tmp 6) (.tmp 23) ?_); refine iStore (fun _ => trivial) (vs := WT.enc x) H _ _ rfl rfl rfl ⟨by rfl, by rfl⟩ (by rfl) rfl ?_; clear H; intro w' H; (try dsimp only at H)))
    exact hB'.out b6 w' H
  case body =>
    intro l D k b rl W hkm hK H0
    clear H
    have H := H0
    clear H0
    have hget := DS.pairs_get HSL.out k (by rw [← HM.out]; exact hkm)
    have hrb := HLB.out.2 k (by rw [List.length_map, ← HM.out]; exact hkm)
    have hnm : (st.ws.map (·.2)).getD k [] = (st.ws.getD k (0, [])).2 := by
      rw [List.getD_eq_getElem?_getD, List.getElem?_map, List.getD_eq_getElem?_getD]
      cases st.ws[k]? <;> rfl
    rw [hnm] at hrb
    rw [DS.readK] at hK
    rw [hget] at H ⊢
    obtain ⟨hw1, hw2⟩ := HS.out.ws k (by rw [← HM.out]; exact hkm)
    generalize ss.getD k sv0 = sv at *
    obtain ⟨As, ns, cs⟩ := sv
    obtain ⟨_, _, hsv, hcs⟩ := hrb.len
    rw [hw2] at hsv
    obtain ⟨rfl, rfl, rfl⟩ : As = _ ∧ ns = 256 ∧ cs = _ := by injection hsv with e1 e2 e3; exact ⟨e1, e2, e3⟩
    generalize (st.ws.getD k (0, [])).2 = bs at *
    generalize (st.ws.getD k (0, [])).1 = at_ at *
    by_cases heq : at_ = i
    · subst heq
      have hee : ((at_ : Int) == (at_ : Int)) = true := beq_self_eq_true _
      rw [if_pos rfl] at hK
      have HRB := Lib.hid hrb
      have HW2 := Lib.hid hw2
      clear hrb hw2 hcs hsv hget hnm
      gi_wp2_with (first
        | ((with_reducible refine gDstI 25 ?_); refine iLoad1 (fun _ => trivial) H _ rfl rfl rfl rfl ?_)
        | ((with_reducible refine gDstI 26 ?_); refine iLoad1 (fun _ => trivial) H _ rfl rfl rfl rfl ?_)
        | ((with_reducible refine gDstI 29 ?_); refine iLoad1 (fun _ => trivial) H _ rfl rfl rfl rfl ?_)
        | (refine ⟨trivial, ?_⟩; gi_at_call 74; refine (iCloneB l _ bs _ (HRB.out.below H.below) HW2.out).mono ?_; rintro e w' ⟨A2, c2, rfl, ho, hb2⟩; replace H := H.pushRow hb2 ho; clear hb2 ho)
        | ((with_reducible refine gStoI (.tmp 4) (.tmp 30) ?_); refine iCell (fun _ => trivial) (v := .slice A2 256 c2) H _ _ rfl rfl rfl rfl rfl (by decide) rfl rfl ?_; clear H; intro w' H; (try dsimp only at H))
        | ((with_reducible refine gStoI (.tmp 5) (.const (.int .i64 0)) ?_); refine iCell (fun _ => trivial) (v := .int .i64 0) H _ _ rfl rfl rfl rfl rfl (by decide) rfl rfl ?_; clear H; intro w' H; (try dsimp only at H)))
      exact ⟨_, ⟨A2, c2, rfl⟩, ((((H.erase 1).bring 2 rfl).bring 2 rfl : SH Nil w _ _) |> fun h => by rw [hK]; exact h)⟩
    · have hne : ((at_ : Int) == (i : Int)) = false := beq_eq_false_iff_ne.mpr (by omega)
      rw [if_neg heq] at hK
      clear hrb hw2 hcs hsv hget hnm
      gi_wp2_with (first
        | ((with_reducible refine gDstI 25 ?_); refine iLoad1 (fun _ => trivial) H _ rfl rfl rfl rfl ?_)
        | ((with_reducible refine gDstI 26 ?_); refine iLoad1 (fun _ => trivial) H _ rfl rfl rfl rfl ?_))
      exact ⟨H.tail, hK⟩
  case done =>
    intro D W hK H0
    clear H
    have H := H0
    clear H0
    have hsl := DS.sec_len HS.out i hi
    have hrd : st.read i = st.sec i := by rw [DS.read, ← HM.out, hK]; rfl
    rw [DS.readK] at hK
    have HRD := Lib.hid hrd
    have HXL := Lib.hid hsl
    clear hsl hrd hK
    generalize st.sec i = X at *
    go_wp2_with (first
      | (go_at_call 71; refine (HSEC.out _ H.below).mono ?_; rintro e w' ⟨As, cs, rfl, hrs, rfl⟩)
      | (go_at_call 74; refine (Clone_any _ _ _ hrs (by rw [HXL.out]; decide)).mono ?_; rintro e w' ⟨v2, rfl, ho, hb2⟩; replace H := H.pushRow hb2 ho; obtain ⟨A2, c2, rfl, -⟩ := ho.reads.len; clear hb2 ho)
      | ((with_reducible refine gDst 3 ?_); refine aBox1 H _ rfl (by first | exact (rfl : _ = Value.int _ _) | exact (rfl : _ = Value.bool _) | exact (rfl : _ = Value.slice _ _ _) | exact (rfl : _ = Value.string _) | exact (rfl : _ = Value.pointer _) | exact (rfl : _ = Value.func _ _ _) | rfl) (by rfl) rfl ?_; clear H; intro b3 w3 H)
      | ((with_reducible refine gDst 4 ?_); refine aAlloc1 H rfl rfl ?_; clear H; intro b4 w4 H)
      | ((with_reducible refine gDst 5 ?_); refine aAlloc1 H rfl rfl ?_; clear H; intro b5 w5 H)
      | ((with_reducible refine gDst 6 ?_); refine aAlloc H rfl rfl ?_; clear H; intro b6 w6 H)
      | ((with_reducible refine gLoad ?_); first | (refine aLoad1 H _ rfl rfl (by first | exact (rfl : _ = some (Value.int _ _)) | exact (rfl : _ = some (Value.slice _ _ _)) | exact (rfl : _ = some (Value.bool _)) | exact (rfl : _ = some (Value.string _)) | exact (rfl : _ = some (Value.pointer _)) | rfl | (simp [List.getElem?_append]; done)) rfl ?_) | (refine aLoadC _ rfl rfl (by assumption) rfl ?_))
      | ((with_reducible refine gStore ?_); (first | (refine aCell H _ _ rfl rfl (by first | exact (rfl : _ = Value.int _ _) | exact (rfl : _ = Value.bool _) | exact (rfl : _ = Value.slice _ _ _) | exact (rfl : _ = Value.string _) | exact (rfl : _ = Value.pointer _) | exact (rfl : _ = Value.func _ _ _) | rfl) (by rfl) (by rfl) (by first | exact of_decide_eq_true rfl | (simp []; done) | (simp []; omega)) (by first | (simp only [List.set_cons_zero, List.set_cons_succ]; rfl) | (simp [List.set_append]; rfl)) rfl ?_) | (refine aStore H _ _ rfl rfl rfl (by (first | exact ⟨rfl, rfl⟩ | exact ⟨by decide, rfl⟩ | (simp []; done) | (constructor <;> simp [] <;> omega))) (by first | rfl | simp [List.all_append, one_all]) rfl ?_) | (refine aLay H _ _ rfl rfl rfl (by (first | exact ⟨rfl, rfl⟩ | exact ⟨by decide, rfl⟩ | (simp []; done) | (constructor <;> simp [] <;> omega))) (by first | rfl | simp [List.all_append, one_all]) (by simp only [lay, List.take_succ_cons, List.take_zero, List.drop_succ_cons, List.drop_zero, List.nil_append, List.cons_append, List.length_cons, List.length_nil, Nat.zero_add, Nat.reduceAdd]; rfl) rfl ?_)); clear H; intro w' H; try dsimp only at H))
    refine ⟨by simp, .inl ⟨D, _, rfl, run_takeDeferred (H.at_ 1 rfl), ?_⟩⟩
    replace H := H.setObj 1 rfl (.deferred none)
    simp only [List.set_cons_succ, List.set_cons_zero] at H
    refine ⟨_, res_cells2 rfl _ rfl rfl ((H.hold.va (b := b4)).cell 0) ((H.hold.va (b := b5)).cell 0), ?_⟩
    rw [HRD.out]
    exact ⟨_, rfl, H.ow _, H.below⟩
  case stop =>
    rintro D k LL W hkm ⟨A2, c2, rfl⟩ H0
    clear H
    have H := H0
    clear H0
    go_wp2
    refine ⟨by simp, .inl ⟨D, _, rfl, run_takeDeferred (H.at_ 0 rfl), ?_⟩⟩
    replace H := H.setObj 0 rfl (.deferred none)
    simp only [List.set_cons_succ, List.set_cons_zero] at H
    refine ⟨_, res_cells2 rfl _ rfl rfl ((H.hold.va (b := b4)).cell 0) ((H.hold.va (b := b5)).cell 0), ?_⟩
    exact ⟨.slice A2 256 c2, rfl, by rw [DS.read, ← HM.out]; exact H.ow _, H.below⟩
end Go.Proofs.YticfcelbnkiopaaDoor

namespace Go.Proofs.YticfcelbnkiopaaDoor
set_option maxRecDepth 100000
open Go.RowKit
set_option linter.unusedSimpArgs false
set_option linter.unusedVariables false

set_option maxHeartbeats 1600000 in
theorem diskLen_c (bd : Nat) (ad : Addr) (n N : Nat) (hN : N = n * 256) (hn : n ≤ 512) (w : World) (hc : w.cell? ⟨bd, 0, none⟩ = some (.slice (some ad) N N)) : Calls Tryd.prog 116 #[.pointer (some ⟨bd, 0, none⟩)] w fun e w' => e = .returned (.int .i64 (n : Int)) ∧ w = w' := by
  have hq : (N : Int).tdiv 256 = (n : Int) := by rw [Int.tdiv_eq_ediv_of_nonneg (by omega)]; omega
  have hNb : (N : Int) ≤ 131072 := by omega
  have HN := Lib.hid hN
  clear hN
  go_enter Tryd.func116, Tryd.ntmps116
  go_wp2_with (first
    | ((with_reducible refine gDst 8 ?_); refine aLoadC _ rfl rfl hc rfl ?_))
  go_ret
  exact ⟨rfl, rfl⟩
set_option maxHeartbeats 1600000 in
theorem diskHas_c (bd : Nat) (ad : Addr) (n N : Nat) (hN : N = n * 256) (hn : n ≤ 512) (i : Nat) (hi : i < n) (w : World) (hc : w.cell? ⟨bd, 0, none⟩ = some (.slice (some ad) N N)) : Calls Tryd.prog 72 #[.pointer (some ⟨bd, 0, none⟩), .int .i64 (i : Int)] w fun e w' => e = .returned (.bool true) ∧ w = w' := by
  have hii : (i : Int) < (n : Int) := by omega
  have HC := Lib.hid (diskLen_c bd ad n N hN hn w hc)
  clear hN
  go_enter Tryd.func72, Tryd.ntmps72
  go_wp2_with (first
    | (go_at_call 116; refine HC.out.mono ?_; rintro e w' ⟨rfl, rfl⟩))
  go_ret
  exact ⟨rfl, rfl⟩
set_option maxHeartbeats 1600000 in
theorem diskSector_c (bd : Nat) (ad : Addr) (n N : Nat) (hN : N = n * 256) (hn : n ≤ 512) (i : Nat) (hi : i < n) (on : List UInt8) (hon : on.length = N) (w : World) (hc : w.cell? ⟨bd, 0, none⟩ = some (.slice (some ad) N N)) (hr : RB w (.slice (some ad) N N) on) :
    Calls Tryd.prog 71 #[.pointer (some ⟨bd, 0, none⟩), .int .i64 (i : Int)] w fun e w' => ∃ A c, e = .returned (.slice A 256 c) ∧ RB w (.slice A 256 c) ((on.drop (i * 256)).take 256) ∧ w = w' := by
  obtain ⟨u, hu⟩ : ∃ u, u = i * 256 := ⟨_, rfl⟩
  obtain ⟨e, he⟩ : ∃ e, e = u + 256 := ⟨_, rfl⟩
  have heN : e ≤ N := by omega
  obtain ⟨A1, s1, -, -, s4⟩ := cutB (some ad) N on u e (by omega) (by rw [hon]; exact heN) (by omega)
  rw [hon] at s1 s4
  have heu : e - u = 256 := by omega
  have hcut : (on.take e).drop u = (on.drop (i * 256)).take 256 := by rw [List.drop_take, heu, hu]
  rw [heu] at s1 s4
  rw [hcut] at s4
  have S4 := Lib.hid (s4 w hr)
  have m1 : (i : Int) * 256 = (u : Int) := by omega
  have m2 : ((i : Int) + 1) * 256 = (e : Int) := by omega
  have k1 : IntKind.i64.wrap (u : Int) = (u : Int) := i64w _ (by omega) (by omega)
  have k2 : IntKind.i64.wrap (e : Int) = (e : Int) := i64w _ (by omega) (by omega)
  have hib : (i : Int) ≤ 512 := by omega
  clear hr s4 hcut heu hu he heN hN hon
  go_enter Tryd.func71, Tryd.ntmps71
  go_wp2_with (first
    | ((with_reducible refine gDst 8 ?_); refine aLoadC _ rfl rfl hc rfl ?_))
  go_ret
  exact ⟨_, _, rfl, S4.out, rfl⟩
set_option maxHeartbeats 1600000 in
theorem diskHasNot_c (bd : Nat) (ad : Addr) (n N : Nat) (hN : N = n * 256) (hn : n ≤ 512) (i : Int) (hi : i < 0 ∨ (n : Int) ≤ i) (w : World) (hc : w.cell? ⟨bd, 0, none⟩ = some (.slice (some ad) N N)) : Calls Tryd.prog 72 #[.pointer (some ⟨bd, 0, none⟩), .int .i64 i] w fun e w' => e = .returned (.bool false) ∧ w = w' := by
  have HC := Lib.hid (diskLen_c bd ad n N hN hn w hc)
  clear hc hN
  by_cases h0 : 0 ≤ i
  · have h1 : (i < (n : Int)) = False := eq_false (by omega)
    go_enter Tryd.func72, Tryd.ntmps72
    go_wp2_with (first
      | (go_at_call 116; refine HC.out.mono ?_; rintro e w' ⟨rfl, rfl⟩))
    go_ret
    exact ⟨rfl, rfl⟩
  · have h1 : ((0 : Int) ≤ i) = False := eq_false h0
    go_enter Tryd.func72, Tryd.ntmps72
    go_wp2
    go_ret
    exact ⟨rfl, rfl⟩
end Go.Proofs.YticfcelbnkiopaaDoor

namespace Go.Proofs.YticfcelbnkiopaaDoor
set_option maxRecDepth 100000
open Go.RowKit Go.Shelf
set_option linter.unusedSimpArgs false
set_option linter.unusedVariables false

theorem diskRead_ok (bd bo n i : Nat) (vw : Value) (ss : List SVV) (st : DS) (hs : st.ok n) (hoff : st.off = false) (hi : i < n) (w : World) (hD : HOLD (diskL bd bo vw ss st) w) :
    Calls Tryd.prog 101 #[.pointer (some ⟨bd, 0, none⟩), .int .i64 (i : Int)] w fun e w' => ∃ v, e = .returned (.tuple #[v, .int .i64 0]) ∧ OB w' w.heap.size v (st.read i) ∧ Below w.heap.size w w' := by
  have hD2 := hD
  unfold diskL at hD2
  have hc : ∀ W, Below w.heap.size w W → W.cell? ⟨bd, 0, none⟩ = some (.slice (some ⟨bo, 0, none⟩) (n * 256) (n * 256)) := fun W hb => by
    have := ((hD2.below hb).va (b := bd)).cell 0
    rw [this, hs.ol]; rfl
  refine diskRead_any bd bo n i vw ss st hs hoff hi w hD (fun W hb => diskHas_c bd ⟨bo, 0, none⟩ n (n * 256) rfl hs.n2 i hi W (hc W hb)) (fun W hb => ?_)
  have hr : RB W (.slice (some ⟨bo, 0, none⟩) (n * 256) (n * 256)) st.on := ((hD2.below hb).va (b := bo)).rbn (n * 256) hs.ol (by have := hs.n2; omega)
  exact diskSector_c bd ⟨bo, 0, none⟩ n (n * 256) rfl hs.n2 i hi st.on hs.ol W (hc W hb) hr
set_option maxHeartbeats 1600000 in
theorem diskRead_off (bd bo : Nat) (i : Int) (vw : Value) (ss : List SVV) (st : DS) (hoff : st.off = true) (w : World) (hD : HOLD (diskL bd bo vw ss st) w) :
    Calls Tryd.prog 101 #[.pointer (some ⟨bd, 0, none⟩), .int .i64 i] w fun e w' => e = .returned (.tuple #[.slice none 0 0, .int .i64 8]) ∧ Below w.heap.size w w' := by
  have H := SH.start Nil w
  unfold diskL at hD
  have c3 : w.cell? ⟨bd, 3, none⟩ = some (Value.bool true) := by
    have := (hD.va (b := bd)).cell 3
    rw [this, hoff]; rfl
  clear hD hoff
  refine calls_marks Tryd.func101 rfl ?_
  simp only [Tryd.ntmps101, List.size_toArray, List.length_cons, List.length_nil, Nat.reduceAdd, Nat.reduceSub, Array.replicate_succ, Array.replicate_zero, List.push_toArray, List.append_toArray, List.nil_append, List.cons_append]
  go_wp2_with (first
    | ((with_reducible refine gDst 14 ?_); refine aLoadC _ rfl rfl (cell_below H.below c3) rfl ?_)
    | ((with_reducible refine gDst 3 ?_); refine aBox1 H _ rfl (by first | exact (rfl : _ = Value.int _ _) | exact (rfl : _ = Value.bool _) | exact (rfl : _ = Value.slice _ _ _) | exact (rfl : _ = Value.string _) | exact (rfl : _ = Value.pointer _) | exact (rfl : _ = Value.func _ _ _) | rfl) (by rfl) rfl ?_; clear H; intro b3 w3 H)
    | ((with_reducible refine gDst 4 ?_); refine aAlloc1 H rfl rfl ?_; clear H; intro b4 w4 H)
    | ((with_reducible refine gDst 5 ?_); refine aAlloc1 H rfl rfl ?_; clear H; intro b5 w5 H)
    | ((with_reducible refine gDst 6 ?_); refine aAlloc H rfl rfl ?_; clear H; intro b6 w6 H)
    | ((with_reducible refine gLoad ?_); first | (refine aLoad1 H _ rfl rfl (by first | exact (rfl : _ = some (Value.int _ _)) | exact (rfl : _ = some (Value.slice _ _ _)) | exact (rfl : _ = some (Value.bool _)) | exact (rfl : _ = some (Value.string _)) | exact (rfl : _ = some (Value.pointer _)) | rfl | (simp [List.getElem?_append]; done)) rfl ?_) | (refine aLoadC _ rfl rfl (by assumption) rfl ?_))
    | ((with_reducible refine gStore ?_); (first | (refine aCell H _ _ rfl rfl (by first | exact (rfl : _ = Value.int _ _) | exact (rfl : _ = Value.bool _) | exact (rfl : _ = Value.slice _ _ _) | exact (rfl : _ = Value.string _) | exact (rfl : _ = Value.pointer _) | exact (rfl : _ = Value.func _ _ _) | rfl) (by rfl) (by rfl) (by first | exact of_decide_eq_true rfl | (simp []; done) | (simp []; omega)) (by first | (simp only [List.set_cons_zero, List.set_cons_succ]; rfl) | (simp [List.set_append]; rfl)) rfl ?_) | (refine aStore H _ _ rfl rfl rfl (by (first | exact ⟨rfl, rfl⟩ | exact ⟨by decide, rfl⟩ | (simp []; done) | (constructor <;> simp [] <;> omega))) (by first | rfl | simp [List.all_append, one_all]) rfl ?_) | (refine aLay H _ _ rfl rfl rfl (by (first | exact ⟨rfl, rfl⟩ | exact ⟨by decide, rfl⟩ | (simp []; done) | (constructor <;> simp [] <;> omega))) (by first | rfl | simp [List.all_append, one_all]) (by simp only [lay, List.take_succ_cons, List.take_zero, List.drop_succ_cons, List.drop_zero, List.nil_append, List.cons_append, List.length_cons, List.length_nil, Nat.zero_add, Nat.reduceAdd]; rfl) rfl ?_)); clear H; intro w' H; try dsimp only at H))
  refine ⟨_, res_cells2 rfl _ rfl rfl ((H.hold.va (b := b4)).cell 0) ((H.hold.va (b := b5)).cell 0), ?_⟩
  exact ⟨rfl, H.below⟩
set_option maxHeartbeats 1600000 in
theorem diskRead_bad (bd bo n : Nat) (i : Int) (vw : Value) (ss : List SVV) (st : DS) (hs : st.ok n) (hoff : st.off = false) (hi : i < 0 ∨ (n : Int) ≤ i) (w : World) (hD : HOLD (diskL bd bo vw ss st) w) :
    Calls Tryd.prog 101 #[.pointer (some ⟨bd, 0, none⟩), .int .i64 i] w fun e w' => e = .returned (.tuple #[.slice none 0 0, .int .i64 1]) ∧ Below w.heap.size w w' := by
  have H := SH.start Nil w
  unfold diskL at hD
  have c3 : w.cell? ⟨bd, 3, none⟩ = some (Value.bool false) := by
    have := (hD.va (b := bd)).cell 3
    rw [this, hoff]; rfl
  have HH := Lib.hid (fun W (hb : Below w.heap.size w W) => diskHasNot_c bd ⟨bo, 0, none⟩ n (n * 256) rfl hs.n2 i hi W (by
    have := ((hD.below hb).va (b := bd)).cell 0
    rw [this, hs.ol]; rfl))
  clear hD hoff hi
  refine calls_marks Tryd.func101 rfl ?_
  simp only [Tryd.ntmps101, List.size_toArray, List.length_cons, List.length_nil, Nat.reduceAdd, Nat.reduceSub, Array.replicate_succ, Array.replicate_zero, List.push_toArray, List.append_toArray, List.nil_append, List.cons_append]
  go_wp2_with (first
    | ((with_reducible refine gDst 14 ?_); refine aLoadC _ rfl rfl (cell_below H.below c3) rfl ?_)
    | (go_at_call 72; refine (HH.out _ H.below).mono ?_; rintro e w' ⟨rfl, rfl⟩)
    | ((with_reducible refine gDst 3 ?_); refine aBox1 H _ rfl (by first | exact (rfl : _ = Value.int _ _) | exact (rfl : _ = Value.bool _) | exact (rfl : _ = Value.slice _ _ _) | exact (rfl : _ = Value.string _) | exact (rfl : _ = Value.pointer _) | exact (rfl : _ = Value.func _ _ _) | rfl) (by rfl) rfl ?_; clear H; intro b3 w3 H)
    | ((with_reducible refine gDst 4 ?_); refine aAlloc1 H rfl rfl ?_; clear H; intro b4 w4 H)
    | ((with_reducible refine gDst 5 ?_); refine aAlloc1 H rfl rfl ?_; clear H; intro b5 w5 H)
    | ((with_reducible refine gDst 6 ?_); refine aAlloc H rfl rfl ?_; clear H; intro b6 w6 H)
    | ((with_reducible refine gLoad ?_); first | (refine aLoad1 H _ rfl rfl (by first | exact (rfl : _ = some (Value.int _ _)) | exact (rfl : _ = some (Value.slice _ _ _)) | exact (rfl : _ = some (Value.bool _)) | exact (rfl : _ = some (Value.string _)) | exact (rfl : _ = some (Value.pointer _)) | rfl | (simp [List.getElem?_append]; done)) rfl ?_) | (refine aLoadC _ rfl rfl (by assumption) rfl ?_))
    | ((with_reducible refine gStore ?_); (first | (refine aCell H _ _ rfl rfl (by first | exact (rfl : _ = Value.int _ _) | exact (rfl : _ = Value.bool _) | exact (rfl : _ = Value.slice _ _ _) | exact (rfl : _ = Value.string _) | exact (rfl : _ = Value.pointer _) | exact (rfl : _ = Value.func _ _ _) | rfl) (by rfl) (by rfl) (by first | exact of_decide_eq_true rfl | (simp []; done) | (simp []; omega)) (by first | (simp only [List.set_cons_zero, List.set_cons_succ]; rfl) | (simp [List.set_append]; rfl)) rfl ?_) | (refine aStore H _ _ rfl rfl rfl (by (first | exact ⟨rfl, rfl⟩ | exact ⟨by decide, rfl⟩ | (simp []; done) | (constructor <;> simp [] <;> omega))) (by first | rfl | simp [List.all_append, one_all]) rfl ?_) | (refine aLay H _ _ rfl rfl rfl (by (first | exact ⟨rfl, rfl⟩ | exact ⟨by decide, rfl⟩ | (simp []; done) | (constructor <;> simp [] <;> omega))) (by first | rfl | simp [List.all_append, one_all]) (by simp only [lay, List.take_succ_cons, List.take_zero, List.drop_succ_cons, List.drop_zero, List.nil_append, List.cons_append, List.length_cons, List.length_nil, Nat.zero_add, Nat.reduceAdd]; rfl) rfl ?_)); clear H; intro w' H; try dsimp only at H))
  refine ⟨_, res_cells2 rfl _ rfl rfl ((H.hold.va (b := b4)).cell 0) ((H.hold.va (b := b5)).cell 0), ?_⟩
  exact ⟨rfl, H.below⟩
end Go.Proofs.YticfcelbnkiopaaDoor

namespace Go.Proofs.YticfcelbnkiopaaDoor
set_option maxRecDepth 100000
open Go.RowKit Go.Shelf
set_option linter.unusedSimpArgs false
set_option linter.unusedVariables false

def DS.spend (st : DS) : Bool × DS := if st.lets = 0 then (false, { st with off := true }) else if 0 < st.lets then (true, { st with lets := st.lets - 1 }) else (true, st)
set_option maxHeartbeats 1600000 in
theorem spend_any (bd bo : Nat) (vw : Value) (ss : List SVV) (st : DS) (hl : -1 ≤ st.lets ∧ st.lets ≤ 9223372036854775807) (w : World) (hD : SH (feet (diskL bd bo vw ss st)) w w (diskL bd bo vw ss st)) :
    Calls Tryd.prog 70 #[.pointer (some ⟨bd, 0, none⟩)] w fun e w' => e = .returned (.bool st.spend.1) ∧ SH (feet (diskL bd bo vw ss st)) w w' (diskL bd bo vw ss st.spend.2) := by
  obtain ⟨F, hF⟩ : ∃ F, F = feet (diskL bd bo vw ss st) := ⟨_, rfl⟩
  rw [← hF] at hD ⊢
  clear hF
  obtain ⟨on, ws, lets, off⟩ := st
  have H := hD
  unfold diskL at H
  clear hD
  simp only at hl
  by_cases h0 : lets = 0
  · subst h0
    have e : (DS.mk on ws 0 off).spend = (false, ⟨on, ws, 0, true⟩) := rfl
    rw [e]
    go_enter Tryd.func70, Tryd.ntmps70
    go_wp2_with (first
      | ((with_reducible refine gLoad ?_); first | (refine aLoad1 H _ rfl rfl (by first | exact (rfl : _ = some (Value.int _ _)) | exact (rfl : _ = some (Value.slice _ _ _)) | exact (rfl : _ = some (Value.bool _)) | exact (rfl : _ = some (Value.string _)) | exact (rfl : _ = some (Value.pointer _)) | rfl | (simp [List.getElem?_append]; done)) rfl ?_) | (refine aLoadC _ rfl rfl (by assumption) rfl ?_))
      | ((with_reducible refine gStore ?_); (first | (refine aCell H _ _ rfl rfl (by first | exact (rfl : _ = Value.int _ _) | exact (rfl : _ = Value.bool _) | exact (rfl : _ = Value.slice _ _ _) | exact (rfl : _ = Value.string _) | exact (rfl : _ = Value.pointer _) | exact (rfl : _ = Value.func _ _ _) | rfl) (by rfl) (by rfl) (by first | exact of_decide_eq_true rfl | (simp []; done) | (simp []; omega)) (by first | (simp only [List.set_cons_zero, List.set_cons_succ]; rfl) | (simp [List.set_append]; rfl)) rfl ?_)); clear H; intro w' H; try dsimp only at H))
    go_ret
    exact ⟨rfl, H⟩
  · by_cases h1 : 0 < lets
    · have e : (DS.mk on ws lets off).spend = (true, ⟨on, ws, lets - 1, off⟩) := by rw [DS.spend, if_neg h0, if_pos h1]
      have hne : (lets == 0) = false := beq_eq_false_iff_ne.mpr h0
      have k1 : IntKind.i64.wrap (lets - 1) = lets - 1 := i64w _ (by omega) (by omega)
      rw [e]
      go_enter Tryd.func70, Tryd.ntmps70
      go_wp2_with (first
        | ((with_reducible refine gLoad ?_); first | (refine aLoad1 H _ rfl rfl (by first | exact (rfl : _ = some (Value.int _ _)) | exact (rfl : _ = some (Value.slice _ _ _)) | exact (rfl : _ = some (Value.bool _)) | exact (rfl : _ = some (Value.string _)) | exact (rfl : _ = some (Value.pointer _)) | rfl | (simp [List.getElem?_append]; done)) rfl ?_) | (refine aLoadC _ rfl rfl (by assumption) rfl ?_))
        | ((with_reducible refine gStore ?_); (first | (refine aCell H _ _ rfl rfl (by first | exact (rfl : _ = Value.int _ _) | exact (rfl : _ = Value.bool _) | exact (rfl : _ = Value.slice _ _ _) | exact (rfl : _ = Value.string _) | exact (rfl : _ = Value.pointer _) | exact (rfl : _ = Value.func _ _ _) | rfl) (by rfl) (by rfl) (by first | exact of_decide_eq_true rfl | (simp []; done) | (simp []; omega)) (by first | (simp only [List.set_cons_zero, List.set_cons_succ]; rfl) | (simp [List.set_append]; rfl)) rfl ?_)); clear H; intro w' H; try dsimp only at H))
      go_ret
      exact ⟨rfl, H⟩
    · have e : (DS.mk on ws lets off).spend = (true, ⟨on, ws, lets, off⟩) := by rw [DS.spend, if_neg h0, if_neg h1]
      have hne : (lets == 0) = false := beq_eq_false_iff_ne.mpr h0
      have hn1 : (0 < lets) = False := eq_false h1
      rw [e]
      go_enter Tryd.func70, Tryd.ntmps70
      go_wp2_with (first
        | ((with_reducible refine gLoad ?_); first | (refine aLoad1 H _ rfl rfl (by first | exact (rfl : _ = some (Value.int _ _)) | exact (rfl : _ = some (Value.slice _ _ _)) | exact (rfl : _ = some (Value.bool _)) | exact (rfl : _ = some (Value.string _)) | exact (rfl : _ = some (Value.pointer _)) | rfl | (simp [List.getElem?_append]; done)) rfl ?_) | (refine aLoadC _ rfl rfl (by assumption) rfl ?_))
        | ((with_reducible refine gStore ?_); (first | (refine aCell H _ _ rfl rfl (by first | exact (rfl : _ = Value.int _ _) | exact (rfl : _ = Value.bool _) | exact (rfl : _ = Value.slice _ _ _) | exact (rfl : _ = Value.string _) | exact (rfl : _ = Value.pointer _) | exact (rfl : _ = Value.func _ _ _) | rfl) (by rfl) (by rfl) (by first | exact of_decide_eq_true rfl | (simp []; done) | (simp []; omega)) (by first | (simp only [List.set_cons_zero, List.set_cons_succ]; rfl) | (simp [List.set_append]; rfl)) rfl ?_)); clear H; intro w' H; try dsimp only at H))
      go_ret
      exact ⟨rfl, H⟩
end Go.Proofs.YticfcelbnkiopaaDoor

namespace Go.Proofs.YticfcelbnkiopaaDoor
set_option maxRecDepth 100000
open Go.RowKit Go.Shelf
set_option linter.unusedSimpArgs false
set_option linter.unusedVariables false

def sWT : ST Tryd.prog WV := ⟨WT, 140, .agg #[.int .i64 0, .slice none 0 0], Tryd.underlying140, by kernel_rfl, rfl⟩
def DS.write (st : DS) (i : Nat) (b : List UInt8) : DS := { st with ws := st.ws ++ [(i, b)] }
theorem DS.pairs_snoc (st : DS) (ss : List SVV) (h : ss.length = st.ws.length) (i : Nat) (b : List UInt8) (s : SVV) : st.pairs ss ++ [((i : Int), s)] = (st.write i b).pairs (ss ++ [s]) := by
  rw [DS.pairs, DS.pairs, DS.write, List.map_append, List.zip_append (by rw [List.length_map, h])]
  rfl
theorem sliceClone (v : Value) (xs : List UInt8) (w : World) (hv : RB w v xs) (hl : xs.length = 256) : Calls Tryd.prog 74 #[v] w fun e w' => ∃ A c, e = .returned (.slice A 256 c) ∧ OB w' w.heap.size (.slice A 256 c) xs ∧ Below w.heap.size w w' := by
  refine (Clone_any v xs w hv (by rw [hl]; decide)).mono ?_
  rintro e w' ⟨v', h1, h2, h3⟩
  obtain ⟨A, c, rfl, -⟩ := h2.reads.len
  rw [hl] at h1 h2
  exact ⟨A, c, h1, h2, h3⟩
theorem DS.spend_on (st : DS) : st.spend.2.on = st.on := by
  rw [DS.spend]
  split
  · rfl
  · split <;> rfl
theorem DS.spend_ws (st : DS) : st.spend.2.ws = st.ws := by
  rw [DS.spend]
  split
  · rfl
  · split <;> rfl
theorem DS.spend_pairs (st : DS) (ss : List SVV) : st.spend.2.pairs ss = st.pairs ss := by rw [DS.pairs, DS.pairs, DS.spend_ws]
/-- What a write to a sector does. -/
def DS.writeE (st : DS) (n : Nat) (i : Int) (b : List UInt8) : Int × DS :=
  if st.off then (8, st) else if i < 0 ∨ (n : Int) ≤ i ∨ b.length ≠ 256 then (1, st) else if st.spend.1 then (0, st.spend.2.write i.toNat b) else (8, st.spend.2)
set_option maxHeartbeats 3200000 in
theorem diskWrite_ok (bd bo n i : Nat) (vw vb : Value) (ss : List SVV) (st : DS) (b : List UInt8) (hs : st.ok n) (hl : -1 ≤ st.lets ∧ st.lets ≤ 9223372036854775807) (hoff : st.off = false) (hi : i < n) (hbl : b.length = 256) (hsp : st.spend.1 = true) (w : World)
    (hD : SH (feet (diskL bd bo vw ss st)) w w (diskL bd bo vw ss st)) (hv : ∀ w', Chg (feet (diskL bd bo vw ss st)) w w' → RB w' vb b) :
    Calls Tryd.prog 65 #[.pointer (some ⟨bd, 0, none⟩), .int .i64 (i : Int), vb] w fun e w' => e = .returned (.int .i64 0) ∧ ∃ vw' ss', SH (feet (diskL bd bo vw ss st)) w w' (diskL bd bo vw' ss' (st.spend.2.write i b)) := by
  obtain ⟨F, hF⟩ : ∃ F, F = feet (diskL bd bo vw ss st) := ⟨_, rfl⟩
  have HSP := Lib.hid (fun W (k : SH (feet (diskL bd bo vw ss st)) W W (diskL bd bo vw ss st)) => spend_any bd bo vw ss st hl W k)
  rw [← hF] at hD hv ⊢
  have H := hD
  obtain ⟨A0, c0, rfl, -⟩ := (hv w (Chg.refl _ _)).len
  rw [hbl] at hv ⊢
  have hlb : LB w ss (st.ws.map (·.2)) := by
    have h : (Own.rdAll ss (st.ws.map fun x : Nat × List UInt8 => x.2)).holds w := hD.holds _ (by simp [diskL])
    exact h
  have hsl : ss.length = st.ws.length := by rw [hlb.1, List.length_map]
  obtain ⟨m, hm⟩ : ∃ m, m = (st.pairs ss).length := ⟨_, rfl⟩
  have hmw : m = st.ws.length := by rw [hm, DS.pairs_len hsl]
  obtain ⟨A, cp, rfl, -⟩ : ∃ A c, vw = .slice A (st.pairs ss).length c ∧ _ := by
    unfold diskL at H
    exact (H.hold.rr vw).len
  have HAS := Lib.hid (fun W (k : W.cell? ⟨bd, 0, none⟩ = some (.slice (some ⟨bo, 0, none⟩) (n * 256) (n * 256))) => diskHas_c bd ⟨bo, 0, none⟩ n (n * 256) rfl hs.n2 i hi W k)
  have hol := hs.ol
  have hwl := hs.wl
  have hson := st.spend_on
  have hsws := st.spend_ws
  have hsps := st.spend_pairs ss
  rw [← hm] at H HSP
  clear hD hF
  unfold diskL at H
  have HOL := Lib.hid hol
  have HSON := Lib.hid hson
  have HSWS := Lib.hid hsws
  have HSPS := Lib.hid hsps
  have HV := Lib.hid hv
  have HBL := Lib.hid hbl
  have HSL := Lib.hid hsl
  have HM := Lib.hid hm
  have hml : m ≤ 1000000 := by omega
  have HMW := Lib.hid hmw
  clear hol hson hsws hsps hv hbl hsl hm hmw hlb hs hwl
  have h256 : ((256 : Int) != 256) = false := rfl
  go_enter Tryd.func65, Tryd.ntmps65
  go_wp2_with (first
    | (go_at_call 72; refine (HAS.out _ (by rw [← HOL.out]; exact (H.hold.va (b := bd)).cell 0)).mono ?_; rintro e w' ⟨rfl, rfl⟩)
    | (go_at_call 70; refine (HSP.out _ (SH.subL (D := diskL bd bo (.slice A m cp) ss st) (L := []) H)).mono ?_; rintro e w' ⟨rfl, k⟩; replace H := SH.viaL (D := diskL bd bo (.slice A m cp) ss st) (L := []) H k; clear k; rw [List.append_nil] at H; unfold diskL at H; rw [HSON.out, HSWS.out, HSPS.out] at H)
    | ((with_reducible refine gLoad ?_); first | (refine aLoad1 H _ rfl rfl (by first | exact (rfl : _ = some (Value.int _ _)) | exact (rfl : _ = some (Value.slice _ _ _)) | exact (rfl : _ = some (Value.bool _)) | exact (rfl : _ = some (Value.string _)) | exact (rfl : _ = some (Value.pointer _)) | rfl | (simp [List.getElem?_append]; done)) rfl ?_) | (refine aLoadC _ rfl rfl (by assumption) rfl ?_)))
  refine startA (fun i => i == 10 || i == 13) (by kernel_rfl) (fun wS hS => ?_)
  replace H := H.drew
  rw [← hS] at H
  have HH := H.hold
  have HS0 : Below wS.heap.size wS wS := Below.refl _ _
  clear hS
  refine takeP 0 rfl (by kernel_rfl) (by kernel_rfl) (by kernel_rfl) (by kernel_rfl) (fun _ _ _ h => h) rfl (v := ?_) ?_ ?_
  rotate_left
  · intro w'; go_simp; (try with_reducible rfl)
  (try simp only [Act.put, List.setIfInBounds_toArray, List.set_cons_zero, List.set_cons_succ])
  refine takeP 1 rfl (by kernel_rfl) (by kernel_rfl) (by kernel_rfl) (by kernel_rfl) (fun _ _ _ h => h) rfl (v := ?_) ?_ ?_
  rotate_left
  · intro w'; go_simp; (try with_reducible rfl)
  (try simp only [Act.put, List.setIfInBounds_toArray, List.set_cons_zero, List.set_cons_succ])
  refine takeP 2 rfl (by kernel_rfl) (by kernel_rfl) (by kernel_rfl) (by kernel_rfl) (fun _ _ _ h => h) rfl (v := ?_) ?_ ?_
  rotate_left
  · intro w'; go_simp; (try with_reducible rfl)
  (try simp only [Act.put, List.setIfInBounds_toArray, List.set_cons_zero, List.set_cons_succ])
  refine takeP 3 rfl (by kernel_rfl) (by kernel_rfl) (by kernel_rfl) (by kernel_rfl) (fun _ _ _ h => h) rfl (v := ?_) ?_ ?_
  rotate_left
  · intro w'; go_simp; (try with_reducible rfl)
  (try simp only [Act.put, List.setIfInBounds_toArray, List.set_cons_zero, List.set_cons_succ])
  refine takeL 4 HS0 rfl (by kernel_rfl) (by kernel_rfl) (by kernel_rfl) (by kernel_rfl) (by kernel_rfl) (fun _ _ _ h => h) rfl (v := ?_) ?_ ?_
  rotate_left
  · intro w' hw'; first | (refine Eq.trans (xLoad1 (HH.below hw') _ rfl rfl (by first | exact (rfl : _ = some (Value.int _ _)) | exact (rfl : _ = some (Value.slice _ _ _)) | exact (rfl : _ = some (Value.bool _)) | exact (rfl : _ = some (Value.string _)) | exact (rfl : _ = some (Value.pointer _)) | rfl | (simp [List.getElem?_append]; done))) ?_; with_reducible rfl) | (refine Eq.trans (xLoadC _ rfl rfl (cell_below hw' (by assumption))) ?_; with_reducible rfl)
  (try simp only [Act.put, List.setIfInBounds_toArray, List.set_cons_zero, List.set_cons_succ])
  refine takeP 5 rfl (by kernel_rfl) (by kernel_rfl) (by kernel_rfl) (by kernel_rfl) (fun _ _ _ h => h) rfl (v := ?_) ?_ ?_
  rotate_left
  · intro w'; go_simp; (try with_reducible rfl)
  (try simp only [Act.put, List.setIfInBounds_toArray, List.set_cons_zero, List.set_cons_succ])
  refine takeP 6 rfl (by kernel_rfl) (by kernel_rfl) (by kernel_rfl) (by kernel_rfl) (fun _ _ _ h => h) rfl (v := ?_) ?_ ?_
  rotate_left
  · intro w'; go_simp; (try with_reducible rfl)
  (try simp only [Act.put, List.setIfInBounds_toArray, List.set_cons_zero, List.set_cons_succ])
  refine stepL 7 rfl (by kernel_rfl) rfl (fun K hK => ?_)
  (go_simp; (with_reducible refine ((sliceClone _ b _ (HV.out _ H.chg) HBL.out)).mono ?_); rintro e w' ⟨A2, c2, rfl, ho, hb⟩; replace H := H.pushRow hb ho; clear ho; replace HS0 := below_two HS0 HS0.size hb; clear hb; refine hK.out _ _ (fun _ _ => HS0) ?_; clear K hK)
  (try simp only [Act.put, List.setIfInBounds_toArray, List.set_cons_zero, List.set_cons_succ])
  refine takeL 8 HS0 rfl (by kernel_rfl) (by kernel_rfl) (by kernel_rfl) (by kernel_rfl) (by kernel_rfl) (fun _ _ _ h => h) rfl (v := ?_) ?_ ?_
  rotate_left
  · intro w' hw'; refine Eq.trans (exec_build 144 _ rfl [.int .i64 (i : Int), .slice A2 256 c2] (by first | rfl | kernel_rfl)) ?_; with_reducible rfl
  (try simp only [Act.put, List.setIfInBounds_toArray, List.set_cons_zero, List.set_cons_succ])
  refine stepL 9 rfl (by kernel_rfl) rfl (fun K hK => ?_)
  (go_simp; refine hK.out _ _ (fun _ _ => below_two HS0 HS0.size (alloc_belowAt _ _)) ?_; clear K hK)
  (try simp only [Act.put, List.setIfInBounds_toArray, List.set_cons_zero, List.set_cons_succ])
  refine stepL 10 rfl (by kernel_rfl) rfl (fun K hK => ?_)
  (refine oAppL sWT [((i : Int), (A2, 256, c2))] #[.int .i64 (i : Int), .slice A2 256 c2] rfl (by simp) 1 rfl H _ _ rfl rfl rfl (by rw [← HM.out]; show (m + 1) * 32 ≤ _; omega) ?_; clear H; intro v' w' zs HZ H; (try dsimp only at H); obtain ⟨A', c', rfl, hc'⟩ := (H.hold.rr v').len; refine hK.out _ _ (fun h => by cases h) ?_; clear K hK)
  (try simp only [Act.put, List.setIfInBounds_toArray, List.set_cons_zero, List.set_cons_succ])
  refine takeP 11 rfl (by kernel_rfl) (by kernel_rfl) (by kernel_rfl) (by kernel_rfl) (fun _ _ _ h => h) rfl (v := ?_) ?_ ?_
  rotate_left
  · intro w'; go_simp; (try with_reducible rfl)
  (try simp only [Act.put, List.setIfInBounds_toArray, List.set_cons_zero, List.set_cons_succ])
  refine takeP 12 rfl (by kernel_rfl) (by kernel_rfl) (by kernel_rfl) (by kernel_rfl) (fun _ _ _ h => h) rfl (v := ?_) ?_ ?_
  rotate_left
  · intro w'; go_simp; (try with_reducible rfl)
  (try simp only [Act.put, List.setIfInBounds_toArray, List.set_cons_zero, List.set_cons_succ])
  refine stepL 13 rfl (by kernel_rfl) rfl (fun K hK => ?_)
  refine oCellA H _ _ rfl rfl (by first | exact (rfl : _ = Value.int _ _) | exact (rfl : _ = Value.bool _) | exact (rfl : _ = Value.slice _ _ _) | exact (rfl : _ = Value.string _) | exact (rfl : _ = Value.pointer _) | exact (rfl : _ = Value.func _ _ _) | rfl) (by rfl) (by rfl) (by first | exact of_decide_eq_true rfl | (simp []; done) | (simp []; omega)) (by first | (simp only [List.set_cons_zero, List.set_cons_succ]; rfl) | (simp [List.set_append]; rfl)) ?_
  clear H; intro w' H; (try dsimp only at H); refine hK.out _ _ (fun h => by cases h) ?_; clear K hK HS0
  (try simp only [Act.put, List.setIfInBounds_toArray, List.set_cons_zero, List.set_cons_succ])
  refine doneL (by kernel_rfl) ?_
  go_wp2
  go_ret
  have H2 := ((H.bring 4 rfl).bring 1 rfl).rdSnoc
  have H3 := ((H2.bring 3 rfl).bring 3 rfl).bring 3 rfl
  have e1 : (st.spend.2.write i b).pairs (ss ++ [(A2, 256, c2)]) = zs := by rw [HZ.out, ← HSPS.out]; exact (DS.pairs_snoc _ ss (by rw [HSWS.out]; exact HSL.out) i b _).symm
  have e2 : (st.spend.2.write i b).ws.map (·.2) = st.ws.map (·.2) ++ [b] := by show (st.spend.2.ws ++ [(i, b)]).map _ = _; rw [HSWS.out, List.map_append]; rfl
  have e3 : (st.spend.2.write i b).on = st.on := HSON.out
  refine ⟨rfl, .slice A' zs.length c', ss ++ [(A2, 256, c2)], ?_⟩
  unfold diskL
  rw [e1, e2, e3]
  exact H3
end Go.Proofs.YticfcelbnkiopaaDoor

namespace Go.Proofs.YticfcelbnkiopaaDoor
set_option maxRecDepth 100000
open Go.RowKit Go.Shelf
set_option linter.unusedSimpArgs false
set_option linter.unusedVariables false

theorem cutAt (b N u e : Nat) (hu : u < e) (he : e ≤ N) (W : World) : (Instr.slice 22 (.slice (some ⟨b, 0, none⟩) N N) (some (.int .i64 (u : Int))) (some (.int .i64 (e : Int))) none).run Tryd.prog W = .ok (.slice (some ⟨b, u, none⟩) (e - u) (N - u)) W := by
  obtain ⟨i0, hi, hzz⟩ := Option.map_eq_some_iff.1 Tryd.info_u8
  simp only [Prod.mk.injEq] at hzz
  obtain ⟨_, hsz, _⟩ := hzz
  have ht : Tryd.prog.underlying 22 = some (.slice 5) := Tryd.underlying22
  have hel : Tryd.prog.elem 22 = 5 := by simp [Program.elem, ht]
  have hne : ¬ N = u := by omega
  rw [run_slice_lh W 22 _ N N (by rw [hel]; exact ht) .i64 .i64 (u : Int) (e : Int) (by omega) (by omega) (by omega), hel]
  simp [sizeOf, typeInfo, hi, hsz, sliced, Result.andThen, hne, Addr.add_mid]
set_option maxHeartbeats 1600000 in
theorem diskSector_at (bd bo n N : Nat) (hN : N = n * 256) (hn : n ≤ 512) (i : Nat) (hi : i < n) (w : World) (hc : w.cell? ⟨bd, 0, none⟩ = some (.slice (some ⟨bo, 0, none⟩) N N)) :
    Calls Tryd.prog 71 #[.pointer (some ⟨bd, 0, none⟩), .int .i64 (i : Int)] w fun e w' => e = .returned (.slice (some ⟨bo, i * 256, none⟩) 256 (N - i * 256)) ∧ Below w.heap.size w w' := by
  obtain ⟨u, hu⟩ : ∃ u, u = i * 256 := ⟨_, rfl⟩
  obtain ⟨e, he⟩ : ∃ e, e = u + 256 := ⟨_, rfl⟩
  have s1 := fun W => cutAt bo N u e (by omega) (by omega) W
  have heu : e - u = 256 := by omega
  rw [heu] at s1
  have m1 : (i : Int) * 256 = (u : Int) := by omega
  have m2 : ((i : Int) + 1) * 256 = (e : Int) := by omega
  have k1 : IntKind.i64.wrap (u : Int) = (u : Int) := i64w _ (by omega) (by omega)
  have k2 : IntKind.i64.wrap (e : Int) = (e : Int) := i64w _ (by omega) (by omega)
  have hib : (i : Int) ≤ 512 := by omega
  rw [← hu]
  clear heu hu he hN
  go_enter Tryd.func71, Tryd.ntmps71
  go_wp2_with (first
    | ((with_reducible refine gDst 8 ?_); refine aLoadC _ rfl rfl hc rfl ?_))
  go_ret
  exact ⟨rfl, Below.refl _ _⟩
/-- A sector is laid. -/
def layS (on : List UInt8) (i : Nat) (b : List UInt8) : List UInt8 := on.take (i * 256) ++ b ++ on.drop (i * 256 + 256)
theorem layS_len (on : List UInt8) (i n : Nat) (b : List UInt8) (h : on.length = n * 256) (hi : i < n) (hb : b.length = 256) : (layS on i b).length = n * 256 := by
  rw [layS, List.length_append, List.length_append, List.length_take, List.length_drop, hb, h]; omega
theorem layS_lay (on : List UInt8) (i : Nat) (b : List UInt8) (hb : b.length = 256) : lay (on.map cb) (i * 256) (b.map cb) = (layS on i b).map cb := by
  rw [lay, layS, ← List.map_take, List.length_map, hb, ← List.map_drop, List.map_append, List.map_append]
def DS.flushK (st : DS) : Nat → List UInt8
  | 0 => st.on
  | k + 1 => layS (st.flushK k) (st.ws.getD k (0, [])).1 (st.ws.getD k (0, [])).2
theorem DS.flushK_len {st : DS} {n : Nat} (h : st.ok n) : ∀ k, k ≤ st.ws.length → (st.flushK k).length = n * 256
  | 0, _ => h.ol
  | k + 1, hk => layS_len _ _ _ _ (DS.flushK_len h k (by omega)) (h.ws k (by omega)).1 (h.ws k (by omega)).2
def DS.flush (st : DS) : DS := { st with on := st.flushK st.ws.length, ws := [] }
end Go.Proofs.YticfcelbnkiopaaDoor

namespace Go.Proofs.YticfcelbnkiopaaDoor
set_option maxRecDepth 100000
open Go.RowKit Go.Shelf
set_option linter.unusedSimpArgs false
set_option linter.unusedVariables false

def relFl (F : Nat → Prop) (w : World) (bd bo m cp : Nat) (A : Option Addr) (ss : List SVV) (st s1 : DS) (v23 : Value) (wr : World) : Prop := ∃ k : Nat, v23 = .int .i64 (k : Int) ∧ k ≤ m ∧ SH F w wr [.blk bd 142 [.slice (some ⟨bo, 0, none⟩) st.on.length st.on.length, .slice A m cp, .int .i64 s1.lets, .bool s1.off], .blk bo 5 ((st.flushK k).map cb), .row WT (.slice A m cp) (st.pairs ss), .rdAll ss (st.ws.map (·.2))]
set_option maxHeartbeats 3200000 in
theorem diskFlush_ok (bd bo n : Nat) (vw : Value) (ss : List SVV) (st : DS) (hs : st.ok n) (hl : -1 ≤ st.lets ∧ st.lets ≤ 9223372036854775807) (hoff : st.off = false) (hsp : st.spend.1 = true) (w : World)
    (hD : SH (feet (diskL bd bo vw ss st)) w w (diskL bd bo vw ss st)) :
    Calls Tryd.prog 19 #[.pointer (some ⟨bd, 0, none⟩)] w fun e w' => e = .returned (.int .i64 0) ∧ SH (feet (diskL bd bo vw ss st)) w w' (diskL bd bo (.slice none 0 0) [] st.spend.2.flush) := by
  obtain ⟨F, hF⟩ : ∃ F, F = feet (diskL bd bo vw ss st) := ⟨_, rfl⟩
  have HSP := Lib.hid (fun W (k : SH (feet (diskL bd bo vw ss st)) W W (diskL bd bo vw ss st)) => spend_any bd bo vw ss st hl W k)
  rw [← hF] at hD ⊢
  have H := hD
  have hlb : LB w ss (st.ws.map (·.2)) := by
    have h : (Own.rdAll ss (st.ws.map fun x : Nat × List UInt8 => x.2)).holds w := hD.holds _ (by simp [diskL])
    exact h
  have hsl : ss.length = st.ws.length := by rw [hlb.1, List.length_map]
  obtain ⟨m, hm⟩ : ∃ m, m = (st.pairs ss).length := ⟨_, rfl⟩
  have hmw : m = st.ws.length := by rw [hm, DS.pairs_len hsl]
  obtain ⟨A, cp, rfl, -⟩ : ∃ A c, vw = .slice A (st.pairs ss).length c ∧ _ := by
    unfold diskL at H
    exact (H.hold.rr vw).len
  rw [← hm] at H HSP
  have c3 : w.cell? ⟨bd, 3, none⟩ = some (Value.bool false) := by
    unfold diskL at H
    have := (H.hold.va (b := bd)).cell 3
    rw [this, hoff]; rfl
  have c0 : (if st.lets = 0 then true else false) = true → False := fun h => by
    by_cases h0 : st.lets = 0
    · rw [DS.spend, if_pos h0] at hsp; cases hsp
    · rw [if_neg h0] at h; cases h
  have HS := Lib.hid hs
  have HSON := Lib.hid st.spend_on
  have HSWS := Lib.hid st.spend_ws
  have HSPS := Lib.hid (st.spend_pairs ss)
  have HSL := Lib.hid hsl
  have HM := Lib.hid hm
  have HMW := Lib.hid hmw
  have hml : m ≤ 1000000 := by have := hs.wl; omega
  have hn2 := hs.n2
  have HC0 := Lib.hid (fun (W : World) (vs : List Value) (h : VA W bd 142 (.slice (some ⟨bo, 0, none⟩) st.on.length st.on.length :: vs)) => (show W.cell? ⟨bd, 0, none⟩ = some (.slice (some ⟨bo, 0, none⟩) (n * 256) (n * 256)) by rw [h.cell 0, hs.ol]; rfl))
  clear hD hF hlb hsl hm hmw c0 hs hoff
  unfold diskL at H
  generalize hs1 : st.spend.2 = s1 at *
  generalize hs2 : st.spend.1 = sb at *
  have HS1 := Lib.hid hs1
  clear hs1 hs2
  subst hsp
  go_enter Tryd.func19, Tryd.ntmps19
  go_wp2_with (first
    | ((with_reducible refine gDst 11 ?_); refine aLoadC _ rfl rfl c3 rfl ?_)
    | (go_at_call 70; refine (HSP.out _ (SH.subL (D := diskL bd bo (.slice A m cp) ss st) (L := []) H)).mono ?_; rintro e w' ⟨rfl, k⟩; replace H := SH.viaL (D := diskL bd bo (.slice A m cp) ss st) (L := []) H k; clear k; rw [List.append_nil] at H; unfold diskL at H; rw [HSON.out, HSWS.out, HSPS.out] at H)
    | ((with_reducible refine gDst 4 ?_); refine aAlloc H rfl rfl ?_; clear H; intro b4 w4 H)
    | ((with_reducible refine gLoad ?_); first | (refine aLoad1 H _ rfl rfl (by first | exact (rfl : _ = some (Value.int _ _)) | exact (rfl : _ = some (Value.slice _ _ _)) | exact (rfl : _ = some (Value.bool _)) | exact (rfl : _ = some (Value.string _)) | exact (rfl : _ = some (Value.pointer _)) | rfl | (simp [List.getElem?_append]; done)) rfl ?_) | (refine aLoadC _ rfl rfl (by assumption) rfl ?_) | (refine aLoad H _ rfl rfl (by first | exact part_all (by first | rfl | simp []) | (simp only [List.drop_succ_cons, List.drop_zero, List.take_succ_cons, List.take_zero]; rfl) | (simp [List.drop_append, List.take_append]; rfl)) (by first | rfl | simp []) rfl ?_))
    | ((with_reducible refine gStore ?_); (first | (refine aCell H _ _ rfl rfl (by first | exact (rfl : _ = Value.int _ _) | exact (rfl : _ = Value.bool _) | exact (rfl : _ = Value.slice _ _ _) | exact (rfl : _ = Value.string _) | exact (rfl : _ = Value.pointer _) | exact (rfl : _ = Value.func _ _ _) | rfl) (by rfl) (by rfl) (by first | exact of_decide_eq_true rfl | (simp []; done) | (simp []; omega)) (by first | (simp only [List.set_cons_zero, List.set_cons_succ]; rfl) | (simp [List.set_append]; rfl)) rfl ?_) | (refine aStore H _ _ rfl rfl rfl (by (first | exact ⟨rfl, rfl⟩ | exact ⟨by decide, rfl⟩ | (simp []; done) | (constructor <;> simp [] <;> omega))) (by first | rfl | simp [List.all_append, one_all]) rfl ?_) | (refine aLay H _ _ rfl rfl rfl (by (first | exact ⟨rfl, rfl⟩ | exact ⟨by decide, rfl⟩ | (simp []; done) | (constructor <;> simp [] <;> omega))) (by first | rfl | simp [List.all_append, one_all]) (by simp only [lay, List.take_succ_cons, List.take_zero, List.drop_succ_cons, List.drop_zero, List.nil_append, List.cons_append, List.length_cons, List.length_nil, Nat.zero_add, Nat.reduceAdd]; rfl) rfl ?_)); clear H; intro w' H; try dsimp only at H))
  go_loopw [23] (fun v23 wr => relFl F w bd bo m cp A ss st s1 v23 wr) (fun v _ => m - (intOf v).toNat)
  case atStart => exact ⟨0, rfl, by omega, H⟩
  case round =>
    obtain ⟨k, rfl, hk, H0⟩ := hrel
    clear H
    have H := H0
    clear H0
    by_cases hkm : k < m
    · have hki : (k : Int) < (m : Int) := by omega
      have hkw : k < st.ws.length := by rw [← HMW.out]; exact hkm
      have hget := DS.pairs_get HSL.out k hkw
      obtain ⟨hw1, hw2⟩ := HS.out.ws k hkw
      have hnm : (st.ws.map (·.2)).getD k [] = (st.ws.getD k (0, [])).2 := by
        rw [List.getD_eq_getElem?_getD, List.getElem?_map, List.getD_eq_getElem?_getD]
        cases st.ws[k]? <;> rfl
      have hrbs : ∀ W, LB W ss (st.ws.map (·.2)) → RB W (ss.getD k sv0).val (st.ws.getD k (0, [])).2 := fun W h => by
        have := h.2 k (by rw [List.length_map]; exact hkw)
        rw [hnm] at this
        exact this
      have hrr := H.hold.rr (.slice A m cp)
      obtain ⟨ad, rfl, hcell⟩ := hrr.at_ k (by rw [← HM.out]; exact hkm)
      have hpk : (st.pairs ss)[k]'(by rw [← HM.out]; exact hkm) = (st.pairs ss).getD k wv0 := by rw [List.getD_eq_getElem?_getD, List.getElem?_eq_getElem (by rw [← HM.out]; exact hkm)]; rfl
      rw [hpk, hget] at hcell
      have hfk : st.flushK (k + 1) = layS (st.flushK k) (st.ws.getD k (0, [])).1 (st.ws.getD k (0, [])).2 := rfl
      have hfl := DS.flushK_len HS.out k (by omega)
      have h0 := hrbs wr (H.at_ 3 rfl)
      generalize ss.getD k sv0 = sv at *
      obtain ⟨As, ns, cs⟩ := sv
      obtain ⟨_, _, hsv, hcs⟩ := h0.len
      rw [hw2] at hsv
      obtain ⟨rfl, rfl, rfl⟩ : As = _ ∧ ns = 256 ∧ cs = _ := by injection hsv with e1 e2 e3; exact ⟨e1, e2, e3⟩
      obtain ⟨ads, rfl, -⟩ := RB.at0 (A := As) (n := 256) (c := cs) h0 (by omega)
      generalize (st.ws.getD k (0, [])).2 = bs at *
      generalize (st.ws.getD k (0, [])).1 = at_ at *
      have hlay := layS_lay (st.flushK k) at_ bs hw2
      rw [← hfk] at hlay
      have HRBS := Lib.hid (fun W h => (RB.at0 (A := some ads) (n := 256) (c := cs) (hrbs W h) (by rw [hw2]; decide)))
      have HCELL := Lib.hid (fun (j : Nat) (v : Value) (h : (WT.enc (((at_ : Int)), (some ads, 256, cs)))[j]? = some v) => (show wr.cell? ((ad.add (k * 2)).add j) = some v by
        rw [← hcell j v h]
        congr 1
        show (ad.add (k * 2)).add j = ad.add (k * 2 + j)
        unfold Addr.add
        by_cases h1 : k * 2 = 0 <;> by_cases h2 : j = 0 <;> simp [h1, h2, Nat.add_assoc]))
      have HLAY := Lib.hid hlay
      have HW2 := Lib.hid hw2
      have HFL := Lib.hid hfl
      have hfit : at_ * 256 + bs.length ≤ ((st.flushK k).map cb).length := by rw [List.length_map, hfl, hw2]; omega
      have HFIT := Lib.hid hfit
      have hat : (at_ : Int) < 1000 := by omega
      clear hcell hrbs hlay hw2 hfl hfit hfk hpk hget hnm hsv hcs h0 hrr hkw
      go_wp2_with (first
        | ((with_reducible refine gDst 26 ?_); refine stepV (exec_loadA 144 _ rfl (ad.add (k * 2)) rfl (WT.enc ((at_ : Int), (some ads, 256, cs))) _ (fun j v h => HCELL.out j v h) Tryd.underlying144 rfl (by kernel_rfl)) rfl ?_)
        | ((with_reducible refine gSto (.tmp 4) (.tmp 26) ?_); refine aStore (vs := [.int .i64 (at_ : Int), .slice (some ads) 256 cs]) H _ _ rfl rfl rfl ⟨by rfl, by rfl⟩ (by rfl) rfl ?_; clear H; intro w' H; (try dsimp only at H))
        | ((with_reducible refine gDst 4 ?_); refine aAlloc H rfl rfl ?_; clear H; intro b4 w4 H)
        | ((with_reducible refine gLoad ?_); first | (refine aLoad1 H _ rfl rfl (by first | exact (rfl : _ = some (Value.int _ _)) | exact (rfl : _ = some (Value.slice _ _ _)) | exact (rfl : _ = some (Value.bool _)) | exact (rfl : _ = some (Value.string _)) | exact (rfl : _ = some (Value.pointer _)) | rfl | (simp [List.getElem?_append]; done)) rfl ?_) | (refine aLoadC _ rfl rfl (by assumption) rfl ?_) | (refine aLoad H _ rfl rfl (by first | exact part_all (by first | rfl | simp []) | (simp only [List.drop_succ_cons, List.drop_zero, List.take_succ_cons, List.take_zero]; rfl) | (simp [List.drop_append, List.take_append]; rfl)) (by first | rfl | simp []) rfl ?_))
        | ((with_reducible refine gStore ?_); (first | (refine aCell H _ _ rfl rfl (by first | exact (rfl : _ = Value.int _ _) | exact (rfl : _ = Value.bool _) | exact (rfl : _ = Value.slice _ _ _) | exact (rfl : _ = Value.string _) | exact (rfl : _ = Value.pointer _) | exact (rfl : _ = Value.func _ _ _) | rfl) (by rfl) (by rfl) (by first | exact of_decide_eq_true rfl | (simp []; done) | (simp []; omega)) (by first | (simp only [List.set_cons_zero, List.set_cons_succ]; rfl) | (simp [List.set_append]; rfl)) rfl ?_) | (refine aStore H _ _ rfl rfl rfl (by (first | exact ⟨rfl, rfl⟩ | exact ⟨by decide, rfl⟩ | (simp []; done) | (constructor <;> simp [] <;> omega))) (by first | rfl | simp [List.all_append, one_all]) rfl ?_) | (refine aLay H _ _ rfl rfl rfl (by (first | exact ⟨rfl, rfl⟩ | exact ⟨by decide, rfl⟩ | (simp []; done) | (constructor <;> simp [] <;> omega))) (by first | rfl | simp [List.all_append, one_all]) (by simp only [lay, List.take_succ_cons, List.take_zero, List.drop_succ_cons, List.drop_zero, List.nil_append, List.cons_append, List.length_cons, List.length_nil, Nat.zero_add, Nat.reduceAdd]; rfl) rfl ?_)); clear H; intro w' H; try dsimp only at H))
      refine startA (fun i => i == 6) (by kernel_rfl) (fun wS hS => ?_)
      replace H := H.drew
      rw [← hS] at H
      have HH := H.hold
      have HS0 : Below wS.heap.size wS wS := Below.refl _ _
      clear hS
      refine takeP 0 rfl (by kernel_rfl) (by kernel_rfl) (by kernel_rfl) (by kernel_rfl) (fun _ _ _ h => h) rfl (v := ?_) ?_ ?_
      rotate_left
      · intro w'; go_simp; (try with_reducible rfl)
      (try simp only [Act.put, List.setIfInBounds_toArray, List.set_cons_zero, List.set_cons_succ])
      refine takeP 1 rfl (by kernel_rfl) (by kernel_rfl) (by kernel_rfl) (by kernel_rfl) (fun _ _ _ h => h) rfl (v := ?_) ?_ ?_
      rotate_left
      · intro w'; go_simp; (try with_reducible rfl)
      (try simp only [Act.put, List.setIfInBounds_toArray, List.set_cons_zero, List.set_cons_succ])
      refine takeL 2 HS0 rfl (by kernel_rfl) (by kernel_rfl) (by kernel_rfl) (by kernel_rfl) (by kernel_rfl) (fun _ _ _ h => h) rfl (v := ?_) ?_ ?_
      rotate_left
      · intro w' hw'; first | (refine Eq.trans (xLoad1 (HH.below hw') _ rfl rfl (by first | exact (rfl : _ = some (Value.int _ _)) | exact (rfl : _ = some (Value.slice _ _ _)) | exact (rfl : _ = some (Value.bool _)) | exact (rfl : _ = some (Value.string _)) | exact (rfl : _ = some (Value.pointer _)) | rfl | (simp [List.getElem?_append]; done))) ?_; with_reducible rfl) | (refine Eq.trans (xLoadC _ rfl rfl (cell_below hw' (by assumption))) ?_; with_reducible rfl)
      (try simp only [Act.put, List.setIfInBounds_toArray, List.set_cons_zero, List.set_cons_succ])
      refine takeP 4 rfl (by kernel_rfl) (by kernel_rfl) (by kernel_rfl) (by kernel_rfl) (fun _ _ _ h => h) rfl (v := ?_) ?_ ?_
      rotate_left
      · intro w'; go_simp; (try with_reducible rfl)
      (try simp only [Act.put, List.setIfInBounds_toArray, List.set_cons_zero, List.set_cons_succ])
      refine takeL 5 HS0 rfl (by kernel_rfl) (by kernel_rfl) (by kernel_rfl) (by kernel_rfl) (by kernel_rfl) (fun _ _ _ h => h) rfl (v := ?_) ?_ ?_
      rotate_left
      · intro w' hw'; first | (refine Eq.trans (xLoad1 (HH.below hw') _ rfl rfl (by first | exact (rfl : _ = some (Value.int _ _)) | exact (rfl : _ = some (Value.slice _ _ _)) | exact (rfl : _ = some (Value.bool _)) | exact (rfl : _ = some (Value.string _)) | exact (rfl : _ = some (Value.pointer _)) | rfl | (simp [List.getElem?_append]; done))) ?_; with_reducible rfl) | (refine Eq.trans (xLoadC _ rfl rfl (cell_below hw' (by assumption))) ?_; with_reducible rfl)
      (try simp only [Act.put, List.setIfInBounds_toArray, List.set_cons_zero, List.set_cons_succ])
      refine stepL 3 rfl (by kernel_rfl) rfl (fun K hK => ?_)
      (go_simp; (with_reducible refine ((diskSector_at bd bo n (n * 256) rfl hn2 at_ hw1 _ (HC0.out _ _ (H.hold.va (b := bd))))).mono ?_); rintro e w' ⟨rfl, hb⟩; replace H := H.step hb; replace HS0 := below_two HS0 HS0.size hb; clear hb; refine hK.out _ _ (fun _ _ => HS0) ?_; clear K hK)
      (try simp only [Act.put, List.setIfInBounds_toArray, List.set_cons_zero, List.set_cons_succ])
      refine stepL 6 rfl (by kernel_rfl) rfl (fun K hK => ?_)
      (obtain ⟨ad9, e9, h9⟩ := HRBS.out _ (H.at_ 4 rfl); injection e9 with e9; subst e9; refine oCopyB H _ _ rfl rfl rfl bs (by rw [HW2.out]; rfl) h9 HFIT.out HLAY.out ?_; intro w' hch H'; clear H h9 hch; have H := H'; clear H'; (try dsimp only at H); refine hK.out _ _ (fun h => by cases h) ?_; clear K hK)
      (try simp only [Act.put, List.setIfInBounds_toArray, List.set_cons_zero, List.set_cons_succ])
      refine doneL (by kernel_rfl) ?_
      replace H := H.tail
      go_wp2
      go_roundw
      case rel => first | exact ⟨k + 1, by go_num, by omega, H⟩ | exact ⟨_, ⟨k + 1, by go_num, by omega, H⟩, rfl⟩ | exact ⟨_, _, ⟨k + 1, by go_num, by omega, H⟩, rfl, rfl⟩ | exact ⟨_, _, _, ⟨k + 1, by go_num, by omega, H⟩, rfl, rfl, rfl⟩ | exact ⟨_, _, _, _, ⟨k + 1, by go_num, by omega, H⟩, rfl, rfl, rfl, rfl⟩ | exact ⟨_, _, _, _, _, ⟨k + 1, by go_num, by omega, H⟩, rfl, rfl, rfl, rfl, rfl⟩ | ((repeat (apply Exists.intro)); exact ⟨⟨k + 1, by go_num, by omega, H⟩, rfl⟩)
      case measure => simp [intOf] <;> omega
    · obtain rfl : m = k := by omega
      have hfl : s1.flush = ⟨st.flushK m, [], s1.lets, s1.off⟩ := by
        have hfk : ∀ j, s1.flushK j = st.flushK j := fun j => by
          induction j with
          | zero => exact HSON.out
          | succ j ih => rw [DS.flushK, DS.flushK, ih, HSWS.out]
        rw [DS.flush, hfk, HSWS.out, ← HMW.out]
      have hfll := DS.flushK_len HS.out m (by rw [HMW.out]; exact Nat.le_refl _)
      have HFL := Lib.hid hfl
      have HFLL := Lib.hid hfll
      clear hfl hfll
      go_wp2_with (first
        | ((with_reducible refine gDst 4 ?_); refine aAlloc H rfl rfl ?_; clear H; intro b4 w4 H)
        | ((with_reducible refine gLoad ?_); first | (refine aLoad1 H _ rfl rfl (by first | exact (rfl : _ = some (Value.int _ _)) | exact (rfl : _ = some (Value.slice _ _ _)) | exact (rfl : _ = some (Value.bool _)) | exact (rfl : _ = some (Value.string _)) | exact (rfl : _ = some (Value.pointer _)) | rfl | (simp [List.getElem?_append]; done)) rfl ?_) | (refine aLoadC _ rfl rfl (by assumption) rfl ?_) | (refine aLoad H _ rfl rfl (by first | exact part_all (by first | rfl | simp []) | (simp only [List.drop_succ_cons, List.drop_zero, List.take_succ_cons, List.take_zero]; rfl) | (simp [List.drop_append, List.take_append]; rfl)) (by first | rfl | simp []) rfl ?_))
        | ((with_reducible refine gStore ?_); (first | (refine aCell H _ _ rfl rfl (by first | exact (rfl : _ = Value.int _ _) | exact (rfl : _ = Value.bool _) | exact (rfl : _ = Value.slice _ _ _) | exact (rfl : _ = Value.string _) | exact (rfl : _ = Value.pointer _) | exact (rfl : _ = Value.func _ _ _) | rfl) (by rfl) (by rfl) (by first | exact of_decide_eq_true rfl | (simp []; done) | (simp []; omega)) (by first | (simp only [List.set_cons_zero, List.set_cons_succ]; rfl) | (simp [List.set_append]; rfl)) rfl ?_) | (refine aStore H _ _ rfl rfl rfl (by (first | exact ⟨rfl, rfl⟩ | exact ⟨by decide, rfl⟩ | (simp []; done) | (constructor <;> simp [] <;> omega))) (by first | rfl | simp [List.all_append, one_all]) rfl ?_) | (refine aLay H _ _ rfl rfl rfl (by (first | exact ⟨rfl, rfl⟩ | exact ⟨by decide, rfl⟩ | (simp []; done) | (constructor <;> simp [] <;> omega))) (by first | rfl | simp [List.all_append, one_all]) (by simp only [lay, List.take_succ_cons, List.take_zero, List.drop_succ_cons, List.drop_zero, List.nil_append, List.cons_append, List.length_cons, List.length_nil, Nat.zero_add, Nat.reduceAdd]; rfl) rfl ?_)); clear H; intro w' H; try dsimp only at H))
      go_ret
      have H2 := (((H.erase 2).erase 2).nilRow WT).rdNil
      have H3 := (((H2.bring 1 rfl).bring 3 rfl).bring 3 rfl)
      refine ⟨rfl, ?_⟩
      rw [HFL.out]
      unfold diskL
      rw [show st.on.length = (st.flushK m).length by rw [HFLL.out, HS.out.ol]] at H3
      exact H3
end Go.Proofs.YticfcelbnkiopaaDoor

namespace Go.Proofs.YticfcelbnkiopaaDoor
set_option maxRecDepth 100000
open Go.RowKit Go.Shelf
set_option linter.unusedSimpArgs false
set_option linter.unusedVariables false

def rotK (on : List UInt8) (i : Nat) (mask : List UInt8) : Nat → List UInt8
  | 0 => on
  | k + 1 => (rotK on i mask k).set (i * 256 + k) ((rotK on i mask k).getD (i * 256 + k) 0 ^^^ mask.getD k 0)
theorem rotK_len (on : List UInt8) (i : Nat) (mask : List UInt8) : ∀ k, (rotK on i mask k).length = on.length
  | 0 => rfl
  | k + 1 => by rw [rotK, List.length_set, rotK_len on i mask k]
def DS.rot (st : DS) (i : Nat) (mask : List UInt8) : DS := { st with on := rotK st.on i mask mask.length }
theorem xor8' (a b : UInt8) : bits .xor .u8 (a.toNat : Int) (b.toNat : Int) = ((a ^^^ b).toNat : Int) := by
  rw [u8_xor_nat _ _ (UInt8.toNat_lt a) (UInt8.toNat_lt b), UInt8.toNat_xor]
def relRt (F : Nat → Prop) (w : World) (bd bo i : Nat) (vw : Value) (ss : List SVV) (st : DS) (mask : List UInt8) (v28 : Value) (wr : World) : Prop := ∃ k : Nat, v28 = .int .i64 (k : Int) ∧ k ≤ mask.length ∧ SH F w wr [.blk bd 142 [.slice (some ⟨bo, 0, none⟩) st.on.length st.on.length, vw, .int .i64 st.lets, .bool st.off], .blk bo 5 ((rotK st.on i mask k).map cb), .row WT vw (st.pairs ss), .rdAll ss (st.ws.map (·.2))]
set_option maxHeartbeats 3200000 in
theorem diskRot_ok (bd bo n i : Nat) (vw vm : Value) (ss : List SVV) (st : DS) (mask : List UInt8) (hs : st.ok n) (hi : i < n) (hm : mask.length ≤ 256) (w : World)
    (hD : SH (feet (diskL bd bo vw ss st)) w w (diskL bd bo vw ss st)) (hv : ∀ w', Chg (feet (diskL bd bo vw ss st)) w w' → RB w' vm mask) :
    Calls Tryd.prog 20 #[.pointer (some ⟨bd, 0, none⟩), .int .i64 (i : Int), vm] w fun e w' => e = .returned (.int .i64 0) ∧ SH (feet (diskL bd bo vw ss st)) w w' (diskL bd bo vw ss (st.rot i mask)) := by
  obtain ⟨F, hF⟩ : ∃ F, F = feet (diskL bd bo vw ss st) := ⟨_, rfl⟩
  rw [← hF] at hD hv ⊢
  have H := hD
  obtain ⟨A0, c0, rfl, -⟩ := (hv w (Chg.refl _ _)).len
  have HC0 := Lib.hid (fun (W : World) (vs : List Value) (h : VA W bd 142 (.slice (some ⟨bo, 0, none⟩) st.on.length st.on.length :: vs)) => (show W.cell? ⟨bd, 0, none⟩ = some (.slice (some ⟨bo, 0, none⟩) (n * 256) (n * 256)) by rw [h.cell 0, hs.ol]; rfl))
  have HAS := Lib.hid (fun W (k : W.cell? ⟨bd, 0, none⟩ = some (.slice (some ⟨bo, 0, none⟩) (n * 256) (n * 256))) => diskHas_c bd ⟨bo, 0, none⟩ n (n * 256) rfl hs.n2 i hi W k)
  have hn2 := hs.n2
  have hol := hs.ol
  have HOL := Lib.hid hol
  have HV := Lib.hid hv
  have hmi : ((256 : Int) < (mask.length : Int)) = False := eq_false (by omega)
  clear hD hF hv hs hol
  unfold diskL at H
  go_enter Tryd.func20, Tryd.ntmps20
  go_wp2_with (first
    | (go_at_call 72; refine (HAS.out _ (HC0.out _ _ (H.hold.va (b := bd)))).mono ?_; rintro e w' ⟨rfl, rfl⟩)
    | (go_at_call 71; refine (diskSector_at bd bo n (n * 256) rfl hn2 i hi _ (HC0.out _ _ (H.hold.va (b := bd)))).mono ?_; rintro e w' ⟨rfl, hb⟩; replace H := H.step hb; clear hb)
    | ((with_reducible refine gLoad ?_); first | (refine aLoad1 H _ rfl rfl (by first | exact (rfl : _ = some (Value.int _ _)) | exact (rfl : _ = some (Value.slice _ _ _)) | exact (rfl : _ = some (Value.bool _)) | exact (rfl : _ = some (Value.string _)) | exact (rfl : _ = some (Value.pointer _)) | rfl | (simp [List.getElem?_append]; done)) rfl ?_) | (refine aLoadC _ rfl rfl (by assumption) rfl ?_))
    | ((with_reducible refine gStore ?_); (first | (refine aCell H _ _ rfl rfl (by first | exact (rfl : _ = Value.int _ _) | exact (rfl : _ = Value.bool _) | exact (rfl : _ = Value.slice _ _ _) | exact (rfl : _ = Value.string _) | exact (rfl : _ = Value.pointer _) | exact (rfl : _ = Value.func _ _ _) | rfl) (by rfl) (by rfl) (by first | exact of_decide_eq_true rfl | (simp []; done) | (simp []; omega)) (by first | (simp only [List.set_cons_zero, List.set_cons_succ]; rfl) | (simp [List.set_append]; rfl)) rfl ?_)); clear H; intro w' H; try dsimp only at H))
  go_loopw [8, 9, 28] (fun _ _ v28 wr => relRt F w bd bo i vw ss st mask v28 wr) (fun _ _ v _ => mask.length - (intOf v).toNat)
  case atStart => exact ⟨0, rfl, by omega, H⟩
  case round =>
    obtain ⟨k, rfl, hk, H0⟩ := hrel
    clear H
    have H := H0
    clear H0
    by_cases hkm : k < mask.length
    · have hki : (k : Int) < (mask.length : Int) := by omega
      have hk256 : (k : Int) < 256 := by omega
      have hrb := HV.out wr H.chg
      obtain ⟨am, rfl, hby⟩ := hrb.byte (by omega)
      have hcm := hby k hkm
      have hlen := rotK_len st.on i mask k
      have hlt : i * 256 + k < (rotK st.on i mask k).length := by rw [hlen, HOL.out]; omega
      have hcb : ((rotK st.on i mask k).map cb)[i * 256 + k]? = some (cb ((rotK st.on i mask k).getD (i * 256 + k) 0)) := by
        rw [List.getElem?_map, List.getD_eq_getElem?_getD, List.getElem?_eq_getElem hlt]; rfl
      have hco := ((H.hold.va (b := bo)).cell (i * 256 + k)).trans hcb
      have hset : ((rotK st.on i mask k).map cb).set (i * 256 + k) (cb ((rotK st.on i mask k).getD (i * 256 + k) 0 ^^^ mask.getD k 0)) = (rotK st.on i mask (k + 1)).map cb := by rw [rotK, List.map_set]
      have hx := xor8' ((rotK st.on i mask k).getD (i * 256 + k) 0) (mask.getD k 0)
      have hltm : i * 256 + k < ((rotK st.on i mask k).map cb).length := by rw [List.length_map]; exact hlt
      generalize (rotK st.on i mask k).getD (i * 256 + k) 0 ^^^ mask.getD k 0 = z at *
      generalize (rotK st.on i mask k).getD (i * 256 + k) 0 = x at *
      generalize mask.getD k 0 = y at *
      have HSET := Lib.hid hset
      have HLT := Lib.hid hltm
      clear hset hltm hlt hlen hcb hby hrb
      change _ = some (Value.int .u8 (x.toNat : Int)) at hco
      go_wp2_with (first
        | ((with_reducible refine gDst 32 ?_); refine aLoadC _ rfl rfl hcm rfl ?_)
        | ((with_reducible refine gDst 36 ?_); refine aLoadC _ rfl rfl hco rfl ?_)
        | ((with_reducible refine gSto (.tmp 39) (.tmp 38) ?_); refine aCell (v := cb z) (new := (rotK st.on i mask (k + 1)).map cb) H _ _ rfl rfl rfl rfl rfl HLT.out HSET.out rfl ?_; clear H hco hcm; intro w' H; (try dsimp only at H)))
      go_roundw
      case rel => first | exact ⟨k + 1, by go_num, by omega, H⟩ | exact ⟨_, ⟨k + 1, by go_num, by omega, H⟩, rfl⟩ | exact ⟨_, _, ⟨k + 1, by go_num, by omega, H⟩, rfl, rfl⟩ | exact ⟨_, _, _, ⟨k + 1, by go_num, by omega, H⟩, rfl, rfl, rfl⟩ | exact ⟨_, _, _, _, ⟨k + 1, by go_num, by omega, H⟩, rfl, rfl, rfl, rfl⟩ | exact ⟨_, _, _, _, _, ⟨k + 1, by go_num, by omega, H⟩, rfl, rfl, rfl, rfl, rfl⟩ | ((repeat (apply Exists.intro)); exact ⟨⟨k + 1, by go_num, by omega, H⟩, rfl⟩)
      case measure => simp [intOf] <;> omega
    · obtain rfl : k = mask.length := by omega
      go_wp2
      go_ret
      refine ⟨rfl, ?_⟩
      unfold diskL DS.rot
      rw [← rotK_len st.on i mask mask.length] at H
      exact H
end Go.Proofs.YticfcelbnkiopaaDoor

namespace Go.Proofs.YticfcelbnkiopaaDoor
set_option maxRecDepth 100000
open Go.RowKit

structure PT where
  hash : List UInt8
  hl : hash.length = 32
  birth : UInt32
  a0 : UInt32
  a1 : UInt32
  deriving DecidableEq
def u32 (n : UInt32) : Value := .int .u32 (n.toNat : Int)
def PT.cells (p : PT) : List Value := p.hash.map cb ++ [u32 p.birth, u32 p.a0, u32 p.a1]
def PT.val (p : PT) : Value := .agg p.cells.toArray
def PT.may (p : PT) : Bool := if p.a0 = 0 then p.a1 == 0 else p.a0 != p.a1
theorem PT.len (p : PT) : p.cells.length = 35 := by simp [PT.cells, p.hl]
theorem PT.take32 (p : PT) : p.cells.take 32 = p.hash.map cb := by rw [PT.cells, List.take_append_of_le_length (by simp [p.hl]), List.take_of_length_le (by simp [p.hl])]
theorem PT.drop32 (p : PT) : p.cells.drop 32 = [u32 p.birth, u32 p.a0, u32 p.a1] := by rw [PT.cells, List.drop_left' (by simp [p.hl])]
theorem PT.drop33 (p : PT) : p.cells.drop 33 = [u32 p.a0, u32 p.a1] := by rw [show 33 = 32 + 1 from rfl, ← List.drop_drop, PT.drop32]; rfl
theorem PT.c32 (p : PT) : p.cells.toArray[32]? = some (u32 p.birth) := by simp [PT.cells, p.hl]
theorem PT.c33 (p : PT) : p.cells.toArray[33]? = some (u32 p.a0) := by simp [PT.cells, p.hl]
theorem PT.c34 (p : PT) : p.cells.toArray[34]? = some (u32 p.a1) := by simp [PT.cells, p.hl]
theorem PT.ext' (p q : PT) (h1 : p.hash = q.hash) (h2 : p.birth = q.birth) (h3 : p.a0 = q.a0) (h4 : p.a1 = q.a1) : p = q := by
  cases p; cases q; simp_all
/-- The hole. -/
def PT.hole : PT := ⟨List.replicate 32 0, by simp, 0, 0, 0⟩
theorem u32_eq (a b : UInt32) : ((a.toNat : Int) == (b.toNat : Int)) = (a == b) := by
  by_cases h : a = b
  · subst h; simp
  · have : ¬ (a.toNat : Int) = (b.toNat : Int) := fun e => h (UInt32.toNat_inj.mp (by omega))
    rw [beq_eq_false_iff_ne.mpr this, beq_eq_false_iff_ne.mpr h]
theorem u8_eq (a b : UInt8) : ((a.toNat : Int) == (b.toNat : Int)) = (a == b) := by
  by_cases h : a = b
  · subst h; simp
  · have : ¬ (a.toNat : Int) = (b.toNat : Int) := fun e => h (UInt8.toNat_inj.mp (by omega))
    rw [beq_eq_false_iff_ne.mpr this, beq_eq_false_iff_ne.mpr h]

theorem sizeOf_ok {P : Program} {t : TypeId} {n : Nat} (h : (P.info? t).map (·.size) = some n) (w : World) : (sizeOf t).run P w = .ok n w := by
  cases hq : P.info? t with
  | none => simp [hq] at h
  | some i => simp [hq] at h; simp [sizeOf, typeInfo, hq, h]
theorem eqU8 : EqT Tryd.prog 5 1 false 1 (fun x : UInt8 => [cb x]) cb (fun x y => (x.toNat : Int) == (y.toNat : Int)) :=
  EqT.int 5 .u8 (by kernel_rfl) (sizeOf_ok (by kernel_rfl)) (fun x : UInt8 => (x.toNat : Int))
theorem eqU32 : EqT Tryd.prog 30 1 false 1 (fun x : UInt32 => [u32 x]) u32 (fun x y => (x.toNat : Int) == (y.toNat : Int)) :=
  EqT.int 30 .u32 (by kernel_rfl) (sizeOf_ok (by kernel_rfl)) (fun x : UInt32 => (x.toNat : Int))

theorem eqHash : EqT Tryd.prog 29 (32 * 1) true 2 (fun l : RowOf UInt8 32 => l.1.flatMap fun x => [cb x]) (fun l => .agg (l.1.flatMap fun x => [cb x]).toArray) (fun x y => (x.1.zip y.1).all fun p => (p.1.toNat : Int) == (p.2.toNat : Int)) :=
  eqU8.row (by kernel_rfl) (sizeOf_ok (by kernel_rfl))
theorem eqAt : EqT Tryd.prog 31 (2 * 1) true 2 (fun l : RowOf UInt32 2 => l.1.flatMap fun x => [u32 x]) (fun l => .agg (l.1.flatMap fun x => [u32 x]).toArray) (fun x y => (x.1.zip y.1).all fun p => (p.1.toNat : Int) == (p.2.toNat : Int)) :=
  eqU32.row (by kernel_rfl) (sizeOf_ok (by kernel_rfl))
theorem flatMap_one {α : Type} (f : α → Value) (l : List α) : (l.flatMap fun x => [f x]) = l.map f := by
  induction l with
  | nil => rfl
  | cons x l ih => simp [ih]
theorem zip_u8 : ∀ (xs ys : List UInt8), xs.length = ys.length → ((xs.zip ys).all fun p => (p.1.toNat : Int) == (p.2.toNat : Int)) = (xs == ys) := by
  intro xs ys h
  rw [← zip_all_eq xs ys h]
  congr 1
  funext p
  exact u8_eq _ _

theorem eqPT : EqT Tryd.prog 33 35 true 3 PT.cells PT.val (fun p q => p == q) where
  isAg w := by unfold isAgg; rw [Sem.run_bind, run_underlying (t := 33) Tryd.underlying33 w]; rfl
  size := sizeOf_ok (by kernel_rfl)
  len := PT.len
  vals p := rfl
  one h := by cases h
  eqs d w p q := by
    unfold PT.val
    rw [run_equalIn_struct w (d + 2) 33 _ _ (by kernel_rfl) (by kernel_rfl)]
    have hf : (Program.fieldsOf Tryd.prog 33).toList.map (fun f => (f.name, f.type, f.offset)) = [("Hash", 29, 0), ("Birth", 30, 32), ("At", 31, 33)] := by kernel_rfl
    rw [eqFields_eq, hf]
    have h3 := eqF_cons (P := Tryd.prog) "At" 31 33 [] eqAt (by decide) (d + 2) (by omega) p.cells q.cells ⟨[p.a0, p.a1], rfl⟩ ⟨[q.a0, q.a1], rfl⟩ (by rw [PT.drop33]; rfl) (by rw [PT.drop33]; rfl) (by rw [PT.len]; decide) (by rw [PT.len]; decide) w true (eqF_nil _ _ _ _)
    have h2 := eqF_cons (P := Tryd.prog) "Birth" 30 32 _ eqU32 (by decide) (d + 2) (by omega) p.cells q.cells p.birth q.birth (by rw [PT.drop32]; rfl) (by rw [PT.drop32]; rfl) (by rw [PT.len]; decide) (by rw [PT.len]; decide) w _ h3
    have h1 := eqF_cons (P := Tryd.prog) "Hash" 29 0 _ eqHash (by decide) (d + 2) (by omega) p.cells q.cells ⟨p.hash, p.hl⟩ ⟨q.hash, q.hl⟩ (by rw [List.drop_zero, flatMap_one]; exact PT.take32 p) (by rw [List.drop_zero, flatMap_one]; exact PT.take32 q) (by rw [PT.len]; decide) (by rw [PT.len]; decide) w _ h2
    rw [h1]
    congr 1
    simp only [zip_u8 p.hash q.hash (by rw [p.hl, q.hl]), u32_eq, List.zip_cons_cons, List.zip_nil_right, List.all_cons, List.all_nil, Bool.and_true]
    rw [Bool.eq_iff_iff]
    simp only [Bool.and_eq_true, beq_iff_eq]
    constructor
    · rintro ⟨h1, h2, h3, h4⟩; exact PT.ext' p q h1 h2 h3 h4
    · rintro rfl; exact ⟨rfl, rfl, rfl, rfl⟩
theorem ptr_eql (p q : PT) (w : World) : (binOp .eql 33 p.val q.val).run Tryd.prog w = .ok (.bool (p == q)) w := by
  unfold PT.val
  rw [run_eql_struct]
  have h := eqPT.eqs 9997 w p q
  unfold PT.val at h
  rw [h]; rfl

set_option maxRecDepth 100000 in
theorem May_any (p : PT) (w : World) : Calls Tryd.prog 83 #[p.val] w fun e w' => e = .returned (.bool p.may) ∧ Below w.heap.size w w' := by
  have h33 := p.c33
  have h34 := p.c34
  have hb : Below w.heap.size w (w.alloc (.cells p.cells.toArray 33)) := (Below.refl _ _).alloc (Nat.le_refl _) _
  unfold PT.val u32 at *
  generalize p.cells.toArray = C at h33 h34 hb
  have e0 := u32_eq p.a0 0
  have e1 := u32_eq p.a1 0
  have e2 : ((p.a0.toNat : Int) != (p.a1.toNat : Int)) = (p.a0 != p.a1) := by rw [bne, bne, u32_eq]
  simp only [UInt32.toNat_zero, Int.natCast_zero] at e0 e1
  by_cases h : p.a0 = 0
  · have hm : p.may = (p.a1 == 0) := by rw [PT.may, if_pos h]
    rw [hm]
    have h0 : ((p.a0.toNat : Int) == 0) = true := by rw [h]; rfl
    clear h hm e0
    go_enter Tryd.func83, Tryd.ntmps83
    go_wp2
    go_ret
    exact ⟨rfl, hb⟩
  · have hm : p.may = (p.a0 != p.a1) := by rw [PT.may, if_neg h]
    rw [hm]
    have h0 : ((p.a0.toNat : Int) == 0) = false := by
      have : ¬ (p.a0.toNat : Int) = 0 := fun e => h (UInt32.toNat_inj.mp (by simpa using e))
      simpa using this
    clear h hm e0
    go_enter Tryd.func83, Tryd.ntmps83
    go_wp2
    go_ret
    exact ⟨rfl, hb⟩
end Go.Proofs.YticfcelbnkiopaaDoor

namespace Go.Proofs.YticfcelbnkiopaaDoor
set_option maxRecDepth 100000
open Go.RowKit

theorem PT.info (p : PT) : (Tryd.prog.info? 33).map (·.size) = some p.cells.length := by rw [PT.len]; kernel_rfl
theorem PT.one (p : PT) : ∀ v ∈ p.cells, v.oneCell' = true := by
  intro v hv
  simp only [PT.cells, List.mem_append, List.mem_map, List.mem_cons, List.not_mem_nil, or_false] at hv
  rcases hv with ⟨x, _, rfl⟩ | rfl | rfl | rfl <;> rfl
theorem ptr_eqlA (p q : PT) (w : World) : (binOp .eql 33 (.agg p.cells.toArray) (.agg q.cells.toArray)).run Tryd.prog w = .ok (.bool (p == q)) w := ptr_eql p q w
theorem ptr_zero : Program.built Tryd.prog 33 [] = some PT.hole.cells.toArray := by kernel_rfl
theorem ptr_guard : Tryd.prog.eqGuardType Tryd.prog.depth 33 = false := by kernel_rfl

set_option maxRecDepth 100000 in
theorem IsHole_any (p : PT) (w : World) : Calls Tryd.prog 68 #[p.val] w fun e w' => e = .returned (.bool (p == PT.hole)) ∧ Below w.heap.size w w' := by
  unfold PT.val
  go_enter Tryd.func68, Tryd.ntmps68
  go_wp2_with (first
    | (refine wpBox 33 _ rfl p.cells rfl rfl ?_; intro w1 hv1 hb1)
    | (refine stepV (exec_load 33 _ rfl _ _ rfl p.cells _ hv1.all Tryd.underlying33 rfl p.info) rfl ?_)
    | (refine stepV (exec_build 33 _ rfl PT.hole.cells ptr_zero) rfl ?_)
    | (refine stepV (exec_eql 33 _ _ _ rfl _ _ rfl rfl ptr_guard _ (ptr_eqlA p PT.hole _)) rfl ?_))
  go_ret
  exact ⟨rfl, hb1⟩
end Go.Proofs.YticfcelbnkiopaaDoor

namespace Go.Proofs.YticfcelbnkiopaaDoor
set_option maxRecDepth 100000
set_option linter.unusedSimpArgs false
open Go.RowKit

/-- A pointer as it is written. -/
def encL (p : PT) : List UInt8 := p.hash ++ put32L p.birth.toNat ++ put32L p.a0.toNat ++ put32L p.a1.toNat
theorem encL_length (p : PT) : (encL p).length = 44 := by simp [encL, put32L, p.hl]
theorem PT.range_hash {w : World} {b : Nat} {t : TypeId} {p : PT} (h : VA w b t p.cells) : w.rangeAt b 0 (p.hash.map cb) := h.range 0 _ (by rw [List.drop_zero, List.length_map, p.hl]; exact p.take32)
theorem PT.rb_hash {w : World} {b : Nat} {t : TypeId} {p : PT} (h : VA w b t p.cells) : RB w (.slice (some ⟨b, 0, none⟩) 32 32) p.hash := by
  have := RR.range (T := B8) (w := w) (b := b) (o := 0) (xs := p.hash) (by rw [U8_all]; exact PT.range_hash h) (by rw [p.hl]; decide)
  rw [p.hl] at this
  exact this
theorem PT.cell32 {w : World} {b : Nat} {t : TypeId} {p : PT} (h : VA w b t p.cells) : w.cell? ⟨b, 32, none⟩ = some (.int .u32 (p.birth.toNat : Int)) := by rw [h.cell]; have := p.c32; rw [List.getElem?_toArray] at this; exact this
theorem PT.cell33 {w : World} {b : Nat} {t : TypeId} {p : PT} (h : VA w b t p.cells) : w.cell? ⟨b, 33, none⟩ = some (.int .u32 (p.a0.toNat : Int)) := by rw [h.cell]; have := p.c33; rw [List.getElem?_toArray] at this; exact this
theorem PT.cell34 {w : World} {b : Nat} {t : TypeId} {p : PT} (h : VA w b t p.cells) : w.cell? ⟨b, 34, none⟩ = some (.int .u32 (p.a1.toNat : Int)) := by rw [h.cell]; have := p.c34; rw [List.getElem?_toArray] at this; exact this
theorem one_u8 (xs : List UInt8) : ∀ v ∈ xs.map cb, v.oneCell' = true := by
  intro v hv
  obtain ⟨x, _, rfl⟩ := List.mem_map.mp hv
  rfl
theorem OB.shape {w : World} {base : Nat} {v : Value} {xs : List UInt8} {n : Nat} (h : OB w base v xs) (hn : xs.length = n) (hp : 0 < n) : ∃ g c, v = .slice (some ⟨g, 0, none⟩) n c ∧ base ≤ g ∧ w.rangeAt g 0 (xs.map cb) := by
  subst hn
  obtain ⟨A, c, rfl, _, _, hc⟩ := h.reads
  rcases h.2 with ⟨h1, _⟩ | ⟨g, cap, cur, h1, h2, _⟩
  · obtain ⟨ad, e, _⟩ := hc hp
    rw [e] at h1; cases h1
  · obtain ⟨ad, e, hcc⟩ := hc hp
    rw [e] at h1 ⊢
    cases h1
    refine ⟨g, _, rfl, h2, fun j v hv => ?_⟩
    have := hcc j v (by rw [U8_all]; exact hv)
    rw [Addr.add_mid] at this
    exact this
/-- An array of bytes, by value. -/
def bytesV (xs : List UInt8) : Value := .agg (xs.map cb).toArray

set_option maxHeartbeats 1600000 in
set_option maxRecDepth 100000 in
theorem Encode_any (p : PT) (w : World) : Calls Tryd.prog 84 #[p.val] w fun e w' => e = .returned (bytesV (encL p)) ∧ Below w.heap.size w w' := by
  unfold PT.val
  go_enter Tryd.func84, Tryd.ntmps84
  go_wp2_with (first
    | (refine wpBox 33 _ rfl p.cells rfl rfl ?_; intro w1 hv1 hb1)
    | (refine wpAlloc 163 rfl (bytesV (List.replicate 44 0)) ((List.replicate 44 (0 : UInt8)).map cb) (by kernel_rfl) rfl rfl ?_; intro w2 hv2 hb2; have hne := hv1.lt; replace hv1 := hv1.below hb2))
  have hb := below_two hb1 hb1.size hb2
  have hvd1 : VA w2.drew w.heap.size 33 p.cells := hv1
  have hvd2 : VA w2.drew w1.heap.size 163 ((List.replicate 44 (0 : UInt8)).map cb) := hv2
  have hbd : Below w.heap.size w w2.drew := hb.drew
  clear hv1 hv2 hb1 hb2 hb
  refine startE (none) (by kernel_rfl) ?_
  refine takeE 0 rfl (by kernel_rfl) (by kernel_rfl) (by kernel_rfl) (fun _ _ _ h => h) rfl (v := ?_) ?_ ?_
  rotate_left
  · intro w' hw'; clear hw'; go_simp; (try with_reducible rfl)
  (try simp only [Act.put, List.setIfInBounds_toArray, List.set_cons_zero, List.set_cons_succ])
  refine takeE 1 rfl (by kernel_rfl) (by kernel_rfl) (by kernel_rfl) (fun _ _ _ h => h) rfl (v := ?_) ?_ ?_
  rotate_left
  · intro w' hw'; clear hw'; go_simp; (try with_reducible rfl)
  (try simp only [Act.put, List.setIfInBounds_toArray, List.set_cons_zero, List.set_cons_succ])
  refine takeE 2 rfl (by kernel_rfl) (by kernel_rfl) (by kernel_rfl) (fun _ _ _ h => h) rfl (v := ?_) ?_ ?_
  rotate_left
  · intro w' hw'; clear hw'; go_simp; (try with_reducible rfl)
  (try simp only [Act.put, List.setIfInBounds_toArray, List.set_cons_zero, List.set_cons_succ])
  refine takeE 3 rfl (by kernel_rfl) (by kernel_rfl) (by kernel_rfl) (fun _ _ _ h => h) rfl (v := ?_) ?_ ?_
  rotate_left
  · intro w' hw'; have h := cell_below (grown_none hw') (PT.cell32 hvd1); clear hw'; go_simp; (try with_reducible rfl)
  (try simp only [Act.put, List.setIfInBounds_toArray, List.set_cons_zero, List.set_cons_succ])
  refine stepE 4 rfl (by kernel_rfl) rfl (fun K hK => ?_)
  (go_simp; (with_reducible refine (Put32_any _ p.hash p.birth.toNat _ (PT.rb_hash hvd1) (by rw [p.hl]; omega) p.birth.toNat_lt).mono ?_); rintro e w3 ⟨v3, rfl, ho3, hb3⟩; refine K_out hK hb3 ?_; clear K hK; replace hvd1 := hvd1.below hb3; replace hvd2 := hvd2.below hb3; replace hbd := below_two hbd hbd.size hb3; clear hb3)
  (try simp only [Act.put, List.setIfInBounds_toArray, List.set_cons_zero, List.set_cons_succ])
  refine takeE 5 rfl (by kernel_rfl) (by kernel_rfl) (by kernel_rfl) (fun _ _ _ h => h) rfl (v := ?_) ?_ ?_
  rotate_left
  · intro w' hw'; clear hw'; go_simp; (try with_reducible rfl)
  (try simp only [Act.put, List.setIfInBounds_toArray, List.set_cons_zero, List.set_cons_succ])
  refine doneE (by kernel_rfl) ?_
  go_wp2_with fail
  have hvd1' : VA w3.drew w.heap.size 33 p.cells := hvd1
  have hvd2' : VA w3.drew w1.heap.size 163 ((List.replicate 44 (0 : UInt8)).map cb) := hvd2
  have hbd' : Below w.heap.size w w3.drew := hbd.drew
  have ho3' := ho3.drew
  clear hvd1 hvd2 hbd ho3
  refine startE (some w1.heap.size) (by kernel_rfl) ?_
  refine takeE 0 rfl (by kernel_rfl) (by kernel_rfl) (by kernel_rfl) (fun _ _ _ h => h) rfl (v := ?_) ?_ ?_
  rotate_left
  · intro w' hw'; clear hw'; go_simp; (try with_reducible rfl)
  (try simp only [Act.put, List.setIfInBounds_toArray, List.set_cons_zero, List.set_cons_succ])
  refine takeE 1 rfl (by kernel_rfl) (by kernel_rfl) (by kernel_rfl) (fun _ _ _ h => h) rfl (v := ?_) ?_ ?_
  rotate_left
  · intro w' hw'; clear hw'; go_simp; (try with_reducible rfl)
  (try simp only [Act.put, List.setIfInBounds_toArray, List.set_cons_zero, List.set_cons_succ])
  refine takeE 2 rfl (by kernel_rfl) (by kernel_rfl) (by kernel_rfl) (fun _ _ _ h => h) rfl (v := ?_) ?_ ?_
  rotate_left
  · intro w' hw'; clear hw'; go_simp; (try with_reducible rfl)
  (try simp only [Act.put, List.setIfInBounds_toArray, List.set_cons_zero, List.set_cons_succ])
  refine takeE 3 rfl (by kernel_rfl) (by kernel_rfl) (by kernel_rfl) (fun _ _ _ h => h) rfl (v := ?_) ?_ ?_
  rotate_left
  · intro w' hw'; have h := hw'.cell (PT.cell33 hvd1') (by simp; omega); clear hw'; go_simp; (try with_reducible rfl)
  (try simp only [Act.put, List.setIfInBounds_toArray, List.set_cons_zero, List.set_cons_succ])
  refine takeE 5 rfl (by kernel_rfl) (by kernel_rfl) (by kernel_rfl) (fun _ _ _ h => h) rfl (v := ?_) ?_ ?_
  rotate_left
  · intro w' hw'; clear hw'; go_simp; (try with_reducible rfl)
  (try simp only [Act.put, List.setIfInBounds_toArray, List.set_cons_zero, List.set_cons_succ])
  refine takeE 6 rfl (by kernel_rfl) (by kernel_rfl) (by kernel_rfl) (fun _ _ _ h => h) rfl (v := ?_) ?_ ?_
  rotate_left
  · intro w' hw'; clear hw'; go_simp; (try with_reducible rfl)
  (try simp only [Act.put, List.setIfInBounds_toArray, List.set_cons_zero, List.set_cons_succ])
  refine takeE 7 rfl (by kernel_rfl) (by kernel_rfl) (by kernel_rfl) (fun _ _ _ h => h) rfl (v := ?_) ?_ ?_
  rotate_left
  · intro w' hw'; have h := hw'.cell (PT.cell34 hvd1') (by simp; omega); clear hw'; go_simp; (try with_reducible rfl)
  (try simp only [Act.put, List.setIfInBounds_toArray, List.set_cons_zero, List.set_cons_succ])
  refine stepE 4 rfl (by kernel_rfl) rfl (fun K hK => ?_)
  (go_simp; (with_reducible refine (Put32_any _ _ p.a0.toNat _ ho3'.reads (by simp [p.hl, put32L]) p.a0.toNat_lt).mono ?_); rintro e w4 ⟨v4, rfl, ho4, hb4⟩; refine K_out hK hb4 ?_; clear K hK; replace hvd1' := hvd1'.below hb4; replace hvd2' := hvd2'.below hb4; replace hbd' := below_two hbd' hbd'.size hb4; clear hb4 ho3')
  (try simp only [Act.put, List.setIfInBounds_toArray, List.set_cons_zero, List.set_cons_succ])
  refine stepE 8 rfl (by kernel_rfl) rfl (fun K hK => ?_)
  (go_simp; (with_reducible refine (Put32_any _ _ p.a1.toNat _ ho4.reads (by simp [p.hl, put32L]) p.a1.toNat_lt).mono ?_); rintro e w5 ⟨v5, rfl, ho5, hb5⟩; refine K_out hK hb5 ?_; clear K hK; obtain ⟨g, c, rfl, hg1, hg2⟩ := OB.shape ho5 (encL_length p) (by decide); have hne2 : g ≠ w1.heap.size := (by have := hvd2'.lt; omega); replace hvd1' := hvd1'.below hb5; replace hvd2' := hvd2'.below hb5; replace hbd' := below_two hbd' hbd'.size hb5; clear hb5 ho4 ho5)
  (try simp only [Act.put, List.setIfInBounds_toArray, List.set_cons_zero, List.set_cons_succ])
  refine takeE 9 rfl (by kernel_rfl) (by kernel_rfl) (by kernel_rfl) (fun _ _ _ h => h) rfl (v := ?_) ?_ ?_
  rotate_left
  · intro w' hw'; refine Eq.trans (exec_arrptr 163 _ rfl 44 _ Tryd.underlying163 _ 44 c rfl (Nat.le_refl _)) ?_; with_reducible rfl
  (try simp only [Act.put, List.setIfInBounds_toArray, List.set_cons_zero, List.set_cons_succ])
  refine takeE 10 rfl (by kernel_rfl) (by kernel_rfl) (by kernel_rfl) (fun _ _ _ h => h) rfl (v := ?_) ?_ ?_
  rotate_left
  · intro w' hw'; refine Eq.trans (exec_load 163 _ rfl g 0 rfl ((encL p).map cb) _ (fun j v hv => hw'.cell (hg2 j v hv) (by simpa using hne2)) Tryd.underlying163 rfl (by rw [List.length_map, encL_length]; kernel_rfl)) ?_; with_reducible rfl
  (try simp only [Act.put, List.setIfInBounds_toArray, List.set_cons_zero, List.set_cons_succ])
  refine stepE 11 rfl (by kernel_rfl) rfl (fun K hK => ?_)
  (refine opStore 163 _ _ rfl w1.heap.size rfl ((encL p).map cb) _ rfl _ hvd2' (by rw [List.length_map, encL_length]; kernel_rfl) (by simp [encL_length]) (one_u8 _) ?_; intro w6 hv6 hg6; refine hK.out _ _ hg6 ?_; clear K hK)
  (try simp only [Act.put, List.setIfInBounds_toArray, List.set_cons_zero, List.set_cons_succ])
  refine doneE (by kernel_rfl) ?_
  have hb6 := hbd'.grown hg6 hbd'.size (fun k hk => by cases hk; omega)
  go_wp2_with fail
  refine bodyPost_ret (results_cell rfl _ hv6 rfl _ Tryd.underlying163 rfl (by rw [List.length_map, encL_length]; kernel_rfl)) rfl ?_
  exact ⟨rfl, hb6⟩
end Go.Proofs.YticfcelbnkiopaaDoor

namespace Go.Proofs.YticfcelbnkiopaaDoor
set_option maxRecDepth 100000
open Go.RowKit

set_option maxHeartbeats 400000 in
theorem Take32_any (v : Value) (xs : List UInt8) (w : World) (hv : RB w v xs) (hl : xs.length ≤ 1000000000) :
    Calls Tryd.prog 94 #[v] w fun e w' => ∃ v', e = .returned (.tuple #[.int .u32 (if 4 ≤ xs.length then (get32 xs : Int) else 0), v', .int .i64 (if 4 ≤ xs.length then 0 else 2)]) ∧
      OB w' w.heap.size v' (if 4 ≤ xs.length then xs.drop 4 else []) ∧ Below w.heap.size w w' := by
  by_cases h4 : 4 ≤ xs.length
  · rw [if_pos h4, if_pos h4, if_pos h4]
    have h4' : (4 : Int) ≤ xs.length := by omega
    have hn : ¬ ((4 : Int) < 0) := by decide
    have hc := TakeBytes_any v xs 4 w hv hl
    rw [if_neg hn, if_neg hn, if_neg hn, if_pos h4', if_pos h4', if_pos h4'] at hc
    clear hn
    go_enter Tryd.func94, Tryd.ntmps94
    go_wp2_with ((go_at_call 131; refine hc.mono ?_; clear hc; rintro e w1 ⟨v1, v2, rfl, ho1, ho2, _, hb1⟩))
    have hlen4 : (xs.take (4 : Int).toNat).length = 4 := by simp; omega
    obtain ⟨A1, c1, rfl, hc1, _, hcell1⟩ := ho1.reads
    obtain ⟨ad, rfl, hcc⟩ := hcell1 (by omega)
    have hk : ∀ j (h : j < xs.length), j < 4 → w1.cell? (ad.add j) = some (.int .u8 (((xs.getD j 0).toNat : Nat) : Int)) := fun j h h' => by
      refine hcc j _ ?_
      rw [U8_all, List.getElem?_map, List.getElem?_take, if_pos (by simpa using h'), List.getElem?_eq_getElem h, List.getD_eq_getElem?_getD, List.getElem?_eq_getElem h]
      rfl
    have k0 := hk 0 (by omega) (by omega)
    rw [show ad.add 0 = ad from by simp [Addr.add]] at k0
    have k1 := hk 1 (by omega) (by omega)
    have k2 := hk 2 (by omega) (by omega)
    have k3 := hk 3 (by omega) (by omega)
    rw [show ad.add 1 = ⟨ad.block, ad.off + 1, none⟩ from rfl] at k1
    rw [show ad.add 2 = ⟨ad.block, ad.off + 2, none⟩ from rfl] at k2
    rw [show ad.add 3 = ⟨ad.block, ad.off + 3, none⟩ from rfl] at k3
    clear hk hcc hcell1
    rw [hlen4]
    generalize hb0 : xs.getD 0 0 = b0 at k0
    generalize hb1' : xs.getD 1 0 = b1 at k1
    generalize hb2 : xs.getD 2 0 = b2 at k2
    generalize hb3 : xs.getD 3 0 = b3 at k3
    have hg : get32 xs = b0.toNat + b1.toNat * 256 + b2.toNat * 65536 + b3.toNat * 16777216 := by unfold get32; rw [hb0, hb1', hb2, hb3]
    have HG := Lib.hid hg
    clear hb0 hb1' hb2 hb3 hg
    go_quiet (fail)
    go_wp2
    go_ret3
    exact ⟨_, by rw [HG.out, or32]; rfl, ho2.below (pw_below_drewN (Below.refl _ _) _), pw_below_drewN hb1 _⟩
  · rw [if_neg h4, if_neg h4, if_neg h4]
    have h4' : ¬ (4 : Int) ≤ xs.length := by omega
    have hn : ¬ ((4 : Int) < 0) := by decide
    have hc := TakeBytes_any v xs 4 w hv hl
    rw [if_neg hn, if_neg hn, if_neg hn, if_neg h4', if_neg h4', if_neg h4'] at hc
    clear hn h4'
    go_enter Tryd.func94, Tryd.ntmps94
    go_wp2_with ((go_at_call 131; refine hc.mono ?_; clear hc; rintro e w1 ⟨v1, v2, rfl, ho1, ho2, _, hb1⟩))
    go_ret3
    exact ⟨_, rfl, OR.nil _ _, hb1⟩

end Go.Proofs.YticfcelbnkiopaaDoor

namespace Go.Proofs.YticfcelbnkiopaaDoor
set_option maxRecDepth 100000
open Go.RowKit

end Go.Proofs.YticfcelbnkiopaaDoor

namespace Go.Proofs.YticfcelbnkiopaaDoor
set_option maxRecDepth 100000
open Go.RowKit

theorem tkR_le (xs : List UInt8) : (tkR xs).length ≤ xs.length := by unfold tkR; split <;> simp

end Go.Proofs.YticfcelbnkiopaaDoor

namespace Go.Proofs.YticfcelbnkiopaaDoor
set_option maxRecDepth 100000
open Go.RowKit

set_option maxHeartbeats 400000 in
theorem rPut32_any (v : Value) (xs : List UInt8) (n : Nat) (w : World) (hv : RB w v xs) (hl : xs.length ≤ 16777216) (hn : n < 4294967296) :
    Calls Tryd.prog 87 #[v, .int .u32 (n : Int)] w fun e w' => ∃ v', e = .returned v' ∧ OB w' w.heap.size v' (xs ++ put32L n) ∧ Below w.heap.size w w' := by
  have hl' : xs.length ≤ 1000000000 := by omega
  have hb0 : Below w.heap.size w (w.alloc (.cells #[] 5)) := (Below.refl _ _).alloc (Nat.le_refl _) _
  have ho0 : OB (w.alloc (.cells #[] 5)) w.heap.size (.slice (some ⟨w.heap.size, 0, none⟩) 0 0) [] := OB.lit w w.heap.size [] #[] rfl (Nat.le_refl _) (by simp)
  have hr0 := hv.below hb0
  go_enter Tryd.func87, Tryd.ntmps87
  go_wp2_with (first
    | (at_builtin; refine appBs w.heap.size (.tmp 6) (.tmp 7) _ _ [] xs ho0 hr0 hb0 (by simp) (by simp) hl' rfl rfl rfl rfl ?_; clear ho0 hr0; intro v1 w1 ho1 hb1 hg1 hat1 hs1; rw [List.nil_append] at ho1)
    | (at_builtin; refine appBs w.heap.size (.tmp 9) (.tmp 21) _ _ xs (put32L n) (OR.below ho1 ((Below.refl _ _).alloc (Nat.le_refl _) _)) (OB.lit _ 0 (put32L n) _ (by simp [put32L]; omega) (Nat.zero_le _) (by simp [put32L])).reads (hb1.alloc hb1.size _) (by simp; exact Nat.le_succ_of_le hb1.size) hl' (by simp [put32L]) rfl rfl rfl rfl ?_; intro v2 w2 ho2 hb2 hg2 hat2 hs2))
  go_ret
  exact ⟨_, rfl, ho2, hb2⟩

/-- What reads so wherever the memory of w still stands. -/
def KB (w : World) (v : Value) (xs : List UInt8) : Prop := ∀ W, Below w.heap.size w W → RB W v xs
theorem KB.of {w : World} {v : Value} {xs : List UInt8} (h : RB w v xs) : KB w v xs := fun _ hb => h.below hb
theorem KB.nil (w : World) : KB w (.slice none 0 0) [] := fun _ _ => RR.nil _

set_option maxHeartbeats 400000 in
theorem rTakeBytes_any (v : Value) (xs : List UInt8) (n : Int) (w0 w : World) (hv : RB w0 v xs) (_h0 : Below w0.heap.size w0 w) :
    Calls Tryd.prog 132 #[v, .int .i64 n] w fun e w' => ∃ v1 v2, e = .returned (.tuple #[v1, v2, .int .i64 (if n < 0 then 1 else if n ≤ xs.length then 0 else 2)]) ∧
      KB w0 v1 (if n < 0 then [] else if n ≤ xs.length then xs.take n.toNat else []) ∧ KB w0 v2 (if n < 0 then [] else if n ≤ xs.length then xs.drop n.toNat else []) ∧ Below w.heap.size w w' := by
  obtain ⟨A, c, rfl, hc⟩ := hv.len
  by_cases h0 : n < 0
  · simp only [h0, ↓reduceIte]
    go_enter Tryd.func132, Tryd.ntmps132
    go_wp2
    go_ret3
    exact ⟨_, _, rfl, KB.nil _, KB.nil _, Below.refl _ _⟩
  · simp only [h0, ↓reduceIte]
    have h0' : 0 ≤ n := by omega
    by_cases h1 : n ≤ xs.length
    · simp only [h1, ↓reduceIte]
      obtain ⟨m, rfl⟩ := Int.eq_ofNat_of_zero_le h0'
      have hm : m ≤ xs.length := by omega
      obtain ⟨A1, hcut1, hcut2, hcut3, hr1⟩ := cutB A c xs 0 m (by omega) hm hc
      obtain ⟨A2, hcut4, hcut5, hcut6, hr2⟩ := cutB A c xs m xs.length hm (Nat.le_refl _) hc
      have hk1 := fun W => hcut3 .i64 W rfl
      have hk2 := fun W => hcut5 .i64 W rfl
      have hq1 := hr1 w0 hv
      have hq2 := hr2 w0 hv
      simp only [Nat.sub_zero, List.drop_zero] at hq1
      rw [List.take_of_length_le (Nat.le_refl _)] at hq2
      clear hcut1 hcut2 hcut3 hcut4 hcut5 hcut6 hr1 hr2
      go_enter Tryd.func132, Tryd.ntmps132
      go_wp2
      go_quiet (fail)
      go_wp2
      go_ret3
      exact ⟨_, _, rfl, KB.of hq1, KB.of hq2, pw_below_drewN (Below.refl _ _) _⟩
    · simp only [h1, ↓reduceIte]
      have h1' : (xs.length : Int) < n := by omega
      go_enter Tryd.func132, Tryd.ntmps132
      go_wp2
      go_ret3
      exact ⟨_, _, rfl, KB.nil _, KB.nil _, Below.refl _ _⟩

end Go.Proofs.YticfcelbnkiopaaDoor

namespace Go.Proofs.YticfcelbnkiopaaDoor
set_option maxRecDepth 100000
open Go.RowKit
set_option linter.unusedSimpArgs false

def PT.absent (p : PT) : Bool := p.may && !(p == PT.hole) && (p.a0 == 0)

set_option maxRecDepth 100000 in
theorem rMay_any (p : PT) (w : World) : Calls Tryd.prog 86 #[p.val] w fun e w' => e = .returned (.bool p.may) ∧ Below w.heap.size w w' := by
  have h33 := p.c33
  have h34 := p.c34
  have hb : Below w.heap.size w (w.alloc (.cells p.cells.toArray 33)) := (Below.refl _ _).alloc (Nat.le_refl _) _
  unfold PT.val u32 at *
  generalize p.cells.toArray = C at h33 h34 hb
  have e1 := u32_eq p.a1 0
  have e2 : ((p.a1.toNat : Int) != (p.a0.toNat : Int)) = (p.a0 != p.a1) := by
    rw [bne, bne, u32_eq]
    by_cases h : p.a0 = p.a1
    · rw [h]
    · rw [beq_eq_false_iff_ne.mpr h, beq_eq_false_iff_ne.mpr (fun e => h e.symm)]
  simp only [UInt32.toNat_zero, Int.natCast_zero] at e1
  by_cases h : p.a0 = 0
  · have hm : p.may = (p.a1 == 0) := by rw [PT.may, if_pos h]
    rw [hm]
    have h0 : ((p.a0.toNat : Int) == 0) = true := by rw [h]; rfl
    clear h hm
    go_enter Tryd.func86, Tryd.ntmps86
    go_wp2
    go_ret
    exact ⟨rfl, hb⟩
  · have hm : p.may = (p.a0 != p.a1) := by rw [PT.may, if_neg h]
    rw [hm]
    have h0 : ((p.a0.toNat : Int) == 0) = false := by
      have : ¬ (p.a0.toNat : Int) = 0 := fun e => h (UInt32.toNat_inj.mp (by simpa using e))
      simpa using this
    clear h hm
    go_enter Tryd.func86, Tryd.ntmps86
    go_wp2
    go_ret
    exact ⟨rfl, hb⟩

set_option maxRecDepth 100000 in
theorem rIsHole_any (p : PT) (w : World) : Calls Tryd.prog 121 #[p.val] w fun e w' => e = .returned (.bool (p == PT.hole)) ∧ Below w.heap.size w w' := by
  unfold PT.val
  go_enter Tryd.func121, Tryd.ntmps121
  go_wp2_with (first
    | (refine wpBox 33 _ rfl p.cells rfl rfl ?_; intro w1 hv1 hb1)
    | (refine stepV (exec_load 33 _ rfl _ _ rfl p.cells _ hv1.all Tryd.underlying33 rfl p.info) rfl ?_)
    | (refine stepV (exec_build 33 _ rfl PT.hole.cells ptr_zero) rfl ?_)
    | (refine stepV (exec_eql 33 _ _ _ rfl _ _ rfl rfl ptr_guard _ (ptr_eqlA p PT.hole _)) rfl ?_))
  go_ret
  exact ⟨rfl, hb1⟩

end Go.Proofs.YticfcelbnkiopaaDoor

namespace Go.Proofs.YticfcelbnkiopaaDoor
set_option maxRecDepth 100000
open Go.RowKit

theorem str_add (x y : List UInt8) : str x ++ str y = str (x ++ y) := by
  apply ByteArray.ext
  show (str x ++ str y).data = _
  rw [ByteArray.data_append]
  simp [str]
theorem str_size (x : List UInt8) : (str x).size = x.length := by simp [str, ByteArray.size]
/-- '+' of two strings. -/
theorem run_add_str {P : Program} (t : TypeId) (x y : List UInt8) (h : x.length + y.length ≤ 9223372036854775807) (w : World) : (binOp .add t (.string (str x)) (.string (str y))).run P w = .ok (.string (str (x ++ y))) w := by
  have hn : ¬ ((((str x).size + (str y).size : Nat) : Int) > IntKind.i64.max) := by rw [str_size, str_size]; simp [IntKind.max, IntKind.bits, IntKind.signed]; omega
  simp only [binOp, Op.stringOp, if_neg hn, str_add, Sem.run_pure]
theorem cat_small (x y : List UInt8) (h : x.length + y.length ≤ 9223372036854775807) : ¬ 9223372036854775807 < (str x).size + (str y).size := by rw [str_size, str_size]; omega
end Go.Proofs.YticfcelbnkiopaaDoor

namespace Go.Proofs.YticfcelbnkiopaaDoor
set_option maxRecDepth 100000
open Go.RowKit
set_option linter.unusedSimpArgs false

set_option maxHeartbeats 1600000 in
set_option maxRecDepth 100000 in
theorem rEncode_any (p : PT) (w : World) : Calls Tryd.prog 88 #[p.val] w fun e w' => ∃ v, e = .returned v ∧ OB w' w.heap.size v (encL p) ∧ Below w.heap.size w w' := by
  unfold PT.val
  go_enter Tryd.func88, Tryd.ntmps88
  go_wp2_with (first
    | (refine wpBox 33 _ rfl p.cells rfl rfl ?_; intro w1 hv1 hb1; have hb0 : Below w1.heap.size w1 (w1.alloc (.cells #[] 5)) := (Below.refl _ _).alloc (Nat.le_refl _) _; have ho0 : OB (w1.alloc (.cells #[] 5)) w1.heap.size (.slice (some ⟨w1.heap.size, 0, none⟩) 0 0) [] := OB.lit w1 w1.heap.size [] #[] rfl (Nat.le_refl _) (by simp); have hr0 := PT.rb_hash (hv1.below hb0))
    | (at_builtin; refine appBs w1.heap.size (.tmp 4) (.tmp 6) _ _ [] p.hash ho0 hr0 hb0 hb0.size (by simp) (by rw [p.hl]; omega) rfl rfl rfl rfl ?_; clear ho0 hr0; intro v5 w2 ho2 hb2 hg2 hat2 hs2; rw [List.nil_append] at ho2; clear hg2 hat2 hb0; have h32 := cell_below hb2 (PT.cell32 hv1); have h33 := cell_below hb2 (PT.cell33 hv1); have h34 := cell_below hb2 (PT.cell34 hv1); replace hb1 := below_two hb1 hb1.size hb2; clear hv1 hb2)
    | (go_at_call 87; (with_reducible refine (rPut32_any _ p.hash p.birth.toNat _ ho2.reads (by rw [p.hl]; omega) p.birth.toNat_lt).mono ?_); rintro e w3 ⟨v3, rfl, ho3, hb3⟩; replace h32 := cell_below hb3 h32; replace h33 := cell_below hb3 h33; replace h34 := cell_below hb3 h34; replace hb1 := below_two hb1 hb1.size hb3; clear ho2 hb3)
    | (go_at_call 87; (with_reducible refine (rPut32_any _ _ p.a0.toNat _ ho3.reads (by simp [p.hl, put32L]) p.a0.toNat_lt).mono ?_); rintro e w4 ⟨v4, rfl, ho4, hb4⟩; replace h32 := cell_below hb4 h32; replace h33 := cell_below hb4 h33; replace h34 := cell_below hb4 h34; replace hb1 := below_two hb1 hb1.size hb4; clear ho3 hb4)
    | (go_at_call 87; (with_reducible refine (rPut32_any _ _ p.a1.toNat _ ho4.reads (by simp [p.hl, put32L]) p.a1.toNat_lt).mono ?_); rintro e w5 ⟨v5, rfl, ho5, hb5⟩; have hlow := hb1.size; replace hb1 := below_two hb1 hb1.size hb5; clear ho4 hb5))
  go_ret
  exact ⟨_, rfl, ho5.lower hlow, hb1⟩
end Go.Proofs.YticfcelbnkiopaaDoor

namespace Go.Proofs.YticfcelbnkiopaaDoor
set_option maxRecDepth 100000
open Go.RowKit
set_option linter.unusedSimpArgs false

/-- Four pointers. -/
abbrev PL := RowOf PT 4
def PL.cells (l : PL) : List Value := l.1.flatMap PT.cells
def PL.val (l : PL) : Value := .agg l.cells.toArray
theorem PL.len (l : PL) : l.cells.length = 140 := by rw [PL.cells, flatMap_len PT.len, l.2]
theorem PL.info (l : PL) : (Tryd.prog.info? 188).map (·.size) = some l.cells.length := by rw [PL.len]; kernel_rfl
def nodeL (l : PL) : List UInt8 := l.1.flatMap encL ++ List.replicate 80 0
theorem encs_length (xs : List PT) : (xs.flatMap encL).length = xs.length * 44 := by
  induction xs with
  | nil => rfl
  | cons x xs ih => simp [ih, encL_length, Nat.succ_mul, Nat.add_comm]
theorem encs_take (xs : List PT) (k : Nat) (h : k < xs.length) : (xs.take (k + 1)).flatMap encL = (xs.take k).flatMap encL ++ encL xs[k] := by
  rw [List.take_add_one, List.getElem?_eq_getElem h, Option.toList_some, List.flatMap_append, List.flatMap_cons, List.flatMap_nil, List.append_nil]

/-- Behind k pointers. -/
def ndL (xs : List PT) (k : Nat) : List UInt8 := (xs.take k).flatMap encL ++ List.replicate (256 - 44 * k) 0
theorem ndL_length (xs : List PT) (k : Nat) (h : k ≤ xs.length) (h4 : k ≤ 4) : (ndL xs k).length = 256 := by
  rw [ndL, List.length_append, encs_length, List.length_take, List.length_replicate]; omega
theorem ndL_step (xs : List PT) (k : Nat) (h : k < xs.length) : (ndL xs k).take (44 * k) ++ encL xs[k] ++ (ndL xs k).drop (44 * k + (encL xs[k]).length) = ndL xs (k + 1) := by
  have e : ((xs.take k).flatMap encL).length = 44 * k := by rw [encs_length, List.length_take]; omega
  rw [ndL, ndL, encs_take xs k h, encL_length, List.take_append_of_le_length (by omega), List.take_of_length_le (by omega), ← List.drop_drop, List.drop_left' e, List.drop_replicate]
  congr 2

set_option maxHeartbeats 1600000 in
set_option maxRecDepth 100000 in
theorem Node_any (l : PL) (w : World) : Calls Tryd.prog 168 #[l.val] w fun e w' => ∃ v, e = .returned v ∧ OB w' w.heap.size v (nodeL l) ∧ Below w.heap.size w w' := by
  unfold PL.val
  go_enter Tryd.func168, Tryd.ntmps168
  go_wp2_with (first
    | (refine wpBox 188 _ rfl l.cells rfl rfl ?_; intro w1 hv1 hb1)
    | (refine wpMake0 256 (by decide) _ _ rfl rfl rfl rfl ?_; intro w2 hv2 hb2; have hlt := hv1.lt; replace hv1 := hv1.below hb2; replace hb1 := below_two hb1 hb1.size hb2; have hlt2 : w.heap.size ≤ w1.heap.size := by omega)
    | (refine stepV (exec_load 188 _ rfl _ _ rfl l.cells _ hv1.all Tryd.underlying188 rfl l.info) rfl ?_))
  clear hlt hb2
  go_loopw [3, 9] (fun v3 v9 wr => ∃ (k : Nat), v9 = .int .i64 (k : Int) ∧ k ≤ 4 ∧ v3 = .slice (some ⟨w1.heap.size, 0, none⟩) (44 * k) 256 ∧ VA wr w1.heap.size 5 ((ndL l.1 k).map cb) ∧ Below w.heap.size w wr) (fun _ i _ => 4 - (intOf i).toNat)
  case atStart => exact ⟨0, rfl, by omega, rfl, hv2, hb1⟩
  case round =>
    obtain ⟨k, rfl, hk, rfl, hv, hb⟩ := hrel
    clear hv1 hv2 hb1
    by_cases h4 : k < 4
    · have hki : (k : Int) < 4 := by omega
      have hkl : k < l.1.length := by rw [l.2]; omega
      obtain ⟨p, hp⟩ : ∃ p, p = l.1[k] := ⟨_, rfl⟩
      have hst := ndL_step l.1 k hkl
      rw [← hp] at hst
      have HST := Lib.hid hst
      have HP := Lib.hid hp
      clear hst hp
      have cE : ∀ W, Calls Tryd.prog 84 #[.agg p.cells.toArray] W fun e w' => e = .returned (.agg ((encL p).map cb).toArray) ∧ Below W.heap.size W w' := fun W => Encode_any p W
      have hel := encL_length p
      have hnl := ndL_length l.1 k (by rw [l.2]; omega) (by omega)
      have HEL := Lib.hid hel
      have HNL := Lib.hid hnl
      clear hel hnl
      go_wp2_with (first
        | (refine stepV (v := p.val) (by rw [HP.out]; exact exec_index eqPT 188 _ _ rfl Tryd.underlying188 l.1 rfl l.2 k .i64 rfl hkl) rfl ?_)
        | (refine wpVar 33 rfl PT.hole.val PT.hole.cells (by kernel_rfl) rfl 5 _ rfl p.cells rfl rfl (by rw [PT.len, PT.len]) p.info p.one rfl rfl ?_; intro w3 hv3 hb3; replace hv := hv.below hb3; replace hb := below_two hb hb.size hb3; clear hb3)
        | (refine stepV (exec_load 33 _ rfl _ _ rfl p.cells _ hv3.all Tryd.underlying33 rfl p.info) rfl ?_)
        | (go_at_call 84; (with_reducible refine (cE _).mono ?_); rintro e w4 ⟨rfl, hb4⟩; replace hv := hv.below hb4; replace hb := below_two hb hb.size hb4; clear hb4 hv3)
        | (refine wpVar 163 rfl (bytesV (List.replicate 44 0)) ((List.replicate 44 (0 : UInt8)).map cb) (by kernel_rfl) rfl 6 _ rfl ((encL p).map cb) rfl rfl (by simp [encL_length]) (by rw [List.length_map, encL_length]; kernel_rfl) (one_u8 _) rfl rfl ?_; intro w5 hv5 hb5; replace hv := hv.below hb5; replace hb := below_two hb hb.size hb5; clear hb5; have hr5 : RB w5 (.slice (some ⟨w4.heap.size, 0, none⟩) 44 44) (encL p) := by
            have h := RR.range (T := B8) (w := w5) (b := w4.heap.size) (o := 0) (xs := encL p) (by rw [U8_all]; exact hv5.all) (by rw [HEL.out]; decide)
            rw [HEL.out] at h
            exact h)
        | (at_builtin; refine appRoom (.tmp 14) (.tmp 15) w1.heap.size (44 * k) 256 (ndL l.1 k) (encL p) _ hv hr5 (by rw [HEL.out]; decide) (by rw [HNL.out]; decide) (by rw [HEL.out]; omega) rfl rfl rfl rfl ?_; intro w6 hv6 hg6; replace hb := hb.grown hg6 hb.size (fun j hj => by cases hj; exact hlt2); rw [HST.out] at hv6))
      go_roundw
      case rel => exact ⟨k + 1, by go_num, by omega, by rw [HEL.out]; rfl, hv6, hb⟩
      case measure => simp [intOf] <;> omega
    · obtain rfl : k = 4 := by omega
      go_wp2
      go_ret
      have e : ndL l.1 4 = nodeL l := by rw [ndL, nodeL, List.take_of_length_le (by rw [l.2]; omega)]
      rw [e] at hv
      have hnl : (nodeL l).length = 256 := by rw [← e]; exact ndL_length l.1 4 (by rw [l.2]; omega) (by omega)
      have ho := OB.ofVA hv hlt2 (by rw [hnl]; omega)
      rw [hnl] at ho
      exact ⟨_, rfl, ho, hb⟩
end Go.Proofs.YticfcelbnkiopaaDoor

namespace Go.Proofs.YticfcelbnkiopaaDoor
set_option maxRecDepth 100000
open Go.RowKit
set_option linter.unusedSimpArgs false

def lenV : Value → Nat
  | .slice _ n _ => n
  | _ => 0
theorem PL.range {w : World} {b : Nat} {t : TypeId} {l : PL} (h : VA w b t l.cells) (k : Nat) (hk : k < l.1.length) : w.rangeAt b (k * 35) l.1[k].cells :=
  h.range (k * 35) _ (by rw [PT.len]; exact flatMap_at PT.len l.1 k hk)

theorem eqPL : EqT Tryd.prog 188 (4 * 35) true 4 (fun l : PL => l.1.flatMap PT.cells) (fun l => .agg (l.1.flatMap PT.cells).toArray) (fun x y => (x.1.zip y.1).all fun p => p.1 == p.2) :=
  eqPT.row (by kernel_rfl) (sizeOf_ok (by kernel_rfl))
theorem pl_eql (l m : PL) (w : World) : (binOp .eql 188 (.agg l.cells.toArray) (.agg m.cells.toArray)).run Tryd.prog w = .ok (.bool (l == m)) w := by
  rw [run_eql_struct]
  have h := eqPL.eqs 9996 w l m
  rw [zip_all_eq l.1 m.1 (by rw [l.2, m.2])] at h
  unfold PL.cells
  rw [h]
  rfl
/-- Four holes. -/
def PL.none : PL := ⟨List.replicate 4 PT.hole, rfl⟩
theorem pl_zero : Program.built Tryd.prog 188 [] = some PL.none.cells.toArray := by kernel_rfl
theorem pl_guard : Tryd.prog.eqGuardType Tryd.prog.depth 188 = false := by kernel_rfl

set_option maxRecDepth 100000 in
theorem IsEmpty_any (l : PL) (w : World) : Calls Tryd.prog 167 #[l.val] w fun e w' => e = .returned (.bool (l == PL.none)) ∧ Below w.heap.size w w' := by
  unfold PL.val
  go_enter Tryd.func167, Tryd.ntmps167
  go_wp2_with (first
    | (refine wpBox 188 _ rfl l.cells rfl rfl ?_; intro w1 hv1 hb1)
    | (refine stepV (exec_load 188 _ rfl _ _ rfl l.cells _ hv1.all Tryd.underlying188 rfl l.info) rfl ?_)
    | (refine stepV (exec_zero 188 rfl PL.none.cells pl_zero) rfl ?_)
    | (refine stepV (exec_eql 188 _ _ _ rfl _ _ rfl rfl pl_guard _ (pl_eql l PL.none _)) rfl ?_))
  go_ret
  exact ⟨rfl, hb1⟩
end Go.Proofs.YticfcelbnkiopaaDoor
