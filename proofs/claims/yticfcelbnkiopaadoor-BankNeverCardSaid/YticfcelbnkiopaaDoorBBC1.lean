/- Ground of the statements BankHealed, part 1: Bits, Pop, Kit, Eq, Agg, Fill, Base, Sep, Sep2, Sep3, AggB. -/
import Derived.Laws.BitsLemmas
import Derived.Tactics
import Derived.Below
import Derived.Deep.Draws
import Derived.Deep.AppendLies
import Derived.Maps.AppendAt
import Derived.OwnWalk
import Derived.Laws.BytesArg
import Derived.Laws.MakeOwn
import Derived.Laws.OwnMore
import Derived.Laws.CopyOwn
import Derived.Lib.ConvBytes
import Derived.Lib.Hide
import Derived.Laws.Slices
import Derived.WalkKit
import Derived.KernelRfl
import Derived.RowKit3
import Derived.Deep.LoopGhost
import Derived.Deep.QuietTactic
import Derived.BigQuiet
import Derived.WideLaws
import Derived.Deep.DeepCutAuto
import Derived.Deep.CutBlock
import Derived.Deep.RegionHeld3
import Derived.Laws.Rows
import Derived.Laws.IdiomCopy
import Derived.WalkSpells
import Derived.Outline
import Derived.Laws.StructEq
import Derived.Deep.MidRow
import Derived.Laws.Tables
import Derived.Test.YticfcelbnkiopaaDoorProg
import Derived.Lib.SmallJoins
import Derived.OrdersHeld
namespace Go.Proofs.YticfcelbnkiopaaDoor
set_option maxRecDepth 100000

theorem bits_nats (k : IntKind) (hk : k.signed = false) (a b : Nat) (ha : a < 2 ^ k.bits) (hb : b < 2 ^ k.bits) :
    bits .and k a b = ((a &&& b : Nat) : Int) ∧ bits .or k a b = ((a ||| b : Nat) : Int) ∧ bits .xor k a b = ((a ^^^ b : Nat) : Int) := by
  have ha' : a % 2 ^ k.bits = a := Nat.mod_eq_of_lt ha
  have hb' : b % 2 ^ k.bits = b := Nat.mod_eq_of_lt hb
  have hw : ∀ n : Nat, n < 2 ^ k.bits → k.wrap (n : Int) = n := fun n h => by
    unfold IntKind.wrap
    rw [hk]
    simp only [Bool.false_and, if_false, Bool.false_eq_true]
    exact Int.emod_eq_of_lt (Int.natCast_nonneg _) (by exact_mod_cast h)
  refine ⟨?_, ?_, ?_⟩
  · simp only [bits, BitVec.ofInt_natCast, BitVec.toNat_and, BitVec.toNat_ofNat, ha', hb']
    exact hw _ (Nat.and_lt_two_pow _ hb)
  · simp only [bits, BitVec.ofInt_natCast, BitVec.toNat_or, BitVec.toNat_ofNat, ha', hb']
    exact hw _ (Nat.or_lt_two_pow ha hb)
  · simp only [bits, BitVec.ofInt_natCast, BitVec.toNat_xor, BitVec.toNat_ofNat, ha', hb']
    exact hw _ (Nat.xor_lt_two_pow ha hb)

theorem xor8 (a b : UInt8) : bits .xor .u8 (a.toNat : Int) (b.toNat : Int) = ((a ^^^ b).toNat : Int) := by
  rw [(bits_nats .u8 rfl a.toNat b.toNat a.toNat_lt b.toNat_lt).2.2, UInt8.toNat_xor]
theorem and8 (a b : UInt8) : bits .and .u8 (a.toNat : Int) (b.toNat : Int) = ((a &&& b).toNat : Int) := by
  rw [(bits_nats .u8 rfl a.toNat b.toNat a.toNat_lt b.toNat_lt).1, UInt8.toNat_and]
theorem or8 (a b : UInt8) : bits .or .u8 (a.toNat : Int) (b.toNat : Int) = ((a ||| b).toNat : Int) := by
  rw [(bits_nats .u8 rfl a.toNat b.toNat a.toNat_lt b.toNat_lt).2.1, UInt8.toNat_or]

theorem or128 (m : Nat) : bits .or .u8 ((m : Int) % 256) 128 = ((UInt8.ofNat (m % 128 + 128)).toNat : Int) := by
  have h := (bits_nats .u8 rfl (m % 256) 128 (by show _ < 256; omega) (by decide)).2.1
  have e : (((m % 256 : Nat) : Int)) = (m : Int) % 256 := by omega
  rw [e] at h
  rw [show (128 : Int) = ((128 : Nat) : Int) from rfl, h]
  congr 1
  have h2 : ∀ q : Nat, q < 256 → q ||| 128 = (UInt8.ofNat (q % 128 + 128)).toNat := by decide +kernel
  rw [h2 _ (Nat.mod_lt _ (by omega))]
  congr 2
  omega
theorem or_add (i a b : Nat) (h : a < 2 ^ i) : a ||| (b * 2 ^ i) = a + b * 2 ^ i := by
  rw [Nat.or_comm, Nat.mul_comm, ← Nat.two_pow_add_eq_or_of_lt h b, Nat.add_comm]
theorem or32 (b0 b1 b2 b3 : UInt8) : bits .or .u32 (bits .or .u32 (bits .or .u32 ((b0.toNat : Int) % 4294967296) ((b1.toNat : Int) % 4294967296 * 256 % 4294967296)) ((b2.toNat : Int) % 4294967296 * 65536 % 4294967296)) ((b3.toNat : Int) % 4294967296 * 16777216 % 4294967296) =
    ((b0.toNat + b1.toNat * 256 + b2.toNat * 65536 + b3.toNat * 16777216 : Nat) : Int) := by
  have h0 := b0.toNat_lt
  have h1 := b1.toNat_lt
  have h2 := b2.toNat_lt
  have h3 := b3.toNat_lt
  rw [show (b0.toNat : Int) % 4294967296 = (b0.toNat : Int) by omega, show (b1.toNat : Int) % 4294967296 * 256 % 4294967296 = ((b1.toNat * 2 ^ 8 : Nat) : Int) by omega,
    show (b2.toNat : Int) % 4294967296 * 65536 % 4294967296 = ((b2.toNat * 2 ^ 16 : Nat) : Int) by omega, show (b3.toNat : Int) % 4294967296 * 16777216 % 4294967296 = ((b3.toNat * 2 ^ 24 : Nat) : Int) by omega]
  rw [(bits_nats .u32 rfl b0.toNat (b1.toNat * 2 ^ 8) (by show _ < 4294967296; omega) (by show _ < 4294967296; omega)).2.1, or_add 8 _ _ (by omega)]
  rw [(bits_nats .u32 rfl _ (b2.toNat * 2 ^ 16) (by show _ < 4294967296; omega) (by show _ < 4294967296; omega)).2.1, or_add 16 _ _ (by omega)]
  rw [(bits_nats .u32 rfl _ (b3.toNat * 2 ^ 24) (by show _ < 4294967296; omega) (by show _ < 4294967296; omega)).2.1, or_add 24 _ _ (by omega)]
theorem and128 (c : UInt8) : bits .and .u8 (c.toNat : Int) 128 = if c.toNat < 128 then 0 else 128 := by
  rw [show (128 : Int) = (((128 : UInt8).toNat : Nat) : Int) from rfl, and8]
  have h : ∀ q : Nat, q < 256 → (UInt8.ofNat q &&& 128).toNat = if q < 128 then 0 else 128 := by decide +kernel
  have e : c = UInt8.ofNat c.toNat := by simp
  rw [e, h _ c.toNat_lt]
  simp only [UInt8.toNat_ofNat', Nat.mod_eq_of_lt c.toNat_lt]
  split <;> rfl
theorem andNot128 (c : UInt8) : bits .andNot .u8 (c.toNat : Int) 128 = ((c.toNat % 128 : Nat) : Int) := by
  have h : ∀ q : Fin 256, bits .andNot .u8 ((q.val : Nat) : Int) 128 = ((q.val % 128 : Nat) : Int) := by decide +kernel
  exact h ⟨c.toNat, c.toNat_lt⟩
theorem or64 (acc k c : Nat) (hk : k ≤ 8 ∨ (k = 9 ∧ c % 128 ≤ 1)) (ha : acc < 128 ^ k) : bits .or .u64 (acc : Int) (IntKind.u64.wrap ((c : Int) % 128 * 2 ^ (7 * k))) = ((acc + c % 128 * 128 ^ k : Nat) : Int) := by
  have hp : (2 : Nat) ^ (7 * k) = 128 ^ k := by rw [Nat.pow_mul]
  have h8 : (128 : Nat) ^ 8 = 72057594037927936 := by decide
  have hb : c % 128 * 128 ^ k ≤ 9223372036854775808 ∧ 128 ^ k ≤ 9223372036854775808 := by
    rcases hk with hk | ⟨rfl, hc⟩
    · have h1 : (128 : Nat) ^ k ≤ 128 ^ 8 := Nat.pow_le_pow_right (by omega) hk
      have h2 : c % 128 * 128 ^ k ≤ 127 * 128 ^ 8 := Nat.mul_le_mul (by omega) h1
      omega
    · have h2 : c % 128 * 128 ^ 9 ≤ 1 * 128 ^ 9 := Nat.mul_le_mul_right _ hc
      omega
  have e1 : ((c : Int) % 128 * 2 ^ (7 * k)) = ((c % 128 * 128 ^ k : Nat) : Int) := by
    rw [← hp]; simp
  have ew : IntKind.u64.wrap ((c % 128 * 128 ^ k : Nat) : Int) = ((c % 128 * 128 ^ k : Nat) : Int) := by
    generalize c % 128 * 128 ^ k = q at hb
    simp only [IntKind.wrap, IntKind.bits, IntKind.signed, Bool.false_and, Bool.false_eq_true, if_false]
    omega
  rw [e1, ew, (bits_nats .u64 rfl acc (c % 128 * 128 ^ k) (by show _ < 18446744073709551616; omega) (by show _ < 18446744073709551616; omega)).2.1, ← hp, or_add (7 * k) _ _ (by rw [hp]; exact ha)]
theorem low8 (m : Nat) : (m : Int) % 256 = ((UInt8.ofNat m).toNat : Int) := by simp [UInt8.toNat_ofNat']
theorem low8' (m : Nat) (h : m < 256) : (m : Int) = ((UInt8.ofNat m).toNat : Int) := by
  rw [UInt8.toNat_ofNat', Nat.mod_eq_of_lt h]
theorem xor255 (x : UInt8) : bits .xor .u8 (x.toNat : Int) 255 = ((x ^^^ 255).toNat : Int) := xor8 x 255
theorem xor255' (x : UInt8) : bits .xor .u8 ((x ^^^ 255).toNat : Int) 255 = (x.toNat : Int) := by
  rw [show (255 : Int) = (((255 : UInt8).toNat : Nat) : Int) from rfl, xor8, UInt8.xor_assoc]
  simp
end Go.Proofs.YticfcelbnkiopaaDoor

namespace Go.Proofs.YticfcelbnkiopaaDoor
set_option maxRecDepth 100000
set_option linter.unusedSimpArgs false
set_option linter.unusedVariables false

/-- The number whose bits f tells. -/
def bitN (f : Nat → Bool) : Nat → Nat
  | 0 => 0
  | k + 1 => bitN f k + (if f k = true then 2 ^ k else 0)
def cntN (f : Nat → Bool) : Nat → Nat
  | 0 => 0
  | k + 1 => cntN f k + (if f k = true then 1 else 0)
theorem bitN_lt (f : Nat → Bool) : ∀ k, bitN f k < 2 ^ k
  | 0 => by simp [bitN]
  | k + 1 => by
    have := bitN_lt f k
    rw [bitN, Nat.pow_succ]
    split <;> omega
theorem bitN_add (f : Nat → Bool) (a : Nat) : ∀ b, bitN f (a + b) = bitN f a + 2 ^ a * bitN (fun j => f (a + j)) b
  | 0 => by simp [bitN]
  | b + 1 => by
    rw [← Nat.add_assoc, bitN, bitN_add f a b, bitN, Nat.mul_add]
    split
    · rw [Nat.pow_add]; omega
    · omega
theorem cntN_add (f : Nat → Bool) (a : Nat) : ∀ b, cntN f (a + b) = cntN f a + cntN (fun j => f (a + j)) b
  | 0 => by simp [cntN]
  | b + 1 => by
    rw [← Nat.add_assoc, cntN, cntN_add f a b, cntN]
    omega
theorem bitN_test (f : Nat → Bool) : ∀ k j, (bitN f k).testBit j = (decide (j < k) && f j)
  | 0, j => by simp [bitN]
  | k + 1, j => by
    have hlt := bitN_lt f k
    have h : bitN f (k + 1) = 2 ^ k * (if f k = true then 1 else 0) + bitN f k := by
      rw [bitN]; split <;> omega
    rw [h, Nat.testBit_two_pow_mul_add _ hlt, bitN_test f k j]
    by_cases h1 : j < k
    · have h2 : j < k + 1 := by omega
      simp [h1, h2]
    · by_cases h3 : j = k
      · subst h3
        simp only [Nat.lt_irrefl, if_false, Nat.sub_self, Nat.lt_succ_self, decide_true, Bool.true_and]
        cases f j <;> simp
      · have h4 : ¬ j < k + 1 := by omega
        obtain ⟨q, hq⟩ : ∃ q, j - k = q + 1 := ⟨j - k - 1, by omega⟩
        rw [if_neg h1, hq]
        simp only [h4, decide_false, Bool.false_and]
        split
        · rw [Nat.testBit_succ]; simp
        · simp
/-- Digits, the lowest one first. -/
def catN (e : Nat) : List Nat → Nat
  | [] => 0
  | b :: l => 2 ^ e * catN e l + b
theorem and_cat (e m : Nat) (hm : m < 2 ^ e) : ∀ l : List Nat, (∀ b ∈ l, b < 2 ^ e) → catN e l &&& catN e (List.replicate l.length m) = catN e (l.map (· &&& m))
  | [], _ => by simp [catN]
  | b :: l, h => by
    have hb := h b (List.mem_cons_self ..)
    have ih := and_cat e m hm l (fun x hx => h x (List.mem_cons_of_mem _ hx))
    rw [List.length_cons, List.replicate_succ, List.map_cons, catN, catN, catN, ← ih]
    refine Nat.eq_of_testBit_eq fun j => ?_
    rw [Nat.testBit_and, Nat.testBit_two_pow_mul_add _ hb, Nat.testBit_two_pow_mul_add _ hm, Nat.testBit_two_pow_mul_add _ (Nat.lt_of_le_of_lt Nat.and_le_left hb)]
    split
    · rw [Nat.testBit_and]
    · rw [Nat.testBit_and]
theorem shr_cat (e s m : Nat) (hs : s ≤ e) (hm : m < 2 ^ (e - s)) : ∀ l : List Nat, (∀ b ∈ l, b < 2 ^ e) → (catN e l >>> s) &&& catN e (List.replicate l.length m) = catN e (l.map fun b => (b >>> s) &&& m)
  | [], _ => by simp [catN]
  | b :: l, h => by
    have hb := h b (List.mem_cons_self ..)
    have ih := shr_cat e s m hs hm l (fun x hx => h x (List.mem_cons_of_mem _ hx))
    have hm2 : m < 2 ^ e := Nat.lt_of_lt_of_le hm (Nat.pow_le_pow_right (by decide) (by omega))
    rw [List.length_cons, List.replicate_succ, List.map_cons, catN, catN, catN, ← ih]
    refine Nat.eq_of_testBit_eq fun j => ?_
    rw [Nat.testBit_and, Nat.testBit_shiftRight, Nat.testBit_two_pow_mul_add _ hb, Nat.testBit_two_pow_mul_add _ hm2, Nat.testBit_two_pow_mul_add _ (Nat.lt_of_le_of_lt Nat.and_le_right hm2)]
    by_cases h1 : j < e
    · rw [if_pos h1, if_pos h1, Nat.testBit_and, Nat.testBit_shiftRight]
      by_cases h2 : s + j < e
      · rw [if_pos h2]
      · have : m.testBit j = false := Nat.testBit_lt_two_pow (Nat.lt_of_lt_of_le hm (Nat.pow_le_pow_right (by decide) (by omega)))
        rw [this, Bool.and_false, Bool.and_false]
    · rw [if_neg h1, if_neg h1, if_neg (by omega), Nat.testBit_and, Nat.testBit_shiftRight, show s + j - e = s + (j - e) by omega]
theorem add_cat (e : Nat) (f g : Nat → Nat) : ∀ l : List Nat, catN e (l.map f) + catN e (l.map g) = catN e (l.map fun b => f b + g b)
  | [] => rfl
  | b :: l => by
    have ih := add_cat e f g l
    rw [List.map_cons, List.map_cons, List.map_cons, catN, catN, catN, ← ih, Nat.mul_add]
    omega
def b1 (b : Nat) : Nat := ((b >>> 1) &&& 85) + (b &&& 85)
def b2 (b : Nat) : Nat := ((b >>> 2) &&& 51) + (b &&& 51)
def popb (b : Nat) : Nat := b2 (b1 b) / 16 + b2 (b1 b) % 16
set_option maxRecDepth 100000 in
theorem b1_lt : ∀ b, b < 256 → b1 b < 256 := by decide
set_option maxRecDepth 100000 in
theorem b2_nib : ∀ b, b < 256 → b2 (b1 b) / 16 ≤ 4 ∧ b2 (b1 b) % 16 ≤ 4 ∧ b2 (b1 b) < 256 := by decide
/-- The library's sum, in plain numbers. -/
def popNat (n : Nat) : Nat :=
  let a := ((n >>> 1) &&& 6148914691236517205) + (n &&& 6148914691236517205)
  let b := ((a >>> 2) &&& 3689348814741910323) + (a &&& 3689348814741910323)
  let c := ((b >>> 4) + b) &&& 1085102592571150095
  let d := c + (c >>> 8)
  let e := d + (d >>> 16)
  e + (e >>> 32)
theorem cat8 (a b c d e f g h : Nat) : catN 8 [a, b, c, d, e, f, g, h] = a + 256 * b + 65536 * c + 16777216 * d + 4294967296 * e + 1099511627776 * f + 281474976710656 * g + 72057594037927936 * h := by
  simp only [catN]; omega
theorem catH (a b c d e f g h : Nat) : catN 8 [a, b, c, d, e, f, g, h] = a + 256 * (b + 256 * (c + 256 * (d + 256 * (e + 256 * (f + 256 * (g + 256 * h)))))) := by
  simp only [catN]; omega
theorem fold_end (c0 c1 c2 c3 c4 c5 c6 c7 : Nat) (h0 : c0 ≤ 8) (h1 : c1 ≤ 8) (h2 : c2 ≤ 8) (h3 : c3 ≤ 8) (h4 : c4 ≤ 8) (h5 : c5 ≤ 8) (h6 : c6 ≤ 8) (h7 : c7 ≤ 8) (c d e : Nat) (hc : c = c0 + 256 * (c1 + 256 * (c2 + 256 * (c3 + 256 * (c4 + 256 * (c5 + 256 * (c6 + 256 * c7))))))) (hd : d = c + c / 256) (he : e = d + d / 65536) :
    (e + e / 4294967296) % 128 = c0 + c1 + c2 + c3 + c4 + c5 + c6 + c7 := by
  obtain ⟨t6, q6⟩ : ∃ t, t = c6 + 256 * c7 := ⟨_, rfl⟩
  obtain ⟨t5, q5⟩ : ∃ t, t = c5 + 256 * t6 := ⟨_, rfl⟩
  obtain ⟨t4, q4⟩ : ∃ t, t = c4 + 256 * t5 := ⟨_, rfl⟩
  obtain ⟨t3, q3⟩ : ∃ t, t = c3 + 256 * t4 := ⟨_, rfl⟩
  obtain ⟨t2, q2⟩ : ∃ t, t = c2 + 256 * t3 := ⟨_, rfl⟩
  obtain ⟨t1, q1⟩ : ∃ t, t = c1 + 256 * t2 := ⟨_, rfl⟩
  rw [← q6, ← q5, ← q4, ← q3, ← q2, ← q1] at hc
  have k1 : c / 256 = t1 := by clear q1 q2 q3 q4 q5 q6 hd he; omega
  rw [k1] at hd
  have k2 : d / 65536 = t2 + t3 := by
    have a1 : c = c0 + 256 * c1 + 65536 * t2 := by omega
    have a2 : t1 = c1 + 256 * c2 + 65536 * t3 := by omega
    clear q1 q2 q3 q4 q5 q6 k1 hc he
    omega
  rw [k2] at he
  have k3 : e / 4294967296 = t4 + t5 + t6 + c7 := by
    have a1 : c = c0 + 256 * c1 + 65536 * c2 + 16777216 * c3 + 4294967296 * t4 := by omega
    have a2 : t1 = c1 + 256 * c2 + 65536 * c3 + 16777216 * c4 + 4294967296 * t5 := by omega
    have a3 : t2 = c2 + 256 * c3 + 65536 * c4 + 16777216 * c5 + 4294967296 * t6 := by omega
    have a4 : t3 = c3 + 256 * c4 + 65536 * c5 + 16777216 * c6 + 4294967296 * c7 := by omega
    clear q1 q2 q3 q4 q5 q6 k1 k2 hc
    omega
  rw [k3]
  have a : e + (t4 + t5 + t6 + c7) = (c0 + c1 + c2 + c3 + c4 + c5 + c6 + c7) + 256 * (t1 + t2 + t3 + t4 + t5 + t6 + c7) := by omega
  omega
theorem pop_nat (x0 x1 x2 x3 x4 x5 x6 x7 : Nat) (h0 : x0 < 256) (h1 : x1 < 256) (h2 : x2 < 256) (h3 : x3 < 256) (h4 : x4 < 256) (h5 : x5 < 256) (h6 : x6 < 256) (h7 : x7 < 256) :
    popNat (catN 8 [x0, x1, x2, x3, x4, x5, x6, x7]) % 128 = popb x0 + popb x1 + popb x2 + popb x3 + popb x4 + popb x5 + popb x6 + popb x7 := by
  obtain ⟨l, hl⟩ : ∃ l, l = [x0, x1, x2, x3, x4, x5, x6, x7] := ⟨_, rfl⟩
  have hlb : ∀ b ∈ l, b < 2 ^ 8 := by
    intro b hb
    rw [hl] at hb
    simp only [List.mem_cons, List.mem_nil_iff, or_false] at hb
    show b < 256
    rcases hb with h | h | h | h | h | h | h | h <;> omega
  have hlen : l.length = 8 := by rw [hl]; rfl
  have m1 : (6148914691236517205 : Nat) = catN 8 (List.replicate l.length 85) := by rw [hlen]; rfl
  have m2 : ∀ g : Nat → Nat, (3689348814741910323 : Nat) = catN 8 (List.replicate (l.map g).length 51) := fun g => by rw [List.length_map, hlen]; rfl
  have ea : ((catN 8 l >>> 1) &&& 6148914691236517205) + (catN 8 l &&& 6148914691236517205) = catN 8 (l.map b1) := by
    rw [m1, shr_cat 8 1 85 (by decide) (by decide) l hlb, and_cat 8 85 (by decide) l hlb, add_cat]
    rfl
  have hlb1 : ∀ b ∈ l.map b1, b < 2 ^ 8 := by
    intro b hb
    obtain ⟨y, hy, rfl⟩ := List.mem_map.1 hb
    exact b1_lt y (hlb y hy)
  have eb : ((catN 8 (l.map b1) >>> 2) &&& 3689348814741910323) + (catN 8 (l.map b1) &&& 3689348814741910323) = catN 8 (l.map fun x => b2 (b1 x)) := by
    rw [m2 b1, shr_cat 8 2 51 (by decide) (by decide) _ hlb1, and_cat 8 51 (by decide) _ hlb1, add_cat, List.map_map]
    rfl
  have ec : ((catN 8 (l.map fun x => b2 (b1 x)) >>> 4) + catN 8 (l.map fun x => b2 (b1 x))) &&& 1085102592571150095 = catN 8 (l.map popb) := by
    rw [hl]
    simp only [List.map_cons, List.map_nil]
    have n0 := b2_nib x0 h0
    have n1 := b2_nib x1 h1
    have n2 := b2_nib x2 h2
    have n3 := b2_nib x3 h3
    have n4 := b2_nib x4 h4
    have n5 := b2_nib x5 h5
    have n6 := b2_nib x6 h6
    have n7 := b2_nib x7 h7
    unfold popb
    generalize b2 (b1 x0) = y0 at *
    generalize b2 (b1 x1) = y1 at *
    generalize b2 (b1 x2) = y2 at *
    generalize b2 (b1 x3) = y3 at *
    generalize b2 (b1 x4) = y4 at *
    generalize b2 (b1 x5) = y5 at *
    generalize b2 (b1 x6) = y6 at *
    generalize b2 (b1 x7) = y7 at *
    have sh : catN 8 [y0, y1, y2, y3, y4, y5, y6, y7] >>> 4 = catN 8 [y0, y1, y2, y3, y4, y5, y6, y7] / 16 := Nat.shiftRight_eq_div_pow _ _
    have es : catN 8 [y0, y1, y2, y3, y4, y5, y6, y7] / 16 + catN 8 [y0, y1, y2, y3, y4, y5, y6, y7] = catN 8 [(y0 / 16 + y0 % 16) + 16 * (y0 / 16 + y1 % 16), (y1 / 16 + y1 % 16) + 16 * (y1 / 16 + y2 % 16), (y2 / 16 + y2 % 16) + 16 * (y2 / 16 + y3 % 16), (y3 / 16 + y3 % 16) + 16 * (y3 / 16 + y4 % 16), (y4 / 16 + y4 % 16) + 16 * (y4 / 16 + y5 % 16), (y5 / 16 + y5 % 16) + 16 * (y5 / 16 + y6 % 16), (y6 / 16 + y6 % 16) + 16 * (y6 / 16 + y7 % 16), (y7 / 16 + y7 % 16) + 16 * (y7 / 16)] := by
      rw [cat8, cat8]; omega
    rw [sh, es]
    have mk := and_cat 8 15 (by decide) [(y0 / 16 + y0 % 16) + 16 * (y0 / 16 + y1 % 16), (y1 / 16 + y1 % 16) + 16 * (y1 / 16 + y2 % 16), (y2 / 16 + y2 % 16) + 16 * (y2 / 16 + y3 % 16), (y3 / 16 + y3 % 16) + 16 * (y3 / 16 + y4 % 16), (y4 / 16 + y4 % 16) + 16 * (y4 / 16 + y5 % 16), (y5 / 16 + y5 % 16) + 16 * (y5 / 16 + y6 % 16), (y6 / 16 + y6 % 16) + 16 * (y6 / 16 + y7 % 16), (y7 / 16 + y7 % 16) + 16 * (y7 / 16)] (by
      intro b hb
      simp only [List.mem_cons, List.mem_nil_iff, or_false] at hb
      show b < 256
      rcases hb with h | h | h | h | h | h | h | h <;> omega)
    rw [show (1085102592571150095 : Nat) = catN 8 (List.replicate 8 15) from rfl]
    refine mk.trans ?_
    have q : ∀ u v : Nat, u ≤ 8 → (u + 16 * v) &&& 15 = u := fun u v hu => by
      rw [show 15 = 2 ^ 4 - 1 from rfl, Nat.and_two_pow_sub_one_eq_mod]; omega
    simp only [List.map_cons, List.map_nil]
    rw [q _ _ (by omega), q _ _ (by omega), q _ _ (by omega), q _ _ (by omega), q _ _ (by omega), q _ _ (by omega), q _ _ (by omega), q _ _ (by omega)]
  rw [← hl]
  unfold popNat
  simp only
  rw [ea, eb, ec, hl]
  have p := fun x hx => (show popb x ≤ 8 by have := b2_nib x hx; unfold popb; omega)
  have fe := fold_end (popb x0) (popb x1) (popb x2) (popb x3) (popb x4) (popb x5) (popb x6) (popb x7) (p _ h0) (p _ h1) (p _ h2) (p _ h3) (p _ h4) (p _ h5) (p _ h6) (p _ h7) _ _ _ rfl rfl rfl
  simp only [List.map_cons, List.map_nil]
  rw [catH]
  simp only [Nat.shiftRight_eq_div_pow]
  exact fe
theorem popb_bits : ∀ a b c d e f g h : Bool, popb (((((((((0 + if a = true then 1 else 0) + if b = true then 2 else 0) + if c = true then 4 else 0) + if d = true then 8 else 0) + if e = true then 16 else 0) + if f = true then 32 else 0) + if g = true then 64 else 0) + if h = true then 128 else 0)) = (((((((0 + if a = true then 1 else 0) + if b = true then 1 else 0) + if c = true then 1 else 0) + if d = true then 1 else 0) + if e = true then 1 else 0) + if f = true then 1 else 0) + if g = true then 1 else 0) + if h = true then 1 else 0 := by decide
theorem popb_cnt (f : Nat → Bool) : popb (bitN f 8) = cntN f 8 := popb_bits (f 0) (f 1) (f 2) (f 3) (f 4) (f 5) (f 6) (f 7)
theorem pop_bitN (f : Nat → Bool) : popNat (bitN f 64) % 128 = cntN f 64 := by
  have e : bitN f 64 = catN 8 [bitN f 8, bitN (fun j => f (8 + j)) 8, bitN (fun j => f (16 + j)) 8, bitN (fun j => f (24 + j)) 8, bitN (fun j => f (32 + j)) 8, bitN (fun j => f (40 + j)) 8, bitN (fun j => f (48 + j)) 8, bitN (fun j => f (56 + j)) 8] := by
    rw [cat8, show (64 : Nat) = 56 + 8 from rfl, bitN_add, show (56 : Nat) = 48 + 8 from rfl, bitN_add, show (48 : Nat) = 40 + 8 from rfl, bitN_add, show (40 : Nat) = 32 + 8 from rfl, bitN_add, show (32 : Nat) = 24 + 8 from rfl, bitN_add, show (24 : Nat) = 16 + 8 from rfl, bitN_add, show (16 : Nat) = 8 + 8 from rfl, bitN_add]
  have c : cntN f 64 = cntN f 8 + cntN (fun j => f (8 + j)) 8 + cntN (fun j => f (16 + j)) 8 + cntN (fun j => f (24 + j)) 8 + cntN (fun j => f (32 + j)) 8 + cntN (fun j => f (40 + j)) 8 + cntN (fun j => f (48 + j)) 8 + cntN (fun j => f (56 + j)) 8 := by
    rw [show (64 : Nat) = 56 + 8 from rfl, cntN_add, show (56 : Nat) = 48 + 8 from rfl, cntN_add, show (48 : Nat) = 40 + 8 from rfl, cntN_add, show (40 : Nat) = 32 + 8 from rfl, cntN_add, show (32 : Nat) = 24 + 8 from rfl, cntN_add, show (24 : Nat) = 16 + 8 from rfl, cntN_add, show (16 : Nat) = 8 + 8 from rfl, cntN_add]
  have hb := fun g : Nat → Bool => (show bitN g 8 < 256 from bitN_lt g 8)
  rw [e, pop_nat _ _ _ _ _ _ _ _ (hb _) (hb _) (hb _) (hb _) (hb _) (hb _) (hb _) (hb _), c, popb_cnt, popb_cnt, popb_cnt, popb_cnt, popb_cnt, popb_cnt, popb_cnt, popb_cnt]
theorem cntN_le (f : Nat → Bool) : ∀ k, cntN f k ≤ k
  | 0 => Nat.le_refl _
  | k + 1 => by have := cntN_le f k; rw [cntN]; split <;> omega
theorem bitN_not (f : Nat → Bool) : ∀ k, bitN f k + bitN (fun j => !f j) k + 1 = 2 ^ k
  | 0 => rfl
  | k + 1 => by
    have := bitN_not f k
    rw [bitN, bitN, Nat.pow_succ]
    cases f k <;> simp <;> omega
/-- The lowest bit of a word, by itself. -/
theorem low_bit (x : UInt64) (j : Nat) (hj : j < 64) (h1 : x.toNat.testBit j = true) (h0 : ∀ i, i < j → x.toNat.testBit i = false) : x &&& (0 - x) = UInt64.ofNat (2 ^ j) := by
  have hg : ∀ i, x.toBitVec.getLsbD i = x.toNat.testBit i := fun i => rfl
  refine UInt64.toBitVec_inj.1 (BitVec.eq_of_getLsbD_eq fun i hi => ?_)
  rw [UInt64.toBitVec_and, UInt64.toBitVec_sub, BitVec.getLsbD_and]
  have e0 : (0 : UInt64).toBitVec - x.toBitVec = -x.toBitVec := by simp
  rw [e0, BitVec.getLsbD_neg, hg]
  have er : (UInt64.ofNat (2 ^ j)).toBitVec.getLsbD i = decide (i = j) := by
    show (UInt64.ofNat (2 ^ j)).toNat.testBit i = _
    rw [UInt64.toNat_ofNat', Nat.mod_eq_of_lt (Nat.pow_lt_pow_right (by decide) hj), Nat.testBit_two_pow]
    simp [eq_comm]
  rw [er]
  by_cases hij : i < j
  · rw [h0 i hij]
    simp; omega
  · by_cases he : i = j
    · subst he
      have hne : ¬ ∃ k, k < i ∧ x.toBitVec.getLsbD k = true := fun ⟨k, hk, h2⟩ => by
        rw [hg, h0 k hk] at h2; cases h2
      simp [h1, hi, hne]
    · have hex : ∃ k, k < i ∧ x.toBitVec.getLsbD k = true := ⟨j, by omega, by rw [hg]; exact h1⟩
      simp [hi, hex, he]
end Go.Proofs.YticfcelbnkiopaaDoor

namespace Go.Proofs.YticfcelbnkiopaaDoor
set_option maxRecDepth 100000
open Go.RowKit

theorem i64w (x : Int) (h0 : -9223372036854775808 ≤ x) (h1 : x ≤ 9223372036854775807) : IntKind.i64.wrap x = x := by rw [IntKind.wrap_i64]; omega

/-- A kind of elements: its type, cells and bytes of one, and the cells of each. -/
structure Ty (α : Type) where
  id : Nat
  sz : Nat
  bytes : Nat
  zero : Value
  enc : α → List Value
  hlen : ∀ x, (enc x).length = sz
  hone : ∀ x, ∀ u ∈ enc x, u.oneCell' = true
  hsz : 0 < sz
  hby : 0 < bytes

variable {α : Type} {T : Ty α} {P : Program}

/-- All cells of a row. -/
def Ty.all (T : Ty α) (xs : List α) : List Value := xs.flatMap T.enc
theorem Ty.all_nil : T.all ([] : List α) = [] := rfl
theorem Ty.all_length (xs : List α) : (T.all xs).length = xs.length * T.sz := by
  unfold Ty.all
  induction xs with
  | nil => simp
  | cons x xs ih => rw [List.flatMap_cons, List.length_append, ih, T.hlen, List.length_cons, Nat.succ_mul, Nat.add_comm]
theorem Ty.all_append (xs ys : List α) : T.all (xs ++ ys) = T.all xs ++ T.all ys := by simp [Ty.all]
theorem Ty.all_one (x : α) : T.all [x] = T.enc x := by simp [Ty.all]
theorem Ty.all_cons (x : α) (xs : List α) : T.all (x :: xs) = T.enc x ++ T.all xs := by simp [Ty.all]
theorem Ty.all_oneCell (xs : List α) : ∀ u ∈ T.all xs, u.oneCell' = true := by
  intro u hu
  simp only [Ty.all, List.mem_flatMap] at hu
  obtain ⟨x, _, hx⟩ := hu
  exact T.hone x u hx
theorem Ty.all_drop (xs : List α) (i : Nat) : (T.all xs).drop (i * T.sz) = T.all (xs.drop i) := by
  induction xs generalizing i with
  | nil => simp [Ty.all]
  | cons x xs ih =>
    cases i with
    | zero => simp
    | succ i =>
      rw [Ty.all_cons, List.drop_succ_cons, Nat.succ_mul, Nat.add_comm, ← List.drop_drop, ← T.hlen x, List.drop_left, T.hlen, ih]
theorem Ty.all_take (xs : List α) (i : Nat) : (T.all xs).take (i * T.sz) = T.all (xs.take i) := by
  induction xs generalizing i with
  | nil => simp [Ty.all]
  | cons x xs ih =>
    cases i with
    | zero => simp [Ty.all]
    | succ i =>
      rw [Ty.all_cons, List.take_succ_cons, Ty.all_cons, List.take_append, T.hlen, Nat.succ_mul, List.take_of_length_le (by rw [T.hlen]; omega), Nat.add_sub_cancel, ih]
theorem Ty.all_get (xs : List α) (i : Nat) (h : i < xs.length) (j : Nat) (hj : j < T.sz) : (T.all xs)[i * T.sz + j]? = (T.enc xs[i])[j]? := by
  have h1 : (T.all xs)[i * T.sz + j]? = ((T.all xs).drop (i * T.sz))[j]? := by rw [List.getElem?_drop]
  rw [h1, Ty.all_drop, List.drop_eq_getElem_cons h, Ty.all_cons, List.getElem?_append_left (by rw [T.hlen]; exact hj)]

/-- The slice value v reads as xs in w. -/
def RR (T : Ty α) (w : World) (v : Value) (xs : List α) : Prop :=
  ∃ A c, v = .slice A xs.length c ∧ xs.length ≤ c ∧ xs.length ≤ 9223372036854775807 ∧
    (0 < xs.length → ∃ ad, A = some ad ∧ ∀ j u, (T.all xs)[j]? = some u → w.cell? (ad.add j) = some u)

/-- v is a row of the call's own, from block base on, that reads as xs. -/
def OR (T : Ty α) (w : World) (base : Nat) (v : Value) (xs : List α) : Prop := w.ownsRow base T.id T.sz v xs.length (T.all xs)

theorem cell_below {w w1 : World} (h : Below w.heap.size w w1) {a : Addr} {v : Value} (hc : w.cell? a = some v) : w1.cell? a = some v := (h.cell (World.block_lt_of_cell? w a hc)).trans hc

theorem pw_below_drewN {B : Nat} {w W : World} (h : Below B w W) (n : Nat) : Below B w (W.drewN n) := ⟨h.os, h.tape, h.output, h.size, h.block⟩

theorem RR.below {w w1 : World} {v : Value} {xs : List α} (h : RR T w v xs) (hb : Below w.heap.size w w1) : RR T w1 v xs := by
  obtain ⟨A, c, e, h1, h2, h3⟩ := h
  refine ⟨A, c, e, h1, h2, fun hp => ?_⟩
  obtain ⟨ad, e2, hc⟩ := h3 hp
  exact ⟨ad, e2, fun j u hj => cell_below hb (hc j u hj)⟩

theorem OR.reads {w : World} {base : Nat} {v : Value} {xs : List α} (h : OR T w base v xs) : RR T w v xs := by
  rcases Nat.eq_zero_or_pos xs.length with h0 | h0
  · rcases h.2 with ⟨rfl, _⟩ | ⟨g, cap, cur, rfl, _, _, h1, h2, _⟩
    · exact ⟨none, 0, by rw [h0], by omega, by omega, fun hp => by omega⟩
    · exact ⟨_, cap, rfl, h1, by omega, fun hp => by omega⟩
  · obtain ⟨g, cap, rfl, _, _⟩ := h.form h0
    have hm : xs.length ≤ cap ∧ xs.length ≤ 9223372036854775807 := by
      rcases h.2 with ⟨h1, _⟩ | ⟨g', cap', cur, he, _, _, h1, h2, _⟩
      · cases h1
      · injection he with _ _ he
        subst he
        simp only [maxLen] at h2
        omega
    exact ⟨_, cap, rfl, hm.1, hm.2, fun _ => ⟨_, rfl, fun j u hj => h.cells (g := g) rfl j _ hj⟩⟩

theorem OR.below {w w1 : World} {base : Nat} {v : Value} {xs : List α} (h : OR T w base v xs) (hb : Below w.heap.size w w1) : OR T w1 base v xs :=
  World.ownsRow.kept h (row := none) ⟨hb.os, hb.tape, hb.output, hb.size, fun i hi _ => hb.block i hi⟩ (by cases v.ownBlock <;> simp)
theorem OR.other {w w1 : World} {base : Nat} {v : Value} {xs : List α} {row : Option Nat} (h : OR T w base v xs) (hg : w.grownBy w1 row) (hne : v.ownBlock = none ∨ v.ownBlock ≠ row) : OR T w1 base v xs := World.ownsRow.kept h hg hne
theorem OR.nil (w : World) (base : Nat) : OR T w base (.slice none 0 0) [] := ⟨by simp [Ty.all], .inl ⟨rfl, rfl⟩⟩
theorem OR.lower {w : World} {base base' : Nat} {v : Value} {xs : List α} (h : OR T w base v xs) (hb : base' ≤ base) : OR T w base' v xs := by
  refine ⟨h.1, ?_⟩
  rcases h.2 with h2 | ⟨g, cap, cur, h3, h4, h5⟩
  · exact .inl h2
  · exact .inr ⟨g, cap, cur, h3, by omega, h5⟩
theorem OR.ge {w : World} {base : Nat} {v : Value} {xs : List α} (h : OR T w base v xs) : ∀ k, v.ownBlock = some k → base ≤ k ∧ k < w.heap.size := World.ownsRow.lt h

/-- A row that lay before another one was made is another one. -/
theorem OR.apart {β : Type} {T2 : Ty β} {w w1 : World} {b : Nat} {v v2 : Value} {xs : List α} {ys : List β} (h : OR T w b v xs) (h2 : OR T2 w1 w.heap.size v2 ys) : v.ownBlock = none ∨ v.ownBlock ≠ v2.ownBlock := by
  cases hv : v.ownBlock with
  | none => exact .inl rfl
  | some k =>
    refine .inr fun e => ?_
    have h3 := (OR.ge h k hv).2
    have h4 := (OR.ge h2 k e.symm).1
    omega
theorem RR.len {w : World} {v : Value} {xs : List α} (h : RR T w v xs) : ∃ A c, v = .slice A xs.length c ∧ xs.length ≤ c := by
  obtain ⟨A, c, e, h1, _⟩ := h
  exact ⟨A, c, e, h1⟩
theorem RR.nil (w : World) : RR T w (.slice none 0 0) [] := ⟨none, 0, rfl, by simp, by simp, fun h => by simp at h⟩

/-- A cut of a row that is read: the value behind it, and what it reads. -/
theorem RR.cut (T : Ty α) {t : TypeId} (ht : P.underlying t = some (.slice T.id)) {z : Value} (hinfo : (P.info? T.id).map (fun i => (i.zero, i.size, i.bytes)) = some (some z, T.sz, T.bytes))
    (A : Option Addr) (c : Nat) (xs : List α) (i j : Nat) (hij : i ≤ j) (hj : j ≤ xs.length) (hc : xs.length ≤ c) :
    ∃ A', (∀ (kl kh : IntKind) (W : World), (Instr.slice t (.slice A xs.length c) (some (.int kl (i : Int))) (some (.int kh (j : Int))) none).run P W = .ok (.slice A' (j - i) (c - i)) W) ∧
      (∀ (kl : IntKind) (W : World), j = xs.length → (Instr.slice t (.slice A xs.length c) (some (.int kl (i : Int))) none none).run P W = .ok (.slice A' (xs.length - i) (c - i)) W) ∧
      (∀ (kh : IntKind) (W : World), i = 0 → (Instr.slice t (.slice A xs.length c) none (some (.int kh (j : Int))) none).run P W = .ok (.slice A' j c) W) ∧
      ∀ w, RR T w (.slice A xs.length c) xs → RR T w (.slice A' (j - i) (c - i)) ((xs.take j).drop i) := by
  obtain ⟨i0, hi, hzz⟩ := Option.map_eq_some_iff.1 hinfo
  simp only [Prod.mk.injEq] at hzz
  obtain ⟨_, hsz, _⟩ := hzz
  have hel : P.elem t = T.id := by simp [Program.elem, ht]
  have hu : P.underlying t = some (.slice (P.elem t)) := by rw [hel]; exact ht
  refine ⟨if c = i then A else A.map (·.add (i * T.sz)), fun kl kh W => ?_, fun kl W he => ?_, fun kh W he => ?_, fun w h => ?_⟩
  · rw [run_slice_lh W t A xs.length c hu kl kh (i : Int) (j : Int) (by omega) (by omega) (by omega), hel]
    simp [sizeOf, typeInfo, hi, hsz, sliced, Result.andThen]
  · rw [run_slice_l W t A xs.length c hu kl (i : Int) (by omega) (by omega), hel]
    simp [sizeOf, typeInfo, hi, hsz, sliced, Result.andThen]
  · subst he
    have ha : (A.map fun x => x.add 0) = A := by cases A <;> simp [Addr.add]
    rw [run_slice_h W t A xs.length c hu kh (j : Int) (by omega) (by omega), hel]
    simp [sizeOf, typeInfo, hi, hsz, sliced, Result.andThen, ha]
  · obtain ⟨A2, c2, e, h1, h2, h3⟩ := h
    injection e with e1 e2 e3
    subst e1; subst e3
    have hl : ((xs.take j).drop i).length = j - i := by rw [List.length_drop, List.length_take]; omega
    refine ⟨if c = i then A else A.map (·.add (i * T.sz)), c - i, by rw [hl], by omega, by omega, fun hp => ?_⟩
    obtain ⟨ad, rfl, hcell⟩ := h3 (by omega)
    rw [if_neg (by omega)]
    refine ⟨ad.add (i * T.sz), rfl, fun k u hk => ?_⟩
    have ha : (ad.add (i * T.sz)).add k = ad.add (i * T.sz + k) := by
      unfold Addr.add
      by_cases h1 : i * T.sz = 0 <;> by_cases h2 : k = 0 <;> simp [h1, h2, Nat.add_assoc]
    rw [ha]
    refine hcell _ _ ?_
    rw [← Ty.all_drop, List.getElem?_drop, ← Ty.all_take, List.getElem?_take] at hk
    split at hk
    · exact hk
    · cases hk

/-- An element that is read. -/
theorem RR.at_ {w : World} {A : Option Addr} {n c : Nat} {xs : List α} (h : RR T w (.slice A n c) xs) (i : Nat) (hi : i < xs.length) :
    ∃ ad, A = some ad ∧ ∀ j u, (T.enc xs[i])[j]? = some u → w.cell? (ad.add (i * T.sz + j)) = some u := by
  obtain ⟨A2, c2, e, h1, h2, h3⟩ := h
  injection e with e1 e2 e3
  subst e1
  obtain ⟨ad, rfl, hcell⟩ := h3 (by omega)
  refine ⟨ad, rfl, fun j u hj => hcell _ _ ?_⟩
  have hlt : j < T.sz := by have := (List.getElem?_eq_some_iff.1 hj).1; rwa [T.hlen] at this
  rw [Ty.all_get xs i hi j hlt]
  exact hj

/-- Every block from B on is the call's own or new: two steps. -/
theorem below_two {B : Nat} {w w1 w2 : World} (h : Below B w w1) (hB : B ≤ w1.heap.size) (k : Below w1.heap.size w1 w2) : Below B w w2 := h.trans (k.mono hB)

section
variable {ops : Array Oper} {rest : List Oper} {o : Oper} {a : Act} {Q : Exit → Act → World → Prop}

/-- append(v, x): the goal's world is that behind the variadic's box. -/
theorem wp_append1 (T : Ty α) {w0 W : World} (base : Nat) (hgd : o.guard = none) (s x : Operand) (t : TypeId) (z : Value)
    (ho : o.op = .call { callee := .builtin .append, args := #[s, x], argTypes := #[t, t] })
    (ht : P.underlying t = some (.slice T.id)) (hinfo : (P.info? T.id).map (fun i => (i.zero, i.size, i.bytes)) = some (some z, T.sz, T.bytes)) (hz : z.cells.size = T.sz)
    (v : Value) (xs : List α) (y : α) (cs : Array Value) (hs : a.eval s = v) (hx : a.eval x = .slice (some ⟨W.heap.size, 0, none⟩) 1 1)
    (hy : cs.toList = T.enc y)
    (HO : OR T W base v xs) (HB : Below base w0 W) (hbase : base ≤ W.heap.size) (hl : (xs.length + 1) * T.bytes ≤ 140737488355328)
    (h : ∀ v1 w1, OR T w1 base v1 (xs ++ [y]) → Below base w0 w1 → W.grownBy w1 v.ownBlock → (v1.ownBlock = v.ownBlock ∨ ∃ b, v1.ownBlock = some b ∧ W.heap.size ≤ b) → base ≤ w1.heap.size → wpList P ops Q rest (a.put o.dst v1) w1) :
    wpList P ops Q (o :: rest) a (W.alloc (.cells cs T.id)) := by
  obtain ⟨i0, hi, hzz⟩ := Option.map_eq_some_iff.1 hinfo
  simp only [Prod.mk.injEq] at hzz
  obtain ⟨hz0, hz1, hz2⟩ := hzz
  have hlen : xs.length + 1 ≤ 140737488355328 := Nat.le_trans (Nat.le_mul_of_pos_right _ T.hby) hl
  refine wpList_append_own_at (W.alloc (.cells cs T.id)) hgd s x t ho base T.id i0 z T.sz T.bytes ht hi hz0 hz1 hz2 hz T.hsz v xs.length (T.all xs) hs (World.ownsRow.alloc HO _) ⟨W.heap.size, 0, none⟩ 1 1 (T.enc y) hx (by rw [T.hlen]; simp)
    (by rw [← hy]; exact World.news_of_block (cs := cs) (t := T.id) (fr := (0, 0)) (heap_alloc_new W _)) (T.hone y) (by simp only [maxLen]; omega) hl (by simp; omega) ?_
  intro v1 w1 hown hg _ hat
  have hg' := World.grownBy.trans (World.grownBy_alloc W (.cells cs T.id) v.ownBlock) hg
  refine h v1 w1 (by unfold OR; rw [List.length_append, Ty.all_append, Ty.all_one]; exact hown) ((HB.alloc hbase _).grown hg (by simp; omega) (fun k hk => (OR.ge HO k hk).1)) hg' ?_ (Nat.le_trans hbase hg'.size)
  rcases hat with hat | hat
  · exact .inl hat
  · exact .inr ⟨_, hat, by simp⟩

/-- append(v, ys...): ys a row that is read. -/
theorem wp_appendN (T : Ty α) {w0 W : World} (base : Nat) (hgd : o.guard = none) (s x : Operand) (t : TypeId) (z : Value)
    (ho : o.op = .call { callee := .builtin .append, args := #[s, x], argTypes := #[t, t] })
    (ht : P.underlying t = some (.slice T.id)) (hinfo : (P.info? T.id).map (fun i => (i.zero, i.size, i.bytes)) = some (some z, T.sz, T.bytes)) (hz : z.cells.size = T.sz)
    (v : Value) (xs ys : List α) (vy : Value) (hs : a.eval s = v) (hx : a.eval x = vy)
    (HO : OR T W base v xs) (HR : RR T W vy ys) (HB : Below base w0 W) (hbase : base ≤ W.heap.size) (hl : (xs.length + ys.length) * T.bytes ≤ 140737488355328)
    (h : ∀ v1 w1, OR T w1 base v1 (xs ++ ys) → Below base w0 w1 → W.grownBy w1 v.ownBlock → (v1.ownBlock = v.ownBlock ∨ ∃ b, v1.ownBlock = some b ∧ W.heap.size ≤ b) → base ≤ w1.heap.size → wpList P ops Q rest (a.put o.dst v1) w1) :
    wpList P ops Q (o :: rest) a W := by
  obtain ⟨i0, hi, hzz⟩ := Option.map_eq_some_iff.1 hinfo
  simp only [Prod.mk.injEq] at hzz
  obtain ⟨hz0, hz1, hz2⟩ := hzz
  have hlen : xs.length + ys.length ≤ 140737488355328 := Nat.le_trans (Nat.le_mul_of_pos_right _ T.hby) hl
  obtain ⟨A, c, rfl, hc, hm, hcell⟩ := HR
  have hrun : ∃ v1 w1, (Builtin.append_ #[t, t] o.type #[v, .slice A ys.length c]).run P W = .ok v1 w1 ∧ OR T w1 base v1 (xs ++ ys) ∧ W.grownBy w1 v.ownBlock ∧ (v1.ownBlock = v.ownBlock ∨ v1.ownBlock = some W.heap.size) := by
    rcases Nat.eq_zero_or_pos ys.length with h0 | h0
    · obtain rfl : ys = [] := List.eq_nil_of_length_eq_zero h0
      refine ⟨v, W, ?_, by simpa using HO, World.grownBy.refl W _, .inl rfl⟩
      rcases HO.2 with ⟨rfl, hn⟩ | ⟨g, cap, cur, rfl, _, hgg, hnc, _, hcs, _⟩
      · cases A <;> simp [Builtin.append_, run_underlying ht, sizeOf, typeInfo, hi, Builtin.lenOf, Builtin.firstCells, loadCells, loadCellsFrom]
      · cases A <;> simp [Builtin.append_, run_underlying ht, sizeOf, typeInfo, hi, Builtin.lenOf, Builtin.firstCells, hnc, storeCells, loadCells, loadCellsFrom]
    · obtain ⟨ad, rfl, hcc⟩ := hcell h0
      obtain ⟨v1, w1, h1, h2, h3, _, h5⟩ := run_append_own_at (P := P) W base t o.type T.id i0 z T.sz T.bytes ht hi hz0 hz1 hz2 hz T.hsz v xs.length (T.all xs) HO ad ys.length c (T.all ys) (Ty.all_length ys) hcc (Ty.all_oneCell ys) (by simp only [maxLen]; omega) hl hbase
      exact ⟨v1, w1, h1, by unfold OR; rw [List.length_append, Ty.all_append]; exact h2, h3, h5⟩
  obtain ⟨v1, w1, h1, h2, h3, h4⟩ := hrun
  refine wpList_plain hgd fun K hK => ?_
  unfold Oper.wp execOp
  simp only [ho, resolve, invoke, builtin, Sem.run_bind, Sem.run_pure, Result.andThen_ok, List.map_toArray, List.map_cons, List.map_nil, hs, hx, h1]
  refine hK _ _ (h v1 w1 h2 (HB.grown h3 hbase (fun k hk => (OR.ge HO k hk).1)) h3 ?_ (Nat.le_trans hbase h3.size))
  rcases h4 with h4 | h4
  · exact .inl h4
  · exact .inr ⟨_, h4, Nat.le_refl _⟩
end

theorem grown_none {w w' : World} (h : w.grownBy w' none) : Below w.heap.size w w' := ⟨h.os, h.tape, h.output, h.size, fun k hk => h.block k hk (by simp)⟩
theorem below_grown {w w' : World} (h : Below w.heap.size w w') (row : Option Nat) : w.grownBy w' row := ⟨h.os, h.tape, h.output, h.size, fun k hk _ => h.block k hk⟩

/-! A region that draws its order, whose steps leave what was there as it was, but for the block 'row': S is always 'as in the world at hand'. -/
def wpE (P : Program) (ops : Array Oper) (Q : Exit → Act → World → Prop) (row : Option Nat) (fuel : Nat) (listed : Array Bool) (a : Act) (w : World) : Prop := wpAnyH P .any ops Q (fun w' => w.grownBy w' row) fuel listed a w
section
variable {ops : Array Oper} {Q : Exit → Act → World → Prop} {row : Option Nat}
theorem wpAnyH_imp {md : Region.Mode} {S S' : World → Prop} (hS : ∀ w, S' w → S w) : ∀ (fuel : Nat) (listed : Array Bool) (a : Act) (w : World), wpAnyH P md ops Q S' fuel listed a w → wpAnyH P md ops Q S fuel listed a w
  | 0, _, _, _, h => h
  | fuel + 1, _, _, _, h => ⟨h.1, fun i hi => wpOp_mono (fun a' w' h' => ⟨hS _ h'.1, wpAnyH_imp hS fuel _ a' w' h'.2⟩) (h.2 i hi)⟩
theorem startE (row : Option Nat) {id : Nat} {a : Act} {w : World} (hm : P.follows .mixedOrders = true) (h : wpE P ops Q row ops.size (Array.replicate ops.size false) a w.drew) : (Code.region id ops true).wp P Q a w :=
  wp_region_held_drew (S := fun w' => w.drew.grownBy w' row) hm (World.grownBy.refl _ _) (fun _ => h)
theorem takeE (i : Nat) {oi : Oper} {v : Value} {fuel : Nat} {listed : Array Bool} {a : Act} {w : World} (hi : ops.toList[i]? = some oi) (hs : Region.noSelect ops = true) (hf : Region.free .any ops listed i = true) (hr : (Region.ready .any ops listed).contains i = true)
    (hQ : ∀ c a w, Q (.panic c) (a.put oi.dst v) w → Q (.panic c) a w) (hw : Region.wanted oi (yielded ops a.tmps) = true)
    (hy : ∀ w', w.grownBy w' row → (execOp a.eval oi).run P w' = .ok (.value v) w') (h : wpE P ops Q row fuel (listed.setIfInBounds i true) (a.put oi.dst v) w) : wpE P ops Q row (fuel + 1) listed a w :=
  wpAnyH_take (by simpa using hi) hs hf hr hQ (.inl ⟨hw, hy⟩) (World.grownBy.refl _ _) h
theorem skipE (i : Nat) {oi : Oper} {fuel : Nat} {listed : Array Bool} {a : Act} {w : World} (hi : ops.toList[i]? = some oi) (hs : Region.noSelect ops = true) (hf : Region.free .any ops listed i = true) (hr : (Region.ready .any ops listed).contains i = true)
    (hQ : ∀ c a w, Q (.panic c) (a.put oi.dst undef) w → Q (.panic c) a w) (hw : Region.wanted oi (yielded ops a.tmps) = false)
    (h : wpE P ops Q row fuel (listed.setIfInBounds i true) (a.put oi.dst undef) w) : wpE P ops Q row (fuel + 1) listed a w :=
  wpAnyH_take (by simpa using hi) hs hf hr hQ (.inr ⟨hw, rfl⟩) (World.grownBy.refl _ _) h
theorem stepE (i : Nat) {oi : Oper} {fuel : Nat} {listed : Array Bool} {a : Act} {w : World} (hi : ops.toList[i]? = some oi) (hr : Region.ready .any ops listed = [i]) (hw : Region.wanted oi (yielded ops a.tmps) = true)
    (h : ∀ K : Act → World → Prop, Shut (∀ a' w', w.grownBy w' row → wpE P ops Q row fuel (listed.setIfInBounds i true) a' w' → K a' w') → oi.wp P a w K Q) : wpE P ops Q row (fuel + 1) listed a w :=
  wpAnyH_ready hr (by simp) (AllReadyH.cons (by simpa using hi) (fun K hK => by rw [if_pos hw]; exact h K (fun a' w' hb he => hK a' w' hb (fun _ => wpAnyH_imp (fun w2 h2 => World.grownBy.trans hb h2) _ _ _ _ he))) AllReadyH.nil)
/-- Behind a step that only makes memory: on with the walk. -/
theorem K_out {P : Program} {fuel : Nat} {listed : Array Bool} {K : Act → World → Prop} {a' : Act} {w w' : World} (hK : Shut (∀ a' w', w.grownBy w' row → wpE P ops Q row fuel listed a' w' → K a' w')) (hb : Below w.heap.size w w')
    (h : wpE P ops Q row fuel listed a' w') : K a' w' := hK.out a' w' (below_grown hb row) h
theorem doneE {fuel : Nat} {listed : Array Bool} {a : Act} {w : World} (hr : Region.ready .any ops listed = []) (h : Q .normal a w) : wpE P ops Q row fuel listed a w := wpAnyH_done hr h fuel
end

/-- A literal row. -/
theorem OR.lit (T : Ty α) (w : World) (base : Nat) (xs : List α) (cs : Array Value) (hcs : cs.toList = T.all xs) (hb : base ≤ w.heap.size) (hm : xs.length ≤ 9223372036854775807) :
    OR T (w.alloc (.cells cs T.id)) base (.slice (some ⟨w.heap.size, 0, none⟩) xs.length xs.length) xs := by
  have h := World.ownsRow_lit (base := base) (e := T.id) (size := T.sz) w cs xs.length hb (by simpa [maxLen] using hm) (by rw [← Array.length_toList, hcs, Ty.all_length])
  unfold OR
  rw [hcs] at h
  exact h

/-! Bytes. -/
abbrev cb (x : UInt8) : Value := .int .u8 (x.toNat : Int)
def U8 (e : Nat) : Ty UInt8 where
  id := e
  sz := 1
  bytes := 1
  zero := .int .u8 0
  enc := fun x => [cb x]
  hlen := fun _ => rfl
  hone := fun x u hu => by simp at hu; subst hu; rfl
  hsz := by omega
  hby := by omega
theorem U8_all (e : Nat) (xs : List UInt8) : (U8 e).all xs = xs.map cb := by
  unfold Ty.all U8
  induction xs with
  | nil => rfl
  | cons x xs ih => simp [List.flatMap_cons, ih]

def str (xs : List UInt8) : ByteArray := ⟨xs.toArray⟩
@[simp, go_sem] theorem str_toList (xs : List UInt8) : (str xs).toList = xs := ByteArray.toList_mk xs
theorem str_inj {xs ys : List UInt8} (h : str xs = str ys) : xs = ys := by
  unfold str at h
  injection h with h
  simpa using congrArg Array.toList h

/-- string(v). -/
theorem RR.string {e : Nat} {w : World} {v : Value} {xs : List UInt8} (h : RR (U8 e) w v xs) {src dst e' : TypeId} (hs : P.underlying src = some (.slice e')) (he : P.underlying e' = some (.int .u8)) (hd : P.underlying dst = some .string) :
    (convert src dst v).run P w = .ok (.string (str xs)) w := by
  obtain ⟨A, c, rfl, hc, hm, hcell⟩ := h
  rcases Nat.eq_zero_or_pos xs.length with h0 | h0
  · obtain rfl : xs = [] := List.eq_nil_of_length_eq_zero h0
    rw [run_convert_bytes_string w src dst e' _ _ c hs he hd]
    cases A <;> simp [Conv.bytesToString, str, loadCells, loadCellsFrom, ByteArray.empty, ByteArray.emptyWithCapacity] <;> rfl
  · obtain ⟨ad, rfl, hcc⟩ := hcell h0
    have hl : (loadCells ad xs.length).run P w = .ok (xs.map cb).toArray w := by
      have := run_loadCells_list (P := P) w ad (xs.map cb) (fun j v hj => hcc j v (by rw [U8_all]; exact hj))
      simpa using this
    have hl2 : (xs.map cb) = (xs.map fun x => ((x.toNat : Int))).map (Value.int .u8) := by simp [cb]
    rw [hl2] at hl
    rw [run_convert_bytes_string w src dst e' _ _ c hs he hd, run_bytesToString w _ xs.length c (xs.map fun x => ((x.toNat : Int))) hl, foldl_push_bytes]
    simp [str, ByteArray.empty, ByteArray.emptyWithCapacity, Function.comp_def]
    rfl
end Go.Proofs.YticfcelbnkiopaaDoor

namespace Go.Proofs.YticfcelbnkiopaaDoor
set_option maxRecDepth 100000
open Go.RowKit
variable {P : Program} {α : Type}

/-- Two values of a type are told apart by '=='. -/
structure EqT (P : Program) (t : TypeId) (n : Nat) (ag : Bool) (D : Nat) (enc : α → List Value) (val : α → Value) (eq : α → α → Bool) : Prop where
  isAg : ∀ w, (isAgg t).run P w = .ok ag w
  size : ∀ w, (sizeOf t).run P w = .ok n w
  len : ∀ x, (enc x).length = n
  vals : ∀ x, val x = if ag = true then .agg (enc x).toArray else (enc x).headD undef
  one : ag = false → n = 1
  eqs : ∀ d w x y, (Op.equalIn (d + D) t (val x) (val y)).run P w = .ok (eq x y) w

theorem EqT.part {t : TypeId} {n D : Nat} {ag : Bool} {enc : α → List Value} {val : α → Value} {eq : α → α → Bool} (h : EqT P t n ag D enc val eq) (cs : List Value) (off : Nat) (x : α) (hx : (cs.drop off).take n = enc x) (hl : off + n ≤ cs.length) (w : World) :
    (part t cs.toArray off).run P w = .ok (val x) w := by
  unfold Go.part
  rw [Sem.run_bind, h.isAg w, Result.andThen_ok]
  cases ag with
  | true =>
    simp only [if_true, Sem.run_bind, h.size w, Result.andThen_ok, Sem.run_pure]
    rw [h.vals x, if_pos rfl, ← hx]
    congr 2
    apply Array.toList_inj.mp
    simp
  | false =>
    have hn := h.one rfl
    subst hn
    have hlt : off < cs.length := by omega
    have e1 : cs.toArray[off]? = some (val x) := by
      rw [h.vals x]
      simp only [Bool.false_eq_true, if_false, List.getElem?_toArray]
      rw [← hx, List.getElem?_eq_getElem hlt, List.drop_eq_getElem_cons hlt]
      rfl
    simp only [Bool.false_eq_true, if_false]
    rw [e1]
    simp

theorem flatMap_len {enc : α → List Value} {n : Nat} (h : ∀ x, (enc x).length = n) (xs : List α) : (xs.flatMap enc).length = xs.length * n := by
  induction xs with
  | nil => simp
  | cons x xs ih => simp [ih, h, Nat.succ_mul, Nat.add_comm]
theorem flatMap_at {enc : α → List Value} {n : Nat} (h : ∀ x, (enc x).length = n) : ∀ (xs : List α) (i : Nat) (hi : i < xs.length), ((xs.flatMap enc).drop (i * n)).take n = enc xs[i]
  | [], i, hi => by simp at hi
  | x :: xs, 0, _ => by simp [h]
  | x :: xs, i + 1, hi => by
    rw [List.flatMap_cons, Nat.succ_mul, Nat.add_comm, ← List.drop_drop, List.drop_left' (h x), flatMap_at h xs i (by simpa using hi)]
    rfl
theorem all_range_zip {eq : α → α → Bool} : ∀ (xs ys : List α), xs.length = ys.length → ((xs.zip ys).all fun p => eq p.1 p.2) = (List.range xs.length).all fun i => match xs[i]?, ys[i]? with | some a, some b => eq a b | _, _ => true
  | [], [], _ => rfl
  | [], _ :: _, h => by simp at h
  | _ :: _, [], h => by simp at h
  | x :: xs, y :: ys, h => by
    rw [List.length_cons, List.range_succ_eq_map, List.all_cons, List.all_map, List.zip_cons_cons, List.all_cons, all_range_zip xs ys (by simpa using h)]
    rfl

theorem EqT.arr {t e : TypeId} {n m D : Nat} {ag : Bool} {enc : α → List Value} {val : α → Value} {eq : α → α → Bool} (h : EqT P e n ag D enc val eq) (ht : P.underlying t = some (.array m e))
    (d : Nat) (w : World) (xs ys : List α) (hx : xs.length = m) (hy : ys.length = m) :
    (Op.equalIn (d + (D + 1)) t (.agg (xs.flatMap enc).toArray) (.agg (ys.flatMap enc).toArray)).run P w = .ok ((xs.zip ys).all fun p => eq p.1 p.2) w := by
  rw [all_range_zip xs ys (by omega), hx, List.range_eq_range', ← Nat.add_assoc, Op.equalIn]
  simp only [Sem.run_bind, run_underlying ht, Result.andThen_ok, h.size, Std.Legacy.Range.forIn_eq_forIn_range', Std.Legacy.Range.size, Nat.sub_zero, Nat.add_sub_cancel, Nat.div_one]
  have hl : ∀ i ∈ List.range' 0 m 1, i < m := fun i hi => by simpa using (List.mem_range'_1.1 hi).2
  generalize List.range' 0 m 1 = l at hl ⊢
  induction l with
  | nil => simp
  | cons i l ih =>
    have hi : i < m := hl i (by simp)
    have hix : i < xs.length := by omega
    have hiy : i < ys.length := by omega
    have hmul : i * n + n ≤ m * n := by rw [← Nat.succ_mul]; exact Nat.mul_le_mul_right _ hi
    have px := h.part (xs.flatMap enc) (i * n) xs[i] (flatMap_at h.len xs i hix) (by rw [flatMap_len h.len, hx]; exact hmul) w
    have py := h.part (ys.flatMap enc) (i * n) ys[i] (flatMap_at h.len ys i hiy) (by rw [flatMap_len h.len, hy]; exact hmul) w
    have pe := h.eqs d w xs[i] ys[i]
    simp only [List.forIn_cons, Sem.run_bind, px, py, pe, Result.andThen_ok, List.all_cons, List.getElem?_eq_getElem hix, List.getElem?_eq_getElem hiy]
    cases hb : eq xs[i] ys[i]
    · simp
    · simp only [Bool.not_true, Bool.false_eq_true, if_false, Sem.run_pure, Result.andThen_ok, Bool.true_and]
      exact ih fun j hj => hl j (by simp [hj])
theorem zip_all_eq [BEq α] [LawfulBEq α] : ∀ (xs ys : List α), xs.length = ys.length → ((xs.zip ys).all fun p => p.1 == p.2) = (xs == ys)
  | [], [], _ => rfl
  | [], _ :: _, h => by simp at h
  | _ :: _, [], h => by simp at h
  | x :: xs, y :: ys, h => by rw [List.zip_cons_cons, List.all_cons, zip_all_eq xs ys (by simpa using h), List.cons_beq_cons]

/-- Whole numbers of one cell. -/
theorem EqT.int (t : TypeId) (k : IntKind) (ht : P.underlying t = some (.int k)) (hs : ∀ w, (sizeOf t).run P w = .ok 1 w) (num : α → Int) :
    EqT P t 1 false 1 (fun x => [.int k (num x)]) (fun x => .int k (num x)) (fun x y => num x == num y) where
  isAg w := by unfold isAgg; rw [Sem.run_bind, run_underlying ht w]; rfl
  size := hs
  len x := rfl
  vals x := rfl
  one _ := rfl
  eqs d w x y := run_equalIn_int w d t k k _ _ ht

/-- Rows of so many elements. -/
abbrev RowOf (α : Type) (m : Nat) := { l : List α // l.length = m }
theorem EqT.row {t e : TypeId} {n m D : Nat} {ag : Bool} {enc : α → List Value} {val : α → Value} {eq : α → α → Bool} (h : EqT P e n ag D enc val eq) (ht : P.underlying t = some (.array m e)) (hs : ∀ w, (sizeOf t).run P w = .ok (m * n) w) :
    EqT P t (m * n) true (D + 1) (fun l : RowOf α m => l.1.flatMap enc) (fun l => .agg (l.1.flatMap enc).toArray) (fun x y => (x.1.zip y.1).all fun p => eq p.1 p.2) where
  isAg w := by unfold isAgg; rw [Sem.run_bind, run_underlying ht w]; rfl
  size := hs
  len x := by rw [flatMap_len h.len, x.2]
  vals x := rfl
  one h := by cases h
  eqs d w x y := h.arr ht d w x.1 y.1 x.2 y.2
/-- Fields by name, type and place. -/
def eqF (d : Nat) (xs ys : Array Value) : List (String × TypeId × Nat) → Sem Bool
  | [] => pure true
  | f :: fs =>
    if f.1 ≠ "_" then do
      let a ← part f.2.1 xs f.2.2
      let b ← part f.2.1 ys f.2.2
      let r ← Op.equalIn d f.2.1 a b
      if (!r) = true then pure false else eqF d xs ys fs
    else eqF d xs ys fs
theorem eqFields_eq (d : Nat) (xs ys : Array Value) : ∀ fs : List Field, Op.eqFields d xs ys fs = eqF d xs ys (fs.map fun f => (f.name, f.type, f.offset))
  | [] => rfl
  | f :: fs => by rw [Op.eqFields, List.map_cons, eqF, eqFields_eq d xs ys fs]
/-- One field of a struct. -/
theorem eqF_cons {β : Type} {n D : Nat} {ag : Bool} {enc : β → List Value} {val : β → Value} {eq : β → β → Bool} (name : String) (t : TypeId) (o : Nat) (fs : List (String × TypeId × Nat)) (h : EqT P t n ag D enc val eq) (hn : name ≠ "_") (d : Nat) (hD : D ≤ d) (xs ys : List Value) (x y : β)
    (hx : (xs.drop o).take n = enc x) (hy : (ys.drop o).take n = enc y) (hl : o + n ≤ xs.length) (hl2 : o + n ≤ ys.length) (w : World) (r : Bool) (hr : (eqF d xs.toArray ys.toArray fs).run P w = .ok r w) :
    (eqF d xs.toArray ys.toArray ((name, t, o) :: fs)).run P w = .ok (eq x y && r) w := by
  obtain ⟨d, rfl⟩ : ∃ k, d = k + D := ⟨d - D, by omega⟩
  rw [eqF, if_pos hn]
  simp only [Sem.run_bind, h.part xs o x hx hl w, h.part ys o y hy hl2 w, h.eqs d w x y, Result.andThen_ok]
  cases eq x y
  · simp
  · simp [hr]
theorem eqF_nil (d : Nat) (xs ys : Array Value) (w : World) : (eqF d xs ys []).run P w = .ok true w := by simp [eqF]
end Go.Proofs.YticfcelbnkiopaaDoor

namespace Go.Proofs.YticfcelbnkiopaaDoor
set_option maxRecDepth 100000
open Go.RowKit
variable {P : Program} {α : Type}

/-- Block b holds cs. -/
def VA (w : World) (b : Nat) (t : TypeId) (cs : List Value) : Prop := w.heap[b]? = some (.cells cs.toArray t (0, 0))
theorem VA.lt {w : World} {b : Nat} {t : TypeId} {cs : List Value} (h : VA w b t cs) : b < w.heap.size := by
  rcases Nat.lt_or_ge b w.heap.size with h2 | h2
  · exact h2
  · rw [VA, Array.getElem?_eq_none h2] at h; cases h
theorem VA.grown {w w1 : World} {b : Nat} {t : TypeId} {cs : List Value} {row : Option Nat} (h : VA w b t cs) (hg : w.grownBy w1 row) (hne : some b ≠ row) : VA w1 b t cs := (hg.block b h.lt hne).trans h
theorem VA.below {w w1 : World} {b : Nat} {t : TypeId} {cs : List Value} (h : VA w b t cs) (hb : Below w.heap.size w w1) : VA w1 b t cs := (hb.block b h.lt).trans h
theorem VA.cell {w : World} {b : Nat} {t : TypeId} {cs : List Value} (h : VA w b t cs) (i : Nat) : w.cell? ⟨b, i, none⟩ = cs[i]? := by
  unfold World.cell?
  rw [show (⟨b, i, none⟩ : Addr).block = b from rfl, h]
  simp
theorem VA.frozen {w : World} {b : Nat} {t : TypeId} {cs : List Value} (h : VA w b t cs) (i : Nat) : w.frozen? ⟨b, i, none⟩ = false := by
  unfold World.frozen?
  rw [show (⟨b, i, none⟩ : Addr).block = b from rfl, h]
  simp
theorem VA.range {w : World} {b : Nat} {t : TypeId} {cs : List Value} (h : VA w b t cs) (o : Nat) (xs : List Value) (hx : (cs.drop o).take xs.length = xs) : w.rangeAt b o xs := fun j v hv => by
  rw [h.cell, ← hv, ← hx, List.getElem?_take, List.getElem?_drop]
  have := (List.getElem?_eq_some_iff.1 hv).1
  rw [if_pos this]
theorem VA.all {w : World} {b : Nat} {t : TypeId} {cs : List Value} (h : VA w b t cs) : w.rangeAt b 0 cs := h.range 0 cs (by simp)
theorem VA.new (w : World) (cs : List Value) (t : TypeId) : VA (w.alloc (.cells cs.toArray t)) w.heap.size t cs := heap_alloc_new w _
theorem RR.range {T : Ty α} {w : World} {b o : Nat} {xs : List α} (h : w.rangeAt b o (T.all xs)) (hm : xs.length ≤ 9223372036854775807) : RR T w (.slice (some ⟨b, o, none⟩) xs.length xs.length) xs :=
  ⟨some ⟨b, o, none⟩, xs.length, rfl, Nat.le_refl _, by simpa [maxLen] using hm, fun _ => ⟨_, rfl, fun j v hv => by rw [Addr.add_mid]; exact h j v hv⟩⟩

section
variable {ops : Array Oper} {rest : List Oper} {o o1 o2 : Oper} {a : Act} {Q : Exit → Act → World → Prop} {w w' : World} {ρ : Operand → Value}

/-- An operation that yields a value. -/
theorem stepV {v : Value} (hr : (execOp a.eval o).run P w = .ok (.value v) w') (hw : Region.wanted o (yielded ops a.tmps) = true) (h : wpList P ops Q rest (a.put o.dst v) w') : wpList P ops Q (o :: rest) a w :=
  wpList_step fun K hK => by
    rw [if_pos hw]
    unfold Oper.wp
    rw [hr]
    exact hK _ _ h
theorem stepS (hr : (execOp a.eval o).run P w = .ok .skip w') (hw : Region.wanted o (yielded ops a.tmps) = true) (h : wpList P ops Q rest (a.put o.dst undef) w') : wpList P ops Q (o :: rest) a w :=
  wpList_step fun K hK => by
    rw [if_pos hw]
    unfold Oper.wp
    rw [hr]
    exact hK _ _ h

theorem exec_load (t : TypeId) (x : Operand) (ho : o.op = .load t x) (b off : Nat) (hx : ρ x = .pointer (some ⟨b, off, none⟩)) (cs : List Value) (d : TypeDesc) (hc : w.rangeAt b off cs)
    (hu : P.underlying t = some d) (hd : d.isRow = true) (hi : (P.info? t).map (·.size) = some cs.length) : (execOp ρ o).run P w = .ok (.value (.agg cs.toArray)) w := by
  unfold execOp
  simp only [ho, hx, run_loadAt_mid w b off t cs d hc hu hd hi, Sem.run_bind, Sem.run_pure, Result.andThen_ok]
theorem run_loadAt_any (w : World) (ad : Addr) (ty : TypeId) (cs : List Value) (d : TypeDesc) (hc : ∀ (j : Nat) (v : Value), cs[j]? = some v → w.cell? (ad.add j) = some v)
    (hu : P.underlying ty = some d) (hd : d.isRow = true) (hi : (P.info? ty).map (·.size) = some cs.length) : (Instr.loadAt ty (.pointer (some ad))).run P w = .ok (.agg cs.toArray) w := by
  have hl : (loadCells ad cs.length).run P w = .ok cs.toArray w := run_loadCells_list (P := P) w ad cs hc
  have hv : (loadVar ty ad).run P w = .ok (.agg cs.toArray) w := by
    cases hq : P.info? ty with
    | none => simp [hq] at hi
    | some i =>
      have hs : i.size = cs.length := by simpa [hq] using hi
      have hagg : (isAgg ty).run P w = .ok true w := by
        unfold isAgg
        rw [Sem.run_bind, run_underlying hu w]
        cases d <;> simp_all
      simp [loadVar, Sem.run_bind, hagg, sizeOf, typeInfo, hq, hs, hl]
  simp only [Instr.loadAt, Instr.sureAddr, Sem.run_bind, Sem.run_pure, Result.andThen_ok, hv]
theorem exec_loadA (t : TypeId) (x : Operand) (ho : o.op = .load t x) (ad : Addr) (hx : ρ x = .pointer (some ad)) (cs : List Value) (d : TypeDesc) (hc : ∀ (j : Nat) (v : Value), cs[j]? = some v → w.cell? (ad.add j) = some v)
    (hu : P.underlying t = some d) (hd : d.isRow = true) (hi : (P.info? t).map (·.size) = some cs.length) : (execOp ρ o).run P w = .ok (.value (.agg cs.toArray)) w := by
  unfold execOp
  simp only [ho, hx, run_loadAt_any w ad t cs d hc hu hd hi, Sem.run_bind, Sem.run_pure, Result.andThen_ok]
theorem exec_arrptr (arr : TypeId) (x : Operand) (ho : o.op = .sliceToArrayPointer arr x) (n : Nat) (e : TypeId) (ht : P.underlying arr = some (.array n e)) (A : Option Addr) (len c : Nat) (hx : ρ x = .slice A len c) (hl : n ≤ len) : (execOp ρ o).run P w = .ok (.value (.pointer A)) w := by
  have h : ¬ len < n := by omega
  unfold execOp
  simp only [ho, hx, Instr.arrayAt, Sem.run_bind, run_underlying ht, Result.andThen_ok, if_neg h, Sem.run_pure]
theorem exec_build (t : TypeId) (parts : Array (Nat × Operand)) (ho : o.op = .build t parts) (cs : List Value) (h : P.built t (parts.map fun (i, x) => (i, ρ x)).toList = some cs.toArray) : (execOp ρ o).run P w = .ok (.value (.agg cs.toArray)) w := by
  unfold execOp
  simp only [ho, run_build w _ _ _ h, Sem.run_bind, Sem.run_pure, Result.andThen_ok]
theorem exec_buildL (t : TypeId) (parts : List (Nat × Operand)) (ho : o.op = .build t parts.toArray) (vals : List (Nat × Value)) (hv : parts.map (fun x => (x.1, ρ x.2)) = vals) (cs : List Value) (h : P.built t vals = some cs.toArray) : (execOp ρ o).run P w = .ok (.value (.agg cs.toArray)) w :=
  exec_build t parts.toArray ho cs (by subst hv; simpa using h)
theorem exec_zero (t : TypeId) (ho : o.op = .build t #[]) (cs : List Value) (h : P.built t [] = some cs.toArray) : (execOp ρ o).run P w = .ok (.value (.agg cs.toArray)) w :=
  exec_build t #[] ho cs (by simpa using h)
theorem exec_eql (t tx : TypeId) (x y : Operand) (ho : o.op = .binOp .eql t x y tx) (xs ys : Array Value) (hx : ρ x = .agg xs) (hy : ρ y = .agg ys) (hm : P.eqGuardType P.depth t = false) (r : Bool) (h : (binOp .eql t (.agg xs) (.agg ys)).run P w = .ok (.bool r) w) :
    (execOp ρ o).run P w = .ok (.value (.bool r)) w := by
  unfold execOp
  simp only [ho, hx, hy, run_eqGuard_agg w _ _ _ _ _ _ hm, h, Sem.run_bind, Sem.run_pure, Result.andThen_ok]
theorem exec_neq (t tx : TypeId) (x y : Operand) (ho : o.op = .binOp .neq t x y tx) (xs ys : Array Value) (hx : ρ x = .agg xs) (hy : ρ y = .agg ys) (hm : P.eqGuardType P.depth t = false) (r : Bool) (h : (binOp .eql t (.agg xs) (.agg ys)).run P w = .ok (.bool r) w) :
    (execOp ρ o).run P w = .ok (.value (.bool (!r))) w := by
  have h2 : (binOp .neq t (.agg xs) (.agg ys)).run P w = .ok (.bool (!r)) w := by
    rw [run_neq_struct]
    rw [run_eql_struct] at h
    generalize (Op.equalIn 10000 t (.agg xs) (.agg ys)).run P w = q at h ⊢
    cases q with
    | ok b w2 => simp only [Result.andThen_ok] at h ⊢; cases h; rfl
    | halt x w2 => simp [Result.andThen] at h
  unfold execOp
  simp only [ho, hx, hy, run_eqGuard_agg w _ _ _ _ _ _ hm, h2, Sem.run_bind, Sem.run_pure, Result.andThen_ok]
theorem exec_index {e : TypeId} {m n D : Nat} {ag : Bool} {enc : α → List Value} {val : α → Value} {eq : α → α → Bool} (h : EqT P e n ag D enc val eq) (t : TypeId) (x y : Operand) (ho : o.op = .index t x y) (ht : P.underlying t = some (.array m e)) (xs : List α) (hx : ρ x = .agg (xs.flatMap enc).toArray) (hl : xs.length = m)
    (i : Nat) (k : IntKind) (hy : ρ y = .int k (i : Int)) (hi : i < xs.length) : (execOp ρ o).run P w = .ok (.value (val xs[i])) w := by
  have h1 : 0 ≤ (i : Int) ∧ (i : Int) < (m : Int) := by omega
  have hmul : i * n + n ≤ xs.length * n := by rw [← Nat.succ_mul]; exact Nat.mul_le_mul_right _ hi
  have hp := h.part (xs.flatMap enc) (i * n) xs[i] (flatMap_at h.len xs i hi) (by rw [flatMap_len h.len]; exact hmul) w
  unfold execOp
  simp only [ho, hx, hy, Instr.index, asIntOf, Sem.run_bind, Sem.run_pure, Result.andThen_ok, run_underlying ht, if_pos h1, Sem.run_ite, h.size, Int.toNat_natCast, hp]
theorem exec_box (t : TypeId) (x : Operand) (ho : o.op = .box t x) (cs : List Value) (hx : ρ x = .agg cs.toArray) : (execOp ρ o).run P w = .ok (.value (.pointer (some ⟨w.heap.size, 0, none⟩))) (w.alloc (.cells cs.toArray t)) := by
  unfold execOp
  simp only [ho, hx]
  rfl
theorem exec_alloc (t : TypeId) (ho : o.op = .alloc t) (z : Value) (cs : List Value) (hz : (P.info? t).map (·.zero) = some (some z)) (hc : z.cells = cs.toArray) : (execOp ρ o).run P w = .ok (.value (.pointer (some ⟨w.heap.size, 0, none⟩))) (w.alloc (.cells cs.toArray t)) := by
  cases hq : P.info? t with
  | none => simp [hq] at hz
  | some i =>
    simp only [hq, Option.map_some, Option.some.injEq] at hz
    unfold execOp
    simp only [ho, Instr.alloc, zeroValue, typeInfo, Sem.run_bind, run_program, Sem.run_pure, Result.andThen_ok, hq, hz, newVar, newRow, hc]
    rfl
theorem exec_store (t : TypeId) (x y : Operand) (ho : o.op = .store t x y) (b : Nat) (hx : ρ x = .pointer (some ⟨b, 0, none⟩)) (cs old : List Value) (hy : ρ y = .agg cs.toArray) (t2 : TypeId) (hv : VA w b t2 old) (hi : (P.info? t).map (·.size) = some cs.length) (hl : old.length = cs.length) (h1 : ∀ v ∈ cs, v.oneCell' = true) :
    (execOp ρ o).run P w = .ok .skip (w.setRow b cs.toArray) := by
  unfold execOp
  simp only [ho, hx, hy, Instr.storeAt, Instr.sureAddr, Sem.run_bind, Sem.run_pure, Result.andThen_ok, run_storeVar_row w b t2 t old.toArray cs.toArray hv (by simpa using hi) (by simpa using hl) (all_oneCell_toArray h1)]

theorem VA.set {w : World} {b : Nat} {t : TypeId} {old : List Value} (h : VA w b t old) (cs : List Value) : VA (w.setRow b cs.toArray) b t cs := setRow_heap w b old.toArray cs.toArray t (0, 0) h
theorem setRow_grown (w : World) (b : Nat) (cs : Array Value) : w.grownBy (w.setRow b cs) (some b) := ⟨rfl, rfl, rfl, by simp, fun k _ hk => by
  simp only [World.setRow, Array.getElem?_modify]
  rw [if_neg (fun e => hk (by rw [e]))]⟩
theorem alloc_belowAt (w : World) (o : Obj) : Below w.heap.size w (w.alloc o) := (Below.refl _ _).alloc (Nat.le_refl _) _

theorem run_loadVar_va {w : World} {b : Nat} {t2 : TypeId} {cs : List Value} (hv : VA w b t2 cs) (t : TypeId) (d : TypeDesc) (hu : P.underlying t = some d) (hd : d.isRow = true) (hi : (P.info? t).map (·.size) = some cs.length) : (loadVar t ⟨b, 0, none⟩).run P w = .ok (.agg cs.toArray) w :=
  run_loadVar_mid w b 0 t cs d hv.all hu hd hi
theorem results_cell {fn : Func} {d : Tmp} {t : TypeId} (h : fn.results = #[.cell d t]) (tmps : Array Value) {w : World} {b : Nat} {t2 : TypeId} {cs : List Value} (hv : VA w b t2 cs) (hp : tmps.getD d undef = .pointer (some ⟨b, 0, none⟩)) (td : TypeDesc) (hu : P.underlying t = some td) (hd : td.isRow = true) (hi : (P.info? t).map (·.size) = some cs.length) :
    (results fn tmps).run P w = .ok (.agg cs.toArray) w := by
  have hp2 : tmps[d]?.getD undef = .pointer (some ⟨b, 0, none⟩) := by rw [← hp]; simp
  simp [results, h, hp2, asAddr, run_loadVar_va hv t td hu hd hi]
theorem results_cell_tmp {fn : Func} {d e : Tmp} {t : TypeId} (h : fn.results = #[.cell d t, .tmp e]) (tmps : Array Value) {w : World} {b : Nat} {t2 : TypeId} {cs : List Value} (hv : VA w b t2 cs) (hp : tmps.getD d undef = .pointer (some ⟨b, 0, none⟩)) (td : TypeDesc) (hu : P.underlying t = some td) (hd : td.isRow = true) (hi : (P.info? t).map (·.size) = some cs.length) :
    (results fn tmps).run P w = .ok (.tuple #[.agg cs.toArray, tmps.getD e undef]) w := by
  have hp2 : tmps[d]?.getD undef = .pointer (some ⟨b, 0, none⟩) := by rw [← hp]; simp
  simp [results, h, hp2, asAddr, run_loadVar_va hv t td hu hd hi]
/-- A variable is made, and a value laid into it. -/
theorem wpVar (t : TypeId) (ho1 : o1.op = .alloc t) (z : Value) (zs : List Value) (hz : (P.info? t).map (·.zero) = some (some z)) (hc : z.cells = zs.toArray) (d : Nat) (y : Operand) (ho2 : o2.op = .store t (.tmp d) y) (cs : List Value)
    (hx : (a.put o1.dst (.pointer (some ⟨w.heap.size, 0, none⟩))).eval (.tmp d) = .pointer (some ⟨w.heap.size, 0, none⟩))
    (hy : (a.put o1.dst (.pointer (some ⟨w.heap.size, 0, none⟩))).eval y = .agg cs.toArray) (hl : zs.length = cs.length) (hi : (P.info? t).map (·.size) = some cs.length) (h1 : ∀ v ∈ cs, v.oneCell' = true)
    (hw1 : Region.wanted o1 (yielded ops a.tmps) = true) (hw2 : Region.wanted o2 (yielded ops (a.put o1.dst (.pointer (some ⟨w.heap.size, 0, none⟩))).tmps) = true)
    (h : ∀ w', VA w' w.heap.size t cs → Below w.heap.size w w' → wpList P ops Q rest ((a.put o1.dst (.pointer (some ⟨w.heap.size, 0, none⟩))).put o2.dst undef) w') : wpList P ops Q (o1 :: o2 :: rest) a w := by
  refine stepV (exec_alloc t ho1 z zs hz hc) hw1 ?_
  have hv := VA.new w zs t
  refine stepS (exec_store t (.tmp d) y ho2 w.heap.size hx cs zs hy t hv hi hl h1) hw2 ?_
  exact h _ (hv.set cs) ((alloc_belowAt w _).grown (setRow_grown _ _ _) (alloc_belowAt w _).size (fun k hk => by cases hk; exact Nat.le_refl _))
/-- A value is put into a variable of its own. -/
theorem wpBox (t : TypeId) (x : Operand) (ho : o.op = .box t x) (cs : List Value) (hx : a.eval x = .agg cs.toArray) (hw : Region.wanted o (yielded ops a.tmps) = true)
    (h : ∀ w', VA w' w.heap.size t cs → Below w.heap.size w w' → wpList P ops Q rest (a.put o.dst (.pointer (some ⟨w.heap.size, 0, none⟩))) w') : wpList P ops Q (o :: rest) a w :=
  stepV (exec_box t x ho cs hx) hw (h _ (VA.new w cs t) (alloc_belowAt w _))
/-- A variable is made. -/
theorem wpAlloc (t : TypeId) (ho : o.op = .alloc t) (z : Value) (zs : List Value) (hz : (P.info? t).map (·.zero) = some (some z)) (hc : z.cells = zs.toArray) (hw : Region.wanted o (yielded ops a.tmps) = true)
    (h : ∀ w', VA w' w.heap.size t zs → Below w.heap.size w w' → wpList P ops Q rest (a.put o.dst (.pointer (some ⟨w.heap.size, 0, none⟩))) w') : wpList P ops Q (o :: rest) a w :=
  stepV (exec_alloc t ho z zs hz hc) hw (h _ (VA.new w zs t) (alloc_belowAt w _))
/-- A value is laid into a variable. -/
theorem wpStore (t : TypeId) (x y : Operand) (ho : o.op = .store t x y) (b : Nat) (hx : a.eval x = .pointer (some ⟨b, 0, none⟩)) (cs old : List Value) (hy : a.eval y = .agg cs.toArray) (t2 : TypeId) (hv : VA w b t2 old) (hi : (P.info? t).map (·.size) = some cs.length) (hl : old.length = cs.length) (h1 : ∀ v ∈ cs, v.oneCell' = true)
    (hw : Region.wanted o (yielded ops a.tmps) = true) (h : ∀ w', VA w' b t2 cs → w.grownBy w' (some b) → wpList P ops Q rest (a.put o.dst undef) w') : wpList P ops Q (o :: rest) a w :=
  stepS (exec_store t x y ho b hx cs old hy t2 hv hi hl h1) hw (h _ (hv.set cs) (setRow_grown _ _ _))
/-- The same, at the operation: a step of a region that draws its order. -/
theorem opStore {K : Act → World → Prop} (t : TypeId) (x y : Operand) (ho : o.op = .store t x y) (b : Nat) (hx : a.eval x = .pointer (some ⟨b, 0, none⟩)) (cs old : List Value) (hy : a.eval y = .agg cs.toArray) (t2 : TypeId) (hv : VA w b t2 old) (hi : (P.info? t).map (·.size) = some cs.length) (hl : old.length = cs.length) (h1 : ∀ v ∈ cs, v.oneCell' = true)
    (h : ∀ w', VA w' b t2 cs → w.grownBy w' (some b) → K (a.put o.dst undef) w') : o.wp P a w K Q := by
  unfold Oper.wp
  rw [exec_store t x y ho b hx cs old hy t2 hv hi hl h1]
  exact h _ (hv.set cs) (setRow_grown _ _ _)
end
end Go.Proofs.YticfcelbnkiopaaDoor

namespace Go.Proofs.YticfcelbnkiopaaDoor
set_option maxRecDepth 100000
open Go.RowKit
variable {P : Program}

/-- vs, laid over cs from place i on. -/
def lay (cs : List Value) (i : Nat) (vs : List Value) : List Value := cs.take i ++ vs ++ cs.drop (i + vs.length)
theorem lay_length (cs : List Value) (i : Nat) (vs : List Value) (h : i + vs.length ≤ cs.length) : (lay cs i vs).length = cs.length := by
  unfold lay; simp; omega
theorem lay_cons (cs : List Value) (i : Nat) (v : Value) (vs : List Value) (h : i < cs.length) : lay (cs.set i v) (i + 1) vs = lay cs i (v :: vs) := by
  have e : cs.set i v = cs.take i ++ (v :: cs.drop (i + 1)) := by rw [List.set_eq_take_append_cons_drop, if_pos h]
  have hl : (cs.take i).length = i := by rw [List.length_take]; omega
  have e1 : (cs.take i ++ (v :: cs.drop (i + 1))).take (i + 1) = cs.take i ++ [v] := by
    rw [List.take_append, hl, List.take_of_length_le (by omega), show i + 1 - i = 1 by omega]
    rfl
  have e2 : (cs.take i ++ (v :: cs.drop (i + 1))).drop (i + 1 + vs.length) = cs.drop (i + (vs.length + 1)) := by
    rw [List.drop_append, hl, List.drop_of_length_le (by omega), List.nil_append, show i + 1 + vs.length - i = vs.length + 1 by omega, List.drop_succ_cons, List.drop_drop]
    congr 1
    omega
  unfold lay
  rw [e, e1, e2, List.length_cons, List.append_assoc (cs.take i) [v] vs]
  rfl
theorem foldl_lay (off : Nat) : ∀ (vs : List Value) (n : Nat) (cs : List Value), off + n + vs.length ≤ cs.length →
    (vs.zipIdx n).foldl (fun (c : Array Value) (x : Value × Nat) => c.setIfInBounds (off + x.2) x.1) cs.toArray = (lay cs (off + n) vs).toArray
  | [], n, cs, _ => by simp [lay]
  | v :: vs, n, cs, h => by
    simp only [List.length_cons] at h
    rw [List.zipIdx_cons, List.foldl_cons]
    have e : cs.toArray.setIfInBounds (off + n) v = (cs.set (off + n) v).toArray := by simp
    rw [e, foldl_lay off vs (n + 1) (cs.set (off + n) v) (by simp; omega), ← Nat.add_assoc, lay_cons cs (off + n) v vs (by omega)]
theorem fill_cons (place : Nat → Option (Nat × Nat)) (cs : List Value) (i : Nat) (v : Value) (rest : List (Nat × Value)) (off size : Nat) (vs : List Value) (hp : place i = some (off, size)) (hv : v.cells = vs.toArray) (hs : vs.length = size) (hl : off + size ≤ cs.length) :
    Instr.fill place cs.toArray ((i, v) :: rest) = Instr.fill place (lay cs off vs).toArray rest := by
  have h1 : (v.cells.size != size || decide (off + v.cells.size > cs.toArray.size)) = false := by
    rw [hv]; simp; omega
  have h2 : v.cells.zipIdx.foldl (fun cs (c, j) => cs.setIfInBounds (off + j) c) cs.toArray = (lay cs off vs).toArray := by
    rw [hv]
    have := foldl_lay off vs 0 cs (by omega)
    rw [Nat.add_zero] at this
    rw [← this, ← Array.foldl_toList]
    simp
  rw [Instr.fill, hp]
  simp only [h2]
  rw [if_neg]
  have h3 := h1
  simp only [Bool.or_eq_false_iff, bne_eq_false_iff_eq, decide_eq_false_iff_not] at h3
  simp [h3.1]
  have := h3.2
  simp at this
  omega

section
variable {ops : Array Oper} {rest : List Oper} {o : Oper} {a : Act} {Q : Exit → Act → World → Prop} {w : World} {ρ : Operand → Value}
theorem run_storeVar_lay (t : TypeId) (b off : Nat) (v : Value) (vs old : List Value) (hvc : v.cells = vs.toArray) (t2 : TypeId) (hv : VA w b t2 old) (hi : (P.info? t).map (·.size) = some vs.length) (hl : off + vs.length ≤ old.length) (h1 : ∀ v ∈ vs, v.oneCell' = true) :
    (storeVar t ⟨b, off, none⟩ v).run P w = .ok () (w.setRow b (lay old off vs).toArray) := by
  have := run_storeCells_at P b off t2 vs 0 old.toArray w hv (by simpa using hl) h1
  simp only [Nat.add_zero] at this
  cases hq : P.info? t with
  | none => simp [hq] at hi
  | some i =>
    have hs : i.size = vs.length := by simpa [hq] using hi
    simp [storeVar, sizeOf, typeInfo, hq, hvc, hs, this, lay]
theorem exec_lay (t : TypeId) (x y : Operand) (ho : o.op = .store t x y) (b off : Nat) (hx : ρ x = .pointer (some ⟨b, off, none⟩)) (vs old : List Value) (hy : (ρ y).cells = vs.toArray) (t2 : TypeId) (hv : VA w b t2 old) (hi : (P.info? t).map (·.size) = some vs.length) (hl : off + vs.length ≤ old.length) (h1 : ∀ v ∈ vs, v.oneCell' = true) :
    (execOp ρ o).run P w = .ok .skip (w.setRow b (lay old off vs).toArray) := by
  unfold execOp
  simp only [ho, hx, Instr.storeAt, Instr.sureAddr, Sem.run_bind, Sem.run_pure, Result.andThen_ok, run_storeVar_lay t b off (ρ y) vs old hy t2 hv hi hl h1]
/-- A part is laid into a variable. -/
theorem wpLay (t : TypeId) (x y : Operand) (ho : o.op = .store t x y) (b off : Nat) (hx : a.eval x = .pointer (some ⟨b, off, none⟩)) (vs old new : List Value) (hy : (a.eval y).cells = vs.toArray) (t2 : TypeId) (hv : VA w b t2 old) (hi : (P.info? t).map (·.size) = some vs.length) (hl : off + vs.length ≤ old.length) (h1 : ∀ v ∈ vs, v.oneCell' = true)
    (hn : lay old off vs = new) (hw : Region.wanted o (yielded ops a.tmps) = true) (h : ∀ w', VA w' b t2 new → w.grownBy w' (some b) → wpList P ops Q rest (a.put o.dst undef) w') : wpList P ops Q (o :: rest) a w := by
  subst hn
  exact stepS (exec_lay t x y ho b off hx vs old hy t2 hv hi hl h1) hw (h _ (hv.set _) (setRow_grown _ _ _))
end
end Go.Proofs.YticfcelbnkiopaaDoor

namespace Go.Proofs.YticfcelbnkiopaaDoor
set_option maxRecDepth 100000
open Go.RowKit

theorem Tryd.info_u8 : (Tryd.prog.info? 5).map (fun i => (i.zero, i.size, i.bytes)) = some (some (.int .u8 0), 1, 1) := by kernel_rfl

abbrev B8 : Ty UInt8 := U8 5
/-- v reads as the bytes xs in w. -/
abbrev RB (w : World) (v : Value) (xs : List UInt8) : Prop := RR B8 w v xs
/-- v is a row of bytes of the call's own. -/
abbrev OB (w : World) (base : Nat) (v : Value) (xs : List UInt8) : Prop := OR B8 w base v xs

/-- A cut of bytes that are read. -/
theorem cutB (A : Option Addr) (c : Nat) (xs : List UInt8) (i j : Nat) (hij : i ≤ j) (hj : j ≤ xs.length) (hc : xs.length ≤ c) :
    ∃ A', (∀ (kl kh : IntKind) (W : World), (Instr.slice 22 (.slice A xs.length c) (some (.int kl (i : Int))) (some (.int kh (j : Int))) none).run Tryd.prog W = .ok (.slice A' (j - i) (c - i)) W) ∧
      (∀ (kl : IntKind) (W : World), j = xs.length → (Instr.slice 22 (.slice A xs.length c) (some (.int kl (i : Int))) none none).run Tryd.prog W = .ok (.slice A' (xs.length - i) (c - i)) W) ∧
      (∀ (kh : IntKind) (W : World), i = 0 → (Instr.slice 22 (.slice A xs.length c) none (some (.int kh (j : Int))) none).run Tryd.prog W = .ok (.slice A' j c) W) ∧
      ∀ w, RB w (.slice A xs.length c) xs → RB w (.slice A' (j - i) (c - i)) ((xs.take j).drop i) :=
  RR.cut (P := Tryd.prog) B8 Tryd.underlying22 Tryd.info_u8 A c xs i j hij hj hc

section
variable {ops : Array Oper} {rest : List Oper} {o : Oper} {a : Act} {Q : Exit → Act → World → Prop}
/-- append(v, y) of a byte. -/
theorem appB {w0 W : World} (base : Nat) (s x : Operand) (v : Value) (xs : List UInt8) (y : UInt8) (n : Int) (HO : OB W base v xs) (HB : Below base w0 W) (hbase : base ≤ W.heap.size) (hl : xs.length ≤ 1000000000) (hn : n = (y.toNat : Int))
    (hgd : o.guard = none) (ho : o.op = .call { callee := .builtin .append, args := #[s, x], argTypes := #[22, 22] })
    (hs : a.eval s = v) (hx : a.eval x = .slice (some ⟨W.heap.size, 0, none⟩) 1 1)
    (h : ∀ v1 w1, OB w1 base v1 (xs ++ [y]) → Below base w0 w1 → W.grownBy w1 v.ownBlock → (v1.ownBlock = v.ownBlock ∨ ∃ b, v1.ownBlock = some b ∧ W.heap.size ≤ b) → base ≤ w1.heap.size → wpList Tryd.prog ops Q rest (a.put o.dst v1) w1) :
    wpList Tryd.prog ops Q (o :: rest) a (W.alloc (.cells #[.int .u8 n] 5)) := by
  subst hn
  exact wp_append1 B8 base hgd s x 22 _ ho Tryd.underlying22 Tryd.info_u8 rfl v xs y #[cb y] hs hx rfl HO HB hbase (by show (xs.length + 1) * 1 ≤ _; omega) h
/-- append(v, ys...). -/
theorem appBs {w0 W : World} (base : Nat) (s x : Operand) (v vy : Value) (xs ys : List UInt8) (HO : OB W base v xs) (HR : RB W vy ys) (HB : Below base w0 W) (hbase : base ≤ W.heap.size) (hl : xs.length ≤ 1000000000) (hl2 : ys.length ≤ 1000000000)
    (hgd : o.guard = none) (ho : o.op = .call { callee := .builtin .append, args := #[s, x], argTypes := #[22, 22] })
    (hs : a.eval s = v) (hx : a.eval x = vy)
    (h : ∀ v1 w1, OB w1 base v1 (xs ++ ys) → Below base w0 w1 → W.grownBy w1 v.ownBlock → (v1.ownBlock = v.ownBlock ∨ ∃ b, v1.ownBlock = some b ∧ W.heap.size ≤ b) → base ≤ w1.heap.size → wpList Tryd.prog ops Q rest (a.put o.dst v1) w1) :
    wpList Tryd.prog ops Q (o :: rest) a W :=
  wp_appendN B8 base hgd s x 22 _ ho Tryd.underlying22 Tryd.info_u8 rfl v xs ys vy hs hx HO HR HB hbase (by show (xs.length + ys.length) * 1 ≤ _; omega) h
end

/-- A literal row of bytes. -/
theorem OB.lit (w : World) (base : Nat) (xs : List UInt8) (cs : Array Value) (hcs : cs.toList = xs.map cb) (hb : base ≤ w.heap.size) (hm : xs.length ≤ 9223372036854775807) :
    OB (w.alloc (.cells cs 5)) base (.slice (some ⟨w.heap.size, 0, none⟩) xs.length xs.length) xs := OR.lit B8 w base xs cs (by rw [hcs, U8_all]) hb hm
theorem RB.at0 {w : World} {A : Option Addr} {n c : Nat} {xs : List UInt8} (h : RB w (.slice A n c) xs) (hp : 0 < xs.length) : ∃ ad, A = some ad ∧ ∀ (j : Nat) (u : Value), (xs.map cb)[j]? = some u → w.cell? (ad.add j) = some u := by
  obtain ⟨A2, c2, e, _, _, h3⟩ := h
  injection e with e1 e2 e3
  subst e1
  obtain ⟨ad, rfl, hcell⟩ := h3 hp
  rw [U8_all] at hcell
  exact ⟨ad, rfl, hcell⟩
/-- A byte of a row that is read. -/
theorem RB.byte {w : World} {A : Option Addr} {n c : Nat} {xs : List UInt8} (h : RB w (.slice A n c) xs) (hp : 0 < xs.length) : ∃ ad, A = some ad ∧ ∀ k, k < xs.length → w.cell? (ad.add k) = some (.int .u8 ((xs.getD k 0).toNat : Int)) := by
  obtain ⟨ad, rfl, hcc⟩ := h.at0 hp
  refine ⟨ad, rfl, fun k hk => hcc k _ ?_⟩
  rw [List.getElem?_map, List.getD_eq_getElem?_getD, List.getElem?_eq_getElem hk]
  rfl
end Go.Proofs.YticfcelbnkiopaaDoor

namespace Go.Proofs.YticfcelbnkiopaaDoor
set_option maxRecDepth 100000
open Go.RowKit
variable {P : Program} {α : Type}

/-- The world w' is w, but for blocks of F, and new ones. -/
structure Chg (F : Nat → Prop) (w w' : World) : Prop where
  os : w'.os = w.os
  tape : w'.tape = w.tape
  output : w'.output = w.output
  size : w.heap.size ≤ w'.heap.size
  block : ∀ k, k < w.heap.size → ¬ F k → w'.heap[k]? = w.heap[k]?
theorem Chg.refl (F : Nat → Prop) (w : World) : Chg F w w := ⟨rfl, rfl, rfl, Nat.le_refl _, fun _ _ _ => rfl⟩
/-- No block. -/
def Nil : Nat → Prop := fun _ => False
theorem Chg.below {w w' : World} (h : Chg Nil w w') : Below w.heap.size w w' := ⟨h.os, h.tape, h.output, h.size, fun k hk => h.block k hk (fun h => h)⟩
theorem chg_below {w w' : World} (h : Below w.heap.size w w') (F : Nat → Prop) : Chg F w w' := ⟨h.os, h.tape, h.output, h.size, fun k hk _ => h.block k hk⟩
theorem chg_grown {w w' : World} {row : Option Nat} (h : w.grownBy w' row) : Chg (fun k => row = some k) w w' := ⟨h.os, h.tape, h.output, h.size, fun k hk hn => h.block k hk (fun e => hn e.symm)⟩
theorem Chg.drew {F : Nat → Prop} {a w : World} (h : Chg F a w) : Chg F a w.drew := ⟨h.os, h.tape, h.output, h.size, h.block⟩

/-- A thing: the blocks in which it stands, and what is said of them. -/
structure Own where
  foot : Nat → Prop
  holds : World → Prop
  lt : ∀ w b, holds w → foot b → b < w.heap.size
  keep : ∀ w w', holds w → w.heap.size ≤ w'.heap.size → (∀ b, foot b → w'.heap[b]? = w.heap[b]?) → holds w'
/-- Block b holds cs. -/
def Own.blk (b : Nat) (t : TypeId) (cs : List Value) : Own where
  foot k := k = b
  holds w := VA w b t cs
  lt w k h e := by subst e; exact h.lt
  keep w w' h _ hk := (hk b rfl).trans h
/-- v is a row of elements. -/
def Own.row (T : Ty α) (v : Value) (xs : List α) : Own where
  foot k := v.ownBlock = some k
  holds w := OR T w 0 v xs
  lt w k h e := (OR.ge h k e).2
  keep w w' h _ hk := by
    refine ⟨h.1, ?_⟩
    rcases h.2 with h2 | ⟨g, cap, cur, hv, hg, hh, r⟩
    · exact Or.inl h2
    · exact Or.inr ⟨g, cap, cur, hv, hg, by rw [hk g (by rw [hv]; rfl)]; exact hh, r⟩
/-- Nothing. -/
def Own.nil : Own := ⟨fun _ => False, fun _ => True, fun _ _ _ h => h.elim, fun _ _ _ _ _ => trivial⟩

/-- w came of w0 by changes of the blocks of F alone, and of new ones; the things of L lie apart, in such blocks. -/
structure SH (F : Nat → Prop) (w0 w : World) (L : List Own) : Prop where
  chg : Chg F w0 w
  holds : ∀ o ∈ L, o.holds w
  foot : ∀ o ∈ L, ∀ b, o.foot b → F b ∨ w0.heap.size ≤ b
  apart : L.Pairwise fun o o' => ∀ b, o.foot b → ¬ o'.foot b

section
variable {F : Nat → Prop} {w0 w w' : World} {L : List Own}
theorem SH.start (F : Nat → Prop) (w : World) : SH F w w [] := ⟨Chg.refl F w, by simp, by simp, List.Pairwise.nil⟩
theorem SH.below (h : SH Nil w0 w L) : Below w0.heap.size w0 w := h.chg.below
theorem SH.size (h : SH F w0 w L) : w0.heap.size ≤ w.heap.size := h.chg.size
theorem SH.drew (h : SH F w0 w L) : SH F w0 w.drew L := ⟨h.chg.drew, fun o ho => o.keep w w.drew (h.holds o ho) (Nat.le_refl _) (fun _ _ => rfl), h.foot, h.apart⟩
theorem SH.sub {L' : List Own} (h : SH F w0 w L) (hs : L'.Sublist L) : SH F w0 w L' := ⟨h.chg, fun o ho => h.holds o (hs.subset ho), fun o ho => h.foot o (hs.subset ho), h.apart.sublist hs⟩
theorem SH.erase (h : SH F w0 w L) (i : Nat) : SH F w0 w (L.eraseIdx i) := h.sub (List.eraseIdx_sublist L i)
theorem SH.tail {o : Own} (h : SH F w0 w (o :: L)) : SH F w0 w L := h.sub (List.sublist_cons_self o L)
theorem SH.at_ (h : SH F w0 w L) (i : Nat) {o : Own} (hi : L[i]? = some o) : o.holds w := h.holds o (List.mem_of_getElem? hi)
theorem SH.va (h : SH F w0 w L) (i : Nat) {b : Nat} {t : TypeId} {cs : List Value} (hi : L[i]? = some (.blk b t cs)) : VA w b t cs := h.at_ i hi
theorem SH.or0 (h : SH F w0 w L) (i : Nat) {T : Ty α} {v : Value} {xs : List α} (hi : L[i]? = some (.row T v xs)) : OR T w 0 v xs := h.at_ i hi
theorem SH.rr (h : SH F w0 w L) (i : Nat) {T : Ty α} {v : Value} {xs : List α} (hi : L[i]? = some (.row T v xs)) : RR T w v xs := (h.or0 i hi).reads
theorem or_base {T : Ty α} {v : Value} {xs : List α} {b : Nat} (h : OR T w 0 v xs) (hb : ∀ k, v.ownBlock = some k → b ≤ k) : OR T w b v xs := by
  refine ⟨h.1, ?_⟩
  rcases h.2 with h2 | ⟨g, cap, cur, hv, _, r⟩
  · exact Or.inl h2
  · exact Or.inr ⟨g, cap, cur, hv, hb g (by rw [hv]; rfl), r⟩
theorem SH.orow (h : SH Nil w0 w L) (i : Nat) {T : Ty α} {v : Value} {xs : List α} (hi : L[i]? = some (.row T v xs)) : OR T w w0.heap.size v xs :=
  or_base (h.or0 i hi) fun k hk => (h.foot _ (List.mem_of_getElem? hi) k hk).elim (fun h => h.elim) id

/-- A step that changes no block that was there. -/
theorem SH.step (h : SH F w0 w L) (hb : Below w.heap.size w w') : SH F w0 w' L where
  chg := ⟨hb.os.trans h.chg.os, hb.tape.trans h.chg.tape, hb.output.trans h.chg.output, Nat.le_trans h.chg.size hb.size, fun k hk hn => (hb.block k (Nat.lt_of_lt_of_le hk h.chg.size)).trans (h.chg.block k hk hn)⟩
  holds o ho := o.keep w w' (h.holds o ho) hb.size (fun b hf => hb.block b (o.lt w b (h.holds o ho) hf))
  foot := h.foot
  apart := h.apart
/-- The same, with a new thing. -/
theorem SH.push (h : SH F w0 w L) (hb : Below w.heap.size w w') (o : Own) (ho : o.holds w') (hf : ∀ b, o.foot b → w.heap.size ≤ b) : SH F w0 w' (o :: L) where
  chg := (h.step hb).chg
  holds o' h' := by
    rcases List.mem_cons.mp h' with rfl | h'
    · exact ho
    · exact (h.step hb).holds o' h'
  foot o' h' b hb' := by
    rcases List.mem_cons.mp h' with rfl | h'
    · exact .inr (Nat.le_trans h.size (hf b hb'))
    · exact h.foot o' h' b hb'
  apart := List.Pairwise.cons (fun o' h' b h1 h2 => by have := o'.lt w b (h.holds o' h') h2; have := hf b h1; omega) h.apart
/-- A step that changes one thing alone. -/
theorem SH.change (h : SH F w0 w L) (i : Nat) {o : Own} (hi : L[i]? = some o) (hc : Chg o.foot w w') (o' : Own) (ho : o'.holds w') (hf : ∀ b, o'.foot b → o.foot b ∨ w.heap.size ≤ b) : SH F w0 w' (L.set i o') := by
  obtain ⟨hlt, he⟩ := List.getElem?_eq_some_iff.1 hi
  have hm := List.mem_of_getElem? hi
  have hap := List.pairwise_iff_getElem.1 h.apart
  have others : ∀ (j : Nat) (hj : j < L.length), j ≠ i → ∀ b, (L[j]).foot b → ¬ o.foot b := fun j hj hne b h1 h2 => by
    rw [← he] at h2
    rcases Nat.lt_or_ge j i with h3 | h3
    · exact hap j i hj hlt h3 b h1 h2
    · exact hap i j hlt hj (by omega) b h2 h1
  have memset : ∀ x ∈ L.set i o', x = o' ∨ ∃ (j : Nat) (hj : j < L.length), j ≠ i ∧ x = L[j] := fun x hx => by
    obtain ⟨j, hj, rfl⟩ := List.mem_iff_getElem.1 hx
    rw [List.length_set] at hj
    rw [List.getElem_set]
    by_cases e : i = j
    · exact .inl (by rw [if_pos e])
    · exact .inr ⟨j, hj, fun h => e h.symm, by rw [if_neg e]⟩
  refine ⟨⟨hc.os.trans h.chg.os, hc.tape.trans h.chg.tape, hc.output.trans h.chg.output, Nat.le_trans h.chg.size hc.size, fun k hk hn => ?_⟩, ?_, ?_, ?_⟩
  · refine (hc.block k (Nat.lt_of_lt_of_le hk h.chg.size) fun h1 => ?_).trans (h.chg.block k hk hn)
    rcases h.foot o hm k h1 with h2 | h2
    · exact hn h2
    · omega
  · intro x hx
    rcases memset x hx with rfl | ⟨j, hj, hne, rfl⟩
    · exact ho
    · have hh := h.holds _ (List.getElem_mem hj)
      exact Own.keep _ w w' hh hc.size fun b hb => hc.block b (Own.lt _ w b hh hb) (others j hj hne b hb)
  · intro x hx b hb
    rcases memset x hx with rfl | ⟨j, hj, hne, rfl⟩
    · rcases hf b hb with h1 | h1
      · exact h.foot o hm b h1
      · exact .inr (Nat.le_trans h.size h1)
    · exact h.foot _ (List.getElem_mem hj) b hb
  · have new : ∀ (j : Nat) (hj : j < L.length), j ≠ i → ∀ b, (L[j]).foot b → ¬ o'.foot b := fun j hj hne b h1 h2 => by
      rcases hf b h2 with h3 | h3
      · exact others j hj hne b h1 h3
      · have := Own.lt _ w b (h.holds _ (List.getElem_mem hj)) h1; omega
    rw [List.pairwise_iff_getElem]
    intro j k hj hk hjk b h1 h2
    rw [List.length_set] at hj hk
    rw [List.getElem_set] at h1 h2
    by_cases e1 : i = j
    · by_cases e2 : i = k
      · omega
      · rw [if_pos e1] at h1
        rw [if_neg e2] at h2
        exact new k hk (fun h => e2 h.symm) b h2 h1
    · rw [if_neg e1] at h1
      by_cases e2 : i = k
      · rw [if_pos e2] at h2
        exact new j hj (fun h => e1 h.symm) b h1 h2
      · rw [if_neg e2] at h2
        exact hap j k hj hk hjk b h1 h2
/-- A thing, said in another way. -/
theorem SH.alter (h : SH F w0 w L) (i : Nat) {o : Own} (hi : L[i]? = some o) (o' : Own) (ho : o.holds w → o'.holds w) (hf : ∀ b, o'.foot b → o.foot b) : SH F w0 w (L.set i o') :=
  h.change i hi (Chg.refl _ w) o' (ho (h.at_ i hi)) (fun b hb => .inl (hf b hb))
/-- A new block. -/
theorem SH.new (h : SH F w0 w L) (t : TypeId) (cs : List Value) : SH F w0 (w.alloc (.cells cs.toArray t)) (.blk w.heap.size t cs :: L) :=
  h.push (alloc_belowAt w _) _ (VA.new w cs t) (fun b (hb : b = _) => by omega)
/-- A block that is written. -/
theorem SH.setRow (h : SH F w0 w L) (i : Nat) {b : Nat} {t : TypeId} {cs : List Value} (hi : L[i]? = some (.blk b t cs)) (new : List Value) : SH F w0 (w.setRow b new.toArray) (L.set i (.blk b t new)) := by
  refine h.change i hi (o' := .blk b t new) ?_ ((h.va i hi).set new) (fun k hk => .inl hk)
  have := chg_grown (setRow_grown w b new.toArray)
  exact ⟨this.os, this.tape, this.output, this.size, fun k hk hn => this.block k hk (fun e => hn (by injection e with e; exact e.symm))⟩
/-- A row that a law of the kit has grown. -/
theorem SH.grow (h : SH F w0 w L) (i : Nat) {T : Ty α} {v v' : Value} {xs ys : List α} (hi : L[i]? = some (.row T v xs)) (ho : OR T w' 0 v' ys) (hg : w.grownBy w' v.ownBlock) (hat : v'.ownBlock = v.ownBlock ∨ ∃ b, v'.ownBlock = some b ∧ w.heap.size ≤ b) : SH F w0 w' (L.set i (.row T v' ys)) := by
  refine h.change i hi (chg_grown hg) _ ho (fun k (hk : v'.ownBlock = some k) => ?_)
  rcases hat with hat | ⟨b, hb, hle⟩
  · exact .inl (by show v.ownBlock = some k; rw [← hat]; exact hk)
  · exact .inr (by rw [hb] at hk; injection hk with hk; omega)
/-- Row of a call's own: a new thing. -/
theorem SH.pushRow (h : SH F w0 w L) (hb : Below w.heap.size w w') {T : Ty α} {v : Value} {xs : List α} (ho : OR T w' w.heap.size v xs) : SH F w0 w' (.row T v xs :: L) :=
  h.push hb _ (ho.lower (Nat.zero_le _)) (fun k hk => (OR.ge ho k hk).1)
theorem SH.nilRow (h : SH F w0 w L) (T : Ty α) : SH F w0 w (.row T (.slice none 0 0) [] :: L) :=
  h.push (Below.refl _ _) _ (OR.nil w 0) (fun k hk => by cases hk)
end

/-- A type of several cells. -/
structure AT (P : Program) (α : Type) where
  id : TypeId
  enc : α → List Value
  n : Nat
  len : ∀ x, (enc x).length = n
  one : ∀ x, ∀ v ∈ enc x, v.oneCell' = true
  d : TypeDesc
  under : P.underlying id = some d
  row : d.isRow = true
  size : (P.info? id).map (·.size) = some n
  zero : α
  zinfo : (P.info? id).map (·.zero) = some (some (.agg (enc zero).toArray))
  zbuilt : P.built id [] = some (enc zero).toArray
/-- Its value. -/
def AT.val (T : AT P α) (x : α) : Value := .agg (T.enc x).toArray

section
variable {ops : Array Oper} {rest : List Oper} {o o1 o2 : Oper} {a : Act} {Q : Exit → Act → World → Prop} {F : Nat → Prop} {w0 w : World} {L : List Own} {ρ : Operand → Value}

theorem AT.sz (T : AT P α) (x : α) : (P.info? T.id).map (·.size) = some (T.enc x).length := by rw [T.len]; exact T.size
/-- var x T -/
theorem wAlloc (T : AT P α) (H : SH F w0 w L) (ho : o.op = .alloc T.id) (hw : Region.wanted o (yielded ops a.tmps) = true)
    (h : ∀ w', SH F w0 w' (.blk w.heap.size T.id (T.enc T.zero) :: L) → wpList P ops Q rest (a.put o.dst (.pointer (some ⟨w.heap.size, 0, none⟩))) w') : wpList P ops Q (o :: rest) a w :=
  stepV (exec_alloc T.id ho _ (T.enc T.zero) T.zinfo rfl) hw (h _ (H.new _ _))
/-- x := y -/
theorem wVar (T : AT P α) (x : α) (H : SH F w0 w L) (ho1 : o1.op = .alloc T.id) (d : Nat) (y : Operand) (ho2 : o2.op = .store T.id (.tmp d) y)
    (hx : (a.put o1.dst (.pointer (some ⟨w.heap.size, 0, none⟩))).eval (.tmp d) = .pointer (some ⟨w.heap.size, 0, none⟩))
    (hy : (a.put o1.dst (.pointer (some ⟨w.heap.size, 0, none⟩))).eval y = .agg (T.enc x).toArray)
    (hw1 : Region.wanted o1 (yielded ops a.tmps) = true) (hw2 : Region.wanted o2 (yielded ops (a.put o1.dst (.pointer (some ⟨w.heap.size, 0, none⟩))).tmps) = true)
    (h : ∀ w', SH F w0 w' (.blk w.heap.size T.id (T.enc x) :: L) → wpList P ops Q rest ((a.put o1.dst (.pointer (some ⟨w.heap.size, 0, none⟩))).put o2.dst undef) w') : wpList P ops Q (o1 :: o2 :: rest) a w := by
  refine wpVar T.id ho1 _ (T.enc T.zero) T.zinfo rfl d y ho2 (T.enc x) hx hy (by rw [T.len, T.len]) (T.sz x) (T.one x) hw1 hw2 fun w' hv hb => h w' ?_
  exact H.push hb _ hv (fun k (hk : k = _) => by omega)
theorem wBox (T : AT P α) (x : α) (H : SH F w0 w L) (y : Operand) (ho : o.op = .box T.id y) (hx : a.eval y = .agg (T.enc x).toArray) (hw : Region.wanted o (yielded ops a.tmps) = true)
    (h : ∀ w', SH F w0 w' (.blk w.heap.size T.id (T.enc x) :: L) → wpList P ops Q rest (a.put o.dst (.pointer (some ⟨w.heap.size, 0, none⟩))) w') : wpList P ops Q (o :: rest) a w :=
  stepV (exec_box T.id y ho (T.enc x) hx) hw (h _ (H.new _ _))
theorem wLoad (T : AT P α) (x : α) (H : SH F w0 w L) (i : Nat) {b off : Nat} {t : TypeId} {cs : List Value} (hi : L[i]? = some (.blk b t cs)) (hp : (cs.drop off).take T.n = T.enc x) (y : Operand) (ho : o.op = .load T.id y) (hx : a.eval y = .pointer (some ⟨b, off, none⟩)) (hw : Region.wanted o (yielded ops a.tmps) = true)
    (h : wpList P ops Q rest (a.put o.dst (.agg (T.enc x).toArray)) w) : wpList P ops Q (o :: rest) a w :=
  stepV (exec_load T.id y ho b off hx (T.enc x) T.d ((H.va i hi).range off _ (by rw [T.len]; exact hp)) T.under T.row (T.sz x)) hw h
theorem wZero (T : AT P α) (ho : o.op = .build T.id #[]) (hw : Region.wanted o (yielded ops a.tmps) = true) (h : wpList P ops Q rest (a.put o.dst (.agg (T.enc T.zero).toArray)) w) : wpList P ops Q (o :: rest) a w :=
  stepV (exec_zero T.id ho _ T.zbuilt) hw h
theorem wStore (T : AT P α) (x : α) (H : SH F w0 w L) (i : Nat) {b : Nat} {t : TypeId} {cs : List Value} (hi : L[i]? = some (.blk b t cs)) (hl : cs.length = T.n) (p y : Operand) (ho : o.op = .store T.id p y) (hx : a.eval p = .pointer (some ⟨b, 0, none⟩)) (hy : a.eval y = .agg (T.enc x).toArray) (hw : Region.wanted o (yielded ops a.tmps) = true)
    (h : ∀ w', SH F w0 w' (L.set i (.blk b t (T.enc x))) → wpList P ops Q rest (a.put o.dst undef) w') : wpList P ops Q (o :: rest) a w :=
  stepS (exec_store T.id p y ho b hx (T.enc x) cs hy t (H.va i hi) (T.sz x) (by rw [T.len]; exact hl) (T.one x)) hw (h _ (H.setRow i hi _))
theorem wLay (T : AT P α) (x : α) (H : SH F w0 w L) (i : Nat) {b off : Nat} {t : TypeId} {cs : List Value} (hi : L[i]? = some (.blk b t cs)) (hl : off + T.n ≤ cs.length) (new : List Value) (hn : lay cs off (T.enc x) = new) (p y : Operand) (ho : o.op = .store T.id p y) (hx : a.eval p = .pointer (some ⟨b, off, none⟩)) (hy : a.eval y = .agg (T.enc x).toArray) (hw : Region.wanted o (yielded ops a.tmps) = true)
    (h : ∀ w', SH F w0 w' (L.set i (.blk b t new)) → wpList P ops Q rest (a.put o.dst undef) w') : wpList P ops Q (o :: rest) a w := by
  subst hn
  exact stepS (exec_lay T.id p y ho b off hx (T.enc x) cs (by rw [hy]; rfl) t (H.va i hi) (T.sz x) (by rw [T.len]; exact hl) (T.one x)) hw (h _ (H.setRow i hi _))
/-- A number is laid into a variable. -/
theorem wCell (t' : TypeId) (v : Value) (hs : (P.info? t').map (·.size) = some 1) (hc : v.cells = [v].toArray) (h1 : v.oneCell' = true) (H : SH F w0 w L) (i : Nat) {b off : Nat} {t : TypeId} {cs : List Value} (hi : L[i]? = some (.blk b t cs)) (hl : off + 1 ≤ cs.length) (new : List Value) (hn : lay cs off [v] = new) (p y : Operand) (ho : o.op = .store t' p y) (hx : a.eval p = .pointer (some ⟨b, off, none⟩)) (hy : a.eval y = v) (hw : Region.wanted o (yielded ops a.tmps) = true)
    (h : ∀ w', SH F w0 w' (L.set i (.blk b t new)) → wpList P ops Q rest (a.put o.dst undef) w') : wpList P ops Q (o :: rest) a w := by
  subst hn
  exact stepS (exec_lay t' p y ho b off hx [v] cs (by rw [hy]; exact hc) t (H.va i hi) (by simpa using hs) hl (fun u hu => by rw [List.mem_singleton.mp hu]; exact h1)) hw (h _ (H.setRow i hi _))
/-- A part of several cells is built, and laid. -/
theorem wLayV (t' : TypeId) (vs : List Value) (h1 : ∀ v ∈ vs, v.oneCell' = true) (hs : (P.info? t').map (·.size) = some vs.length) (H : SH F w0 w L) (i : Nat) {b off : Nat} {t : TypeId} {cs : List Value} (hi : L[i]? = some (.blk b t cs)) (hl : off + vs.length ≤ cs.length) (new : List Value) (hn : lay cs off vs = new) (p y : Operand) (ho : o.op = .store t' p y) (hx : a.eval p = .pointer (some ⟨b, off, none⟩)) (hy : a.eval y = .agg vs.toArray) (hw : Region.wanted o (yielded ops a.tmps) = true)
    (h : ∀ w', SH F w0 w' (L.set i (.blk b t new)) → wpList P ops Q rest (a.put o.dst undef) w') : wpList P ops Q (o :: rest) a w := by
  subst hn
  exact stepS (exec_lay t' p y ho b off hx vs cs (by rw [hy]; rfl) t (H.va i hi) hs hl h1) hw (h _ (H.setRow i hi _))
end
end Go.Proofs.YticfcelbnkiopaaDoor

namespace Go.Proofs.YticfcelbnkiopaaDoor
set_option maxRecDepth 100000
open Go.RowKit
variable {P : Program} {α : Type}

/-- The block of a row. -/
def rowF (v : Value) : Nat → Prop := fun k => v.ownBlock = some k
section
variable {F : Nat → Prop} {w0 w w' : World} {L : List Own}
/-- A callee that was handed a thing. -/
theorem SH.via (h : SH F w0 w L) (i : Nat) {o o' : Own} (hi : L[i]? = some o) (k : SH o.foot w w' [o']) : SH F w0 w' (L.set i o') :=
  h.change i hi k.chg o' (k.holds o' (List.mem_singleton.mpr rfl)) (fun b hb => k.foot o' (List.mem_singleton.mpr rfl) b hb)
theorem SH.row (T : Ty α) {v : Value} {xs : List α} (h : OR T w 0 v xs) : SH (rowF v) w w [.row T v xs] :=
  ⟨Chg.refl _ w, fun o ho => by rw [List.mem_singleton.mp ho]; exact h, fun o ho b hb => by rw [List.mem_singleton.mp ho] at hb; exact .inl hb, List.pairwise_singleton _ _⟩
theorem Chg.trans {a b c : World} (h : Chg F a b) (k : Below b.heap.size b c) : Chg F a c := ⟨k.os.trans h.os, k.tape.trans h.tape, k.output.trans h.output, Nat.le_trans h.size k.size, fun i hi hn => (k.block i (Nat.lt_of_lt_of_le hi h.size)).trans (h.block i hi hn)⟩
theorem SH.set {L' : List Own} (h : SH F w0 w L) (e : L = L') : SH F w0 w L' := e ▸ h
end

/-- append(v, ys...) -/
theorem run_append (T : Ty α) {W : World} (base : Nat) (t t2 : TypeId) (z : Value) (ht : P.underlying t = some (.slice T.id)) (hinfo : (P.info? T.id).map (fun i => (i.zero, i.size, i.bytes)) = some (some z, T.sz, T.bytes)) (hz : z.cells.size = T.sz)
    (v vy : Value) (xs ys : List α) (HO : OR T W base v xs) (HR : RR T W vy ys) (hbase : base ≤ W.heap.size) (hl : (xs.length + ys.length) * T.bytes ≤ 140737488355328) :
    ∃ v1 w1, (Builtin.append_ #[t, t] t2 #[v, vy]).run P W = .ok v1 w1 ∧ OR T w1 base v1 (xs ++ ys) ∧ W.grownBy w1 v.ownBlock ∧ (v1.ownBlock = v.ownBlock ∨ v1.ownBlock = some W.heap.size) := by
  obtain ⟨i0, hi, hzz⟩ := Option.map_eq_some_iff.1 hinfo
  simp only [Prod.mk.injEq] at hzz
  obtain ⟨hz0, hz1, hz2⟩ := hzz
  have hlen : xs.length + ys.length ≤ 140737488355328 := Nat.le_trans (Nat.le_mul_of_pos_right _ T.hby) hl
  obtain ⟨A, c, rfl, hc, hm, hcell⟩ := HR
  rcases Nat.eq_zero_or_pos ys.length with h0 | h0
  · obtain rfl : ys = [] := List.eq_nil_of_length_eq_zero h0
    refine ⟨v, W, ?_, by simpa using HO, World.grownBy.refl W _, .inl rfl⟩
    rcases HO.2 with ⟨rfl, hn⟩ | ⟨g, cap, cur, rfl, _, hgg, hnc, _, hcs, _⟩
    · cases A <;> simp [Builtin.append_, run_underlying ht, sizeOf, typeInfo, hi, Builtin.lenOf, Builtin.firstCells, loadCells, loadCellsFrom]
    · cases A <;> simp [Builtin.append_, run_underlying ht, sizeOf, typeInfo, hi, Builtin.lenOf, Builtin.firstCells, hnc, storeCells, loadCells, loadCellsFrom]
  · obtain ⟨ad, rfl, hcc⟩ := hcell h0
    obtain ⟨v1, w1, h1, h2, h3, _, h5⟩ := run_append_own_at (P := P) W base t t2 T.id i0 z T.sz T.bytes ht hi hz0 hz1 hz2 hz T.hsz v xs.length (T.all xs) HO ad ys.length c (T.all ys) (Ty.all_length ys) hcc (Ty.all_oneCell ys) (by simp only [maxLen]; omega) hl hbase
    exact ⟨v1, w1, h1, by unfold OR; rw [List.length_append, Ty.all_append]; exact h2, h3, h5⟩

/-- What append asks of a kind of elements. -/
structure ST (P : Program) (α : Type) extends Ty α where
  t : TypeId
  z : Value
  ht : P.underlying t = some (.slice id)
  hinfo : (P.info? id).map (fun i => (i.zero, i.size, i.bytes)) = some (some z, sz, bytes)
  hz : z.cells.size = sz

section
variable {ops : Array Oper} {rest : List Oper} {o : Oper} {a : Act} {Q : Exit → Act → World → Prop} {F : Nat → Prop} {w0 w : World} {L : List Own} {ρ : Operand → Value}
theorem exec_append (T : ST P α) (H : SH F w0 w L) (i : Nat) {v : Value} {xs : List α} (hi : L[i]? = some (.row T.toTy v xs)) (vy : Value) (ys : List α) (HR : RR T.toTy w vy ys) (hl : (xs.length + ys.length) * T.bytes ≤ 140737488355328)
    (s x : Operand) (ho : o.op = .call { callee := .builtin .append, args := #[s, x], argTypes := #[T.t, T.t] }) (hs : ρ s = v) (hx : ρ x = vy) :
    ∃ v1 w1, (execOp ρ o).run P w = .ok (.value v1) w1 ∧ SH F w0 w1 (L.set i (.row T.toTy v1 (xs ++ ys))) := by
  obtain ⟨v1, w1, h1, h2, h3, h4⟩ := run_append T.toTy 0 T.t o.type T.z T.ht T.hinfo T.hz v vy xs ys (H.or0 i hi) HR (Nat.zero_le _) hl
  refine ⟨v1, w1, ?_, H.grow i hi h2 h3 ?_⟩
  · unfold execOp
    simp only [ho, resolve, invoke, builtin, Sem.run_bind, Sem.run_pure, Result.andThen_ok, List.map_toArray, List.map_cons, List.map_nil, hs, hx, h1]
  · rcases h4 with h4 | h4
    · exact .inl h4
    · exact .inr ⟨_, h4, Nat.le_refl _⟩
theorem wAppend (T : ST P α) (H : SH F w0 w L) (i : Nat) {v : Value} {xs : List α} (hi : L[i]? = some (.row T.toTy v xs)) (vy : Value) (ys : List α) (HR : RR T.toTy w vy ys) (hl : (xs.length + ys.length) * T.bytes ≤ 140737488355328)
    (s x : Operand) (ho : o.op = .call { callee := .builtin .append, args := #[s, x], argTypes := #[T.t, T.t] }) (hs : a.eval s = v) (hx : a.eval x = vy) (hw : Region.wanted o (yielded ops a.tmps) = true)
    (h : ∀ v1 w1, SH F w0 w1 (L.set i (.row T.toTy v1 (xs ++ ys))) → wpList P ops Q rest (a.put o.dst v1) w1) : wpList P ops Q (o :: rest) a w := by
  obtain ⟨v1, w1, h1, h2⟩ := exec_append T H i hi vy ys HR hl s x ho hs hx
  exact stepV h1 hw (h v1 w1 h2)
/-- Behind a literal row. -/
theorem RR.lit (T : Ty α) (w : World) (ys : List α) (cs : Array Value) (hcs : cs.toList = T.all ys) (hm : ys.length ≤ 1000000000) : RR T (w.alloc (.cells cs T.id)) (.slice (some ⟨w.heap.size, 0, none⟩) ys.length ys.length) ys :=
  (OR.lit T w 0 ys cs hcs (Nat.zero_le _) (by omega)).reads
theorem wAppLit (T : ST P α) (ys : List α) (cs : Array Value) (hcs : cs.toList = T.all ys) (hm : ys.length ≤ 1000000000) (n : Nat) (hn : ys.length = n) (H : SH F w0 w L) (i : Nat) {v : Value} {xs : List α} (hi : L[i]? = some (.row T.toTy v xs)) (hl : (xs.length + n) * T.bytes ≤ 140737488355328)
    (s x : Operand) (ho : o.op = .call { callee := .builtin .append, args := #[s, x], argTypes := #[T.t, T.t] }) (hs : a.eval s = v) (hx : a.eval x = .slice (some ⟨w.heap.size, 0, none⟩) n n) (hw : Region.wanted o (yielded ops a.tmps) = true)
    (h : ∀ v1 w1, SH F w0 w1 (L.set i (.row T.toTy v1 (xs ++ ys))) → wpList P ops Q rest (a.put o.dst v1) w1) : wpList P ops Q (o :: rest) a (w.alloc (.cells cs T.id)) := by
  subst hn
  exact wAppend T (H.step (alloc_belowAt w _)) i hi _ ys (RR.lit T.toTy w ys cs hcs hm) hl s x ho hs hx hw h
/-- The same, at the operation. -/
theorem opV {K : Act → World → Prop} {w' : World} {v : Value} (hr : (execOp a.eval o).run P w = .ok (.value v) w') (h : K (a.put o.dst v) w') : o.wp P a w K Q := by
  unfold Oper.wp; rw [hr]; exact h
theorem oAppend {K : Act → World → Prop} (T : ST P α) (H : SH F w0 w L) (i : Nat) {v : Value} {xs : List α} (hi : L[i]? = some (.row T.toTy v xs)) (vy : Value) (ys : List α) (HR : RR T.toTy w vy ys) (hl : (xs.length + ys.length) * T.bytes ≤ 140737488355328)
    (s x : Operand) (ho : o.op = .call { callee := .builtin .append, args := #[s, x], argTypes := #[T.t, T.t] }) (hs : a.eval s = v) (hx : a.eval x = vy)
    (h : ∀ v1 w1, SH F w0 w1 (L.set i (.row T.toTy v1 (xs ++ ys))) → K (a.put o.dst v1) w1) : o.wp P a w K Q := by
  obtain ⟨v1, w1, h1, h2⟩ := exec_append T H i hi vy ys HR hl s x ho hs hx
  exact opV h1 (h v1 w1 h2)
theorem oAppLit {K : Act → World → Prop} (T : ST P α) (ys : List α) (cs : Array Value) (hcs : cs.toList = T.all ys) (hm : ys.length ≤ 1000000000) (n : Nat) (hn : ys.length = n) (H : SH F w0 w L) (i : Nat) {v : Value} {xs : List α} (hi : L[i]? = some (.row T.toTy v xs)) (hl : (xs.length + n) * T.bytes ≤ 140737488355328)
    (s x : Operand) (ho : o.op = .call { callee := .builtin .append, args := #[s, x], argTypes := #[T.t, T.t] }) (hs : a.eval s = v) (hx : a.eval x = .slice (some ⟨w.heap.size, 0, none⟩) n n)
    (h : ∀ v1 w1, SH F w0 w1 (L.set i (.row T.toTy v1 (xs ++ ys))) → K (a.put o.dst v1) w1) : o.wp P a (w.alloc (.cells cs T.id)) K Q := by
  subst hn
  exact oAppend T (H.step (alloc_belowAt w _)) i hi _ ys (RR.lit T.toTy w ys cs hcs hm) hl s x ho hs hx h
end

/-! A region that draws its order; S holds of each world on the way. -/
section
variable {ops : Array Oper} {Q : Exit → Act → World → Prop} {S : World → Prop}
theorem startS (S : World → Prop) {id : Nat} {a : Act} {w : World} (hm : P.follows .mixedOrders = true) (h0 : S w.drew) (h : wpAnyH P .any ops Q S ops.size (Array.replicate ops.size false) a w.drew) : (Code.region id ops true).wp P Q a w :=
  wp_region_held_drew (S := S) hm h0 (fun _ => h)
theorem takeS (i : Nat) {oi : Oper} {v : Value} {fuel : Nat} {listed : Array Bool} {a : Act} {w : World} (h0 : S w) (hi : ops.toList[i]? = some oi) (hs : Region.noSelect ops = true) (hf : Region.free .any ops listed i = true) (hr : (Region.ready .any ops listed).contains i = true)
    (hQ : ∀ c a w, Q (.panic c) (a.put oi.dst v) w → Q (.panic c) a w) (hw : Region.wanted oi (yielded ops a.tmps) = true)
    (hy : ∀ w', S w' → (execOp a.eval oi).run P w' = .ok (.value v) w') (h : wpAnyH P .any ops Q S fuel (listed.setIfInBounds i true) (a.put oi.dst v) w) : wpAnyH P .any ops Q S (fuel + 1) listed a w :=
  wpAnyH_take (by simpa using hi) hs hf hr hQ (.inl ⟨hw, hy⟩) h0 h
theorem skipS (i : Nat) {oi : Oper} {fuel : Nat} {listed : Array Bool} {a : Act} {w : World} (h0 : S w) (hi : ops.toList[i]? = some oi) (hs : Region.noSelect ops = true) (hf : Region.free .any ops listed i = true) (hr : (Region.ready .any ops listed).contains i = true)
    (hQ : ∀ c a w, Q (.panic c) (a.put oi.dst undef) w → Q (.panic c) a w) (hw : Region.wanted oi (yielded ops a.tmps) = false)
    (h : wpAnyH P .any ops Q S fuel (listed.setIfInBounds i true) (a.put oi.dst undef) w) : wpAnyH P .any ops Q S (fuel + 1) listed a w :=
  wpAnyH_take (by simpa using hi) hs hf hr hQ (.inr ⟨hw, rfl⟩) h0 h
theorem stepS' (i : Nat) {oi : Oper} {fuel : Nat} {listed : Array Bool} {a : Act} {w : World} (hi : ops.toList[i]? = some oi) (hr : Region.ready .any ops listed = [i]) (hw : Region.wanted oi (yielded ops a.tmps) = true)
    (h : ∀ K : Act → World → Prop, Shut (∀ a' w', S w' → wpAnyH P .any ops Q S fuel (listed.setIfInBounds i true) a' w' → K a' w') → oi.wp P a w K Q) : wpAnyH P .any ops Q S (fuel + 1) listed a w :=
  wpAnyH_ready hr (by simp) (AllReadyH.cons (by simpa using hi) (fun K hK => by rw [if_pos hw]; exact h K (fun a' w' hb he => hK a' w' hb (fun _ => he))) AllReadyH.nil)
theorem doneS {fuel : Nat} {listed : Array Bool} {a : Act} {w : World} (hr : Region.ready .any ops listed = []) (h : Q .normal a w) : wpAnyH P .any ops Q S fuel listed a w := wpAnyH_done hr h fuel
end

theorem u8_eqI (a b : UInt8) : ((a.toNat : Int) == (b.toNat : Int)) = (a == b) := by
  by_cases h : a = b
  · subst h; simp
  · have : ¬ (a.toNat : Int) = (b.toNat : Int) := fun e => h (UInt8.toNat_inj.mp (by omega))
    rw [beq_eq_false_iff_ne.mpr this, beq_eq_false_iff_ne.mpr h]
/-- []byte("..") of a constant. -/
theorem const_conv (w : World) (C : Array Value) (n c : Nat) : (convert 22 22 (.slice (some ⟨w.heap.size, 0, none⟩) n c)).run Tryd.prog (w.alloc (.cells C 5)) = .ok (.slice (some ⟨w.heap.size, 0, none⟩) n c) (w.alloc (.cells C 5 (C.size, C.size + 1))) :=
  Lib.run_convert_bytes_const w 22 5 C n c Tryd.underlying22 Tryd.underlying5
theorem const_rr (w : World) (ys : List UInt8) (cs : Array Value) (fr : Nat × Nat) (hcs : cs.toList = ys.map cb) (hm : ys.length ≤ 1000000000) : RB (w.alloc (.cells cs 5 fr)) (.slice (some ⟨w.heap.size, 0, none⟩) ys.length ys.length) ys :=
  ⟨_, _, rfl, Nat.le_refl _, by omega, fun _ => ⟨_, rfl, fun j u hu => by
    rw [Addr.add_mid, Nat.zero_add, World.cell?_alloc_mark, ← Array.getElem?_toList, hcs, ← U8_all]
    exact hu⟩⟩
/-! An operation's form, looked at reducibly. -/
section
variable {ops : Array Oper} {rest : List Oper} {Q : Exit → Act → World → Prop} {a : Act} {w : World} {d : Option Tmp} {ty t t2 : TypeId} {p : String} {af : Array Edge} {gd : Option (Nat × Bool)} {x y z : Operand}
theorem gBox (h : wpList P ops Q (⟨d, .box t x, ty, p, af, gd⟩ :: rest) a w) : wpList P ops Q (⟨d, .box t x, ty, p, af, gd⟩ :: rest) a w := h
theorem gAlloc (h : wpList P ops Q (⟨d, .alloc t, ty, p, af, gd⟩ :: rest) a w) : wpList P ops Q (⟨d, .alloc t, ty, p, af, gd⟩ :: rest) a w := h
theorem gLoad (h : wpList P ops Q (⟨d, .load t x, ty, p, af, gd⟩ :: rest) a w) : wpList P ops Q (⟨d, .load t x, ty, p, af, gd⟩ :: rest) a w := h
theorem gStore (h : wpList P ops Q (⟨d, .store t x y, ty, p, af, gd⟩ :: rest) a w) : wpList P ops Q (⟨d, .store t x y, ty, p, af, gd⟩ :: rest) a w := h
theorem gBuild {ps : Array (Nat × Operand)} (h : wpList P ops Q (⟨d, .build t ps, ty, p, af, gd⟩ :: rest) a w) : wpList P ops Q (⟨d, .build t ps, ty, p, af, gd⟩ :: rest) a w := h
theorem gBin {b : BinOp} (h : wpList P ops Q (⟨d, .binOp b t x y t2, ty, p, af, gd⟩ :: rest) a w) : wpList P ops Q (⟨d, .binOp b t x y t2, ty, p, af, gd⟩ :: rest) a w := h
theorem gMake (h : wpList P ops Q (⟨d, .makeSlice t x y, ty, p, af, gd⟩ :: rest) a w) : wpList P ops Q (⟨d, .makeSlice t x y, ty, p, af, gd⟩ :: rest) a w := h
theorem gIndex (h : wpList P ops Q (⟨d, .index t x y, ty, p, af, gd⟩ :: rest) a w) : wpList P ops Q (⟨d, .index t x y, ty, p, af, gd⟩ :: rest) a w := h
theorem gArr (h : wpList P ops Q (⟨d, .sliceToArrayPointer t x, ty, p, af, gd⟩ :: rest) a w) : wpList P ops Q (⟨d, .sliceToArrayPointer t x, ty, p, af, gd⟩ :: rest) a w := h
end
/-- Bytes. -/
def sB : ST Tryd.prog UInt8 := ⟨B8, 22, .int .u8 0, Tryd.underlying22, Tryd.info_u8, rfl⟩
end Go.Proofs.YticfcelbnkiopaaDoor

namespace Go.Proofs.YticfcelbnkiopaaDoor
set_option maxRecDepth 100000
open Go.RowKit
section
variable {P : Program} {ops : Array Oper} {Q : Exit → Act → World → Prop} {md : Region.Mode} {S : World → Prop} {W : Nat → Bool}

/-- Number j waits for number i, at once or by others. -/
def reachB (md : Region.Mode) (ops : Array Oper) : Nat → Nat → Nat → Bool
  | 0, _, _ => false
  | f + 1, j, i => ((ops[j]?).map fun o => o.after.any fun e => Region.binds md e && (e.on == i || reachB md ops f e.on i)).getD false
/-- Each writer waits for number i. -/
def waitsB (md : Region.Mode) (ops : Array Oper) (W : Nat → Bool) (i : Nat) : Bool := (List.range ops.size).all fun j => !W j || reachB md ops 4 j i
def Closed (md : Region.Mode) (ops : Array Oper) (listed : Array Bool) : Prop := ∀ (k : Nat) (o : Oper), ops[k]? = some o → listed.getD k false = true → ∀ e ∈ o.after, Region.binds md e = true → listed.getD e.on false = true
def closedB (md : Region.Mode) (ops : Array Oper) (listed : Array Bool) : Bool := (List.range ops.size).all fun k => !listed.getD k false || ((ops[k]?).map fun o => o.after.all fun e => !Region.binds md e || listed.getD e.on false).getD true
theorem closedB_spec {listed : Array Bool} (h : closedB md ops listed = true) : Closed md ops listed := fun k o hk hl e he hb => by
  simp only [closedB, List.all_eq_true, List.mem_range] at h
  have h1 := h k (Array.getElem?_eq_some_iff.1 hk).1
  rw [hl, hk] at h1
  simp only [Bool.not_true, Bool.false_or, Option.map_some, Option.getD_some, Array.all_eq_true_iff_forall_mem] at h1
  have h2 := h1 e he
  rw [hb] at h2
  simpa using h2
theorem Closed.set {listed : Array Bool} (h : Closed md ops listed) {j : Nat} (hj : j ∈ Region.ready md ops listed) : Closed md ops (listed.setIfInBounds j true) := fun k o hk hl e he hb => by
  obtain ⟨_, oj, hoj, hall⟩ := mem_ready.1 hj
  by_cases hjk : j = k
  · subst hjk
    rw [hoj] at hk
    injection hk with hk
    subst hk
    exact getD_set_true (hall e he hb)
  · rw [getD_set_ne false hjk] at hl
    exact getD_set_true (h k o hk hl e he hb)
theorem reachB_spec {listed : Array Bool} (h : Closed md ops listed) {i : Nat} : ∀ (f j : Nat) (o : Oper), ops[j]? = some o → (∀ e ∈ o.after, Region.binds md e = true → listed.getD e.on false = true) → reachB md ops f j i = true → listed.getD i false = true
  | 0, _, _, _, _, hr => by simp [reachB] at hr
  | f + 1, j, o, ho, hall, hr => by
    rw [reachB, ho] at hr
    simp only [Option.map_some, Option.getD_some] at hr
    obtain ⟨e, he, hb⟩ := Array.any_eq_true'.1 hr
    simp only [Bool.and_eq_true, Bool.or_eq_true, beq_iff_eq] at hb
    have hl := hall e he hb.1
    rcases hb.2 with h1 | h1
    · rw [← h1]; exact hl
    · cases ho2 : ops[e.on]? with
      | none =>
        cases f with
        | zero => simp [reachB] at h1
        | succ f => rw [reachB, ho2] at h1; simp at h1
      | some o2 => exact reachB_spec h f e.on o2 ho2 (h e.on o2 ho2 hl) h1
theorem waitsB_spec {i : Nat} (h : waitsB md ops W i = true) {listed : Array Bool} (hc : Closed md ops listed) {j : Nat} (hj : j ∈ Region.ready md ops listed) (hW : W j = true) : listed.getD i false = true := by
  obtain ⟨_, oj, hoj, hall⟩ := mem_ready.1 hj
  simp only [waitsB, List.all_eq_true, List.mem_range] at h
  have h1 := h j (Array.getElem?_eq_some_iff.1 hoj).1
  rw [hW] at h1
  simp only [Bool.not_true, Bool.false_or] at h1
  exact reachB_spec hc 4 j oj hoj hall h1
/-- Whatever order: an operation that is no writer keeps S. -/
def wpAnyL (P : Program) (md : Region.Mode) (ops : Array Oper) (Q : Exit → Act → World → Prop) (S : World → Prop) (W : Nat → Bool) : Nat → Array Bool → Act → World → Prop
  | 0, listed, a, w => Region.ready md ops listed = [] ∧ Q .normal a w
  | fuel + 1, listed, a, w =>
    (Region.ready md ops listed = [] → Q .normal a w) ∧
    ∀ i ∈ Region.ready md ops listed, wpOp P ops Q i (fun a' w' => (W i = false → S w → S w') ∧ wpAnyL P md ops Q S W fuel (listed.setIfInBounds i true) a' w') a w
theorem wpAny_of_L : ∀ (fuel : Nat) (listed : Array Bool) (a : Act) (w : World), wpAnyL P md ops Q S W fuel listed a w → wpAny P md ops Q fuel listed a w
  | 0, _, _, _, h => h
  | fuel + 1, _, _, _, h => ⟨h.1, fun i hi => wpOp_mono (fun a' w' h' => wpAny_of_L fuel _ a' w' h'.2) (h.2 i hi)⟩
theorem wpAnyL_first {T : World → Prop} {i : Nat} {oi : Oper} {v : Value} (hi : ops[i]? = some oi) (hT : ∀ (j : Nat) (listed : Array Bool) (w w' : World), Closed md ops listed → j ∈ Region.ready md ops listed → listed.getD i true = false → (W j = false → S w → S w') → T w → T w') (hsel : ∀ (j : Nat) (o : Oper) cs b, ops[j]? = some o → o.op ≠ .select cs b)
    (hQ : ∀ c a w, Q (.panic c) (a.put oi.dst v) w → Q (.panic c) a w) :
    ∀ (fuel : Nat) (listed : Array Bool) (a : Act) (w : World),
      (∀ j oj, ops[j]? = some oj → j ≠ i → listed.getD j true = false → (∀ e ∈ oj.after, Region.binds md e = true → e.on ≠ i) → oi.apart ops oj = true) →
      Closed md ops listed → i ∈ Region.ready md ops listed → YieldsIf P ops T oi v a → T w →
      wpAnyL P md ops Q S W fuel (listed.setIfInBounds i true) (a.put oi.dst v) w → wpAnyL P md ops Q S W (fuel + 1) listed a w := by
  intro fuel
  induction fuel with
  | zero =>
    intro listed a w _ hcl hr hy hS H
    refine ⟨fun h => (by rw [h] at hr; cases hr), fun j hj => ?_⟩
    by_cases hji : j = i
    · subst hji; exact hy.wpOp hi hS ⟨fun _ h => h, H⟩
    · have := ready_mono hj hji
      rw [H.1] at this
      cases this
  | succ fuel ih =>
    intro listed a w hfree hcl hr hy hS H
    refine ⟨fun h => (by rw [h] at hr; cases hr), fun j hj => ?_⟩
    by_cases hji : j = i
    · subst hji; exact hy.wpOp hi hS ⟨fun _ h => h, H⟩
    · have h1 := H.2 j (ready_mono hj hji)
      obtain ⟨hjun, oj, hoj, hall⟩ := mem_ready.1 hj
      have hnot : ∀ e ∈ oj.after, Region.binds md e = true → e.on ≠ i := fun e he hb heq => by
        have h1 := hall e he hb
        have h0 := (mem_ready.1 hr).1
        rw [heq] at h1
        rcases Nat.lt_or_ge i listed.size with h' | h'
        · simp [h'] at h0 h1; rw [h0] at h1; cases h1
        · simp [Array.getElem?_eq_none h'] at h1
      have h2 := wpOp_putIf hoj (hfree j oj hoj hji hjun hnot) (fun cs b => hsel i oi cs b hi) (fun cs b => hsel j oj cs b hoj) hQ hy h1
      have hfree' : ∀ k ok, ops[k]? = some ok → k ≠ i → (listed.setIfInBounds j true).getD k true = false →
          (∀ e ∈ ok.after, Region.binds md e = true → e.on ≠ i) → oi.apart ops ok = true := fun k ok hk hki hun hno => by
        refine hfree k ok hk hki ?_ hno
        by_cases hjk : j = k
        · subst hjk; exact hjun
        · rw [getD_set_ne true hjk] at hun; exact hun
      refine wpOp_mono (fun a' w' h3 => ⟨h3.2.1, ih (listed.setIfInBounds j true) a' w' hfree' (hcl.set hj) (ready_mono hr (Ne.symm hji)) h3.1 (hT j listed w w' hcl hj (mem_ready.1 hr).1 h3.2.1 hS) ?_⟩) h2
      rw [Array.setIfInBounds_comm _ _ hji]
      exact h3.2.2

theorem startL (S : World → Prop) (W : Nat → Bool) {id : Nat} {a : Act} {w : World} (hm : P.follows .mixedOrders = true) (h : wpAnyL P .any ops Q S W ops.size (Array.replicate ops.size false) a w.drew) : (Code.region id ops true).wp P Q a w :=
  wp_region_any hm (wpAny_of_L _ _ _ _ h)
/-- What is read in worlds of S. -/
theorem takeL (i : Nat) {oi : Oper} {v : Value} {fuel : Nat} {listed : Array Bool} {a : Act} {w : World} (h0 : S w) (hi : ops.toList[i]? = some oi) (hWt : waitsB .any ops W i = true) (hs : Region.noSelect ops = true) (hf : Region.free .any ops listed i = true) (hr : (Region.ready .any ops listed).contains i = true) (hcl : closedB .any ops listed = true)
    (hQ : ∀ c a w, Q (.panic c) (a.put oi.dst v) w → Q (.panic c) a w) (hw : Region.wanted oi (yielded ops a.tmps) = true)
    (hy : ∀ w', S w' → (execOp a.eval oi).run P w' = .ok (.value v) w') (h : wpAnyL P .any ops Q S W fuel (listed.setIfInBounds i true) (a.put oi.dst v) w) : wpAnyL P .any ops Q S W (fuel + 1) listed a w :=
  have hi2 : ops[i]? = some oi := by simpa using hi
  wpAnyL_first (T := S) hi2 (fun j listed w w' hc hj hi0 hk hS => by
    cases hWj : W j with
    | false => exact hk hWj hS
    | true =>
      have h1 := waitsB_spec hWt hc hj hWj
      rcases Nat.lt_or_ge i listed.size with h' | h'
      · simp [h'] at hi0 h1; rw [hi0] at h1; cases h1
      · simp [Array.getElem?_eq_none h'] at h1) (Region.noSelect_spec hs) hQ fuel listed a w (Region.free_spec hi2 hf) (closedB_spec hcl) (by simpa using hr) (.inl ⟨hw, hy⟩) h0 h
/-- What is told in every world. -/
theorem takeP (i : Nat) {oi : Oper} {v : Value} {fuel : Nat} {listed : Array Bool} {a : Act} {w : World} (hi : ops.toList[i]? = some oi) (hs : Region.noSelect ops = true) (hf : Region.free .any ops listed i = true) (hr : (Region.ready .any ops listed).contains i = true) (hcl : closedB .any ops listed = true)
    (hQ : ∀ c a w, Q (.panic c) (a.put oi.dst v) w → Q (.panic c) a w) (hw : Region.wanted oi (yielded ops a.tmps) = true)
    (hy : ∀ w', (execOp a.eval oi).run P w' = .ok (.value v) w') (h : wpAnyL P .any ops Q S W fuel (listed.setIfInBounds i true) (a.put oi.dst v) w) : wpAnyL P .any ops Q S W (fuel + 1) listed a w :=
  have hi2 : ops[i]? = some oi := by simpa using hi
  wpAnyL_first (T := fun _ => True) hi2 (fun _ _ _ _ _ _ _ _ _ => trivial) (Region.noSelect_spec hs) hQ fuel listed a w (Region.free_spec hi2 hf) (closedB_spec hcl) (by simpa using hr) (.inl ⟨hw, fun w' _ => hy w'⟩) trivial h
theorem skipL (i : Nat) {oi : Oper} {fuel : Nat} {listed : Array Bool} {a : Act} {w : World} (hi : ops.toList[i]? = some oi) (hs : Region.noSelect ops = true) (hf : Region.free .any ops listed i = true) (hr : (Region.ready .any ops listed).contains i = true) (hcl : closedB .any ops listed = true)
    (hQ : ∀ c a w, Q (.panic c) (a.put oi.dst undef) w → Q (.panic c) a w) (hw : Region.wanted oi (yielded ops a.tmps) = false)
    (h : wpAnyL P .any ops Q S W fuel (listed.setIfInBounds i true) (a.put oi.dst undef) w) : wpAnyL P .any ops Q S W (fuel + 1) listed a w :=
  have hi2 : ops[i]? = some oi := by simpa using hi
  wpAnyL_first (T := fun _ => True) hi2 (fun _ _ _ _ _ _ _ _ _ => trivial) (Region.noSelect_spec hs) hQ fuel listed a w (Region.free_spec hi2 hf) (closedB_spec hcl) (by simpa using hr) (.inr ⟨hw, rfl⟩) trivial h
theorem stepL (i : Nat) {oi : Oper} {fuel : Nat} {listed : Array Bool} {a : Act} {w : World} (hi : ops.toList[i]? = some oi) (hr : Region.ready .any ops listed = [i]) (hw : Region.wanted oi (yielded ops a.tmps) = true)
    (h : ∀ K : Act → World → Prop, Shut (∀ a' w', (W i = false → S w → S w') → wpAnyL P .any ops Q S W fuel (listed.setIfInBounds i true) a' w' → K a' w') → oi.wp P a w K Q) : wpAnyL P .any ops Q S W (fuel + 1) listed a w := by
  have hi2 : ops[i]? = some oi := by simpa using hi
  refine ⟨fun h0 => (by rw [h0] at hr; cases hr), fun j hj => ?_⟩
  rw [hr] at hj
  obtain rfl := List.mem_singleton.mp hj
  unfold wpOp
  simp only [hi2, hw, if_true]
  exact .inl (h _ (fun a' w' h1 h2 => ⟨h1, h2⟩))
theorem doneL {fuel : Nat} {listed : Array Bool} {a : Act} {w : World} (hr : Region.ready .any ops listed = []) (h : Q .normal a w) : wpAnyL P .any ops Q S W fuel listed a w := by
  cases fuel with
  | zero => exact ⟨hr, h⟩
  | succ fuel => exact ⟨fun _ => h, by rw [hr]; simp⟩
end
section
variable {P : Program} {ops : Array Oper} {o : Oper} {a : Act} {Q : Exit → Act → World → Prop} {F : Nat → Prop} {w0 w : World} {L : List Own} {K : Act → World → Prop}
theorem opS {w' : World} (hr : (execOp a.eval o).run P w = .ok .skip w') (h : K (a.put o.dst undef) w') : o.wp P a w K Q := by
  unfold Oper.wp; rw [hr]; exact h
theorem oCell (t' : TypeId) (v : Value) (hs : (P.info? t').map (·.size) = some 1) (hc : v.cells = [v].toArray) (h1 : v.oneCell' = true) (H : SH F w0 w L) (i : Nat) {b off : Nat} {t : TypeId} {cs : List Value} (hi : L[i]? = some (.blk b t cs)) (hl : off + 1 ≤ cs.length) (new : List Value) (hn : lay cs off [v] = new) (p y : Operand) (ho : o.op = .store t' p y) (hx : a.eval p = .pointer (some ⟨b, off, none⟩)) (hy : a.eval y = v)
    (h : ∀ w', SH F w0 w' (L.set i (.blk b t new)) → K (a.put o.dst undef) w') : o.wp P a w K Q := by
  subst hn
  exact opS (exec_lay t' p y ho b off hx [v] cs (by rw [hy]; exact hc) t (H.va i hi) (by simpa using hs) hl (fun u hu => by rw [List.mem_singleton.mp hu]; exact h1)) (h _ (H.setRow i hi _))
end
section
variable {P : Program} {ops : Array Oper} {rest : List Oper} {o : Oper} {a : Act} {Q : Exit → Act → World → Prop} {F : Nat → Prop} {w0 w : World} {L : List Own}
/-- A number is put into a variable of its own. -/
theorem wBox1 (t : TypeId) (v : Value) (hc : v.cells = [v].toArray) (H : SH F w0 w L) (y : Operand) (ho : o.op = .box t y) (hx : a.eval y = v) (hw : Region.wanted o (yielded ops a.tmps) = true)
    (h : ∀ w', SH F w0 w' (.blk w.heap.size t [v] :: L) → wpList P ops Q rest (a.put o.dst (.pointer (some ⟨w.heap.size, 0, none⟩))) w') : wpList P ops Q (o :: rest) a w := by
  refine stepV (w' := w.alloc (.cells v.cells t)) ?_ hw (h _ (by rw [hc]; exact H.new t [v]))
  unfold execOp
  simp only [ho, hx]
  rfl
theorem wAlloc1 (t : TypeId) (z : Value) (hz : (P.info? t).map (·.zero) = some (some z)) (hc : z.cells = [z].toArray) (H : SH F w0 w L) (ho : o.op = .alloc t) (hw : Region.wanted o (yielded ops a.tmps) = true)
    (h : ∀ w', SH F w0 w' (.blk w.heap.size t [z] :: L) → wpList P ops Q rest (a.put o.dst (.pointer (some ⟨w.heap.size, 0, none⟩))) w') : wpList P ops Q (o :: rest) a w :=
  stepV (exec_alloc t ho z [z] hz hc) hw (h _ (H.new t [z]))
end
end Go.Proofs.YticfcelbnkiopaaDoor

namespace Go.Proofs.YticfcelbnkiopaaDoor
set_option maxRecDepth 100000
open Go.RowKit
section
variable {ops : Array Oper} {rest : List Oper} {o : Oper} {a : Act} {Q : Exit → Act → World → Prop} {w : World}
theorem appRoom (s x : Operand) (g n cap : Nat) (L ys : List UInt8) (vy : Value) (HV : VA w g 5 (L.map cb)) (HR : RB w vy ys) (hp : 0 < ys.length) (hcap : cap ≤ L.length) (hroom : n + ys.length ≤ cap)
    (hgd : o.guard = none) (ho : o.op = .call { callee := .builtin .append, args := #[s, x], argTypes := #[22, 22] }) (hs : a.eval s = .slice (some ⟨g, 0, none⟩) n cap) (hx : a.eval x = vy)
    (h : ∀ w', VA w' g 5 ((L.take n ++ ys ++ L.drop (n + ys.length)).map cb) → w.grownBy w' (some g) → wpList Tryd.prog ops Q rest (a.put o.dst (.slice (some ⟨g, 0, none⟩) (n + ys.length) cap)) w') :
    wpList Tryd.prog ops Q (o :: rest) a w := by
  obtain ⟨A, c, rfl, hc, hm, hcell⟩ := HR
  obtain ⟨ad, rfl, hcc⟩ := hcell hp
  obtain ⟨i0, hi, hz⟩ := Option.map_eq_some_iff.1 Tryd.info_u8
  simp only [Prod.mk.injEq] at hz
  obtain ⟨_, hz1, _⟩ := hz
  have hone : ∀ u ∈ ys.map cb, u.oneCell' = true := by
    intro u hu
    obtain ⟨y, _, rfl⟩ := List.mem_map.mp hu
    rfl
  rw [U8_all] at hcc
  have hr := run_append_room (P := Tryd.prog) w 22 o.type 5 i0 Tryd.underlying22 hi g n cap (L.map cb).toArray HV ad ys.length c (ys.map cb) (by rw [hz1]; simp) hcc hone hroom (by rw [hz1]; simp; omega)
  have e1 : (L.map cb).toArray.toList.take (n * i0.size) ++ ys.map cb ++ (L.map cb).toArray.toList.drop (n * i0.size + (ys.map cb).length) = (L.take n ++ ys ++ L.drop (n + ys.length)).map cb := by
    rw [hz1]
    simp
  rw [e1] at hr
  refine wpList_plain hgd fun K hK => ?_
  unfold Oper.wp execOp
  simp only [ho, resolve, invoke, builtin, Sem.run_bind, Sem.run_pure, Result.andThen_ok, List.map_toArray, List.map_cons, List.map_nil, hs, hx, hr]
  exact hK _ _ (h _ (HV.set _) (setRow_grown _ _ _))
/-- make([]byte, 0, n). -/
theorem exec_make0 {ρ : Operand → Value} (n : Nat) (h63 : n ≤ 1000000) (l c : Operand) (ho : o.op = .makeSlice 22 l c) (hl : ρ l = .int .i64 0) (hc : ρ c = .int .i64 (n : Int)) :
    (execOp ρ o).run Tryd.prog w = .ok (.value (.slice (some ⟨w.heap.size, 0, none⟩) 0 n)) (w.alloc (.cells ((List.replicate n (0 : UInt8)).map cb).toArray 5)) := by
  obtain ⟨i0, hi, hz0, hz1, hz2⟩ := info_parts Tryd.info_u8
  have h := run_make (P := Tryd.prog) w 22 5 i0 (.int .u8 0) Tryd.underlying22 hi hz0 .i64 .i64 0 (n : Int) (by omega) (by omega) (by rw [hz2]; omega) (by omega)
  have e1 : (madeCells #[.int .u8 0] n) = ((List.replicate n (0 : UInt8)).map cb).toArray := by
    apply Array.toList_inj.mp
    rw [toList_madeCells_one]
    simp
  have e2 : ((n : Int)).toNat = n := by omega
  rw [hz1, Nat.mul_one, e2] at h
  unfold execOp
  simp only [ho, hl, hc, h, Sem.run_bind, Sem.run_pure, Result.andThen_ok]
  rw [show (Value.int IntKind.u8 0).cells = #[.int .u8 0] from rfl, e1]
  rfl
theorem wpMake0 (n : Nat) (h63 : n ≤ 1000000) (l c : Operand) (ho : o.op = .makeSlice 22 l c) (hl : a.eval l = .int .i64 0) (hc : a.eval c = .int .i64 (n : Int)) (hw : Region.wanted o (yielded ops a.tmps) = true)
    (h : ∀ w', VA w' w.heap.size 5 ((List.replicate n (0 : UInt8)).map cb) → Below w.heap.size w w' → wpList Tryd.prog ops Q rest (a.put o.dst (.slice (some ⟨w.heap.size, 0, none⟩) 0 n)) w') : wpList Tryd.prog ops Q (o :: rest) a w :=
  stepV (exec_make0 n h63 l c ho hl hc) hw (h _ (VA.new w _ _) (alloc_belowAt w _))
/-- A block of the call's own, read as a row. -/
theorem OB.ofVA {base g : Nat} {xs : List UInt8} (h : VA w g 5 (xs.map cb)) (hb : base ≤ g) (hm : xs.length ≤ 1000000000) : OB w base (.slice (some ⟨g, 0, none⟩) xs.length xs.length) xs := by
  refine ⟨by rw [U8_all]; simp [U8], .inr ⟨g, xs.length, _, rfl, hb, h, Nat.le_refl _, by simp [maxLen]; omega, by simp [U8], by rw [U8_all]; simp only [U8, Nat.mul_one]; rw [List.take_of_length_le (by simp)]⟩⟩
end
end Go.Proofs.YticfcelbnkiopaaDoor
