/- Bits of bytes and of words, as Lean's own. -/
import Derived.Laws.BitsLemmas
import Derived.Tactics
namespace Go.Proofs.Ytfnneneaalaagaa

theorem bits_nats (k : IntKind) (hk : k.signed = false) (a b : Nat) (ha : a < 2 ^ k.bits) (hb : b < 2 ^ k.bits) :
    bits .and k a b = ((a &&& b : Nat) : Int) ∧ bits .or k a b = ((a ||| b : Nat) : Int) ∧ bits .xor k a b = ((a ^^^ b : Nat) : Int) := by
  have ha' : a % 2 ^ k.bits = a := Nat.mod_eq_of_lt ha
  have hb' : b % 2 ^ k.bits = b := Nat.mod_eq_of_lt hb
  have hw : ∀ n : Nat, n < 2 ^ k.bits → k.wrap (n : Int) = n := fun n h => by
    unfold IntKind.wrap
    rw [hk]
    simp only [Bool.false_and, if_false, Bool.false_eq_true]
    exact Int.emod_eq_of_lt (Int.natCast_nonneg _) (by exact_mod_cast h)
  refine ⟨?_, ?_, ?_⟩
  · simp only [bits, BitVec.ofInt_natCast, BitVec.toNat_and, BitVec.toNat_ofNat, ha', hb']
    exact hw _ (Nat.and_lt_two_pow _ hb)
  · simp only [bits, BitVec.ofInt_natCast, BitVec.toNat_or, BitVec.toNat_ofNat, ha', hb']
    exact hw _ (Nat.or_lt_two_pow ha hb)
  · simp only [bits, BitVec.ofInt_natCast, BitVec.toNat_xor, BitVec.toNat_ofNat, ha', hb']
    exact hw _ (Nat.xor_lt_two_pow ha hb)

theorem xor8 (a b : UInt8) : bits .xor .u8 (a.toNat : Int) (b.toNat : Int) = ((a ^^^ b).toNat : Int) := by
  rw [(bits_nats .u8 rfl a.toNat b.toNat a.toNat_lt b.toNat_lt).2.2, UInt8.toNat_xor]
theorem and8 (a b : UInt8) : bits .and .u8 (a.toNat : Int) (b.toNat : Int) = ((a &&& b).toNat : Int) := by
  rw [(bits_nats .u8 rfl a.toNat b.toNat a.toNat_lt b.toNat_lt).1, UInt8.toNat_and]
theorem or8 (a b : UInt8) : bits .or .u8 (a.toNat : Int) (b.toNat : Int) = ((a ||| b).toNat : Int) := by
  rw [(bits_nats .u8 rfl a.toNat b.toNat a.toNat_lt b.toNat_lt).2.1, UInt8.toNat_or]

theorem or128 (m : Nat) : bits .or .u8 ((m : Int) % 256) 128 = ((UInt8.ofNat (m % 128 + 128)).toNat : Int) := by
  have h := (bits_nats .u8 rfl (m % 256) 128 (by show _ < 256; omega) (by decide)).2.1
  have e : (((m % 256 : Nat) : Int)) = (m : Int) % 256 := by omega
  rw [e] at h
  rw [show (128 : Int) = ((128 : Nat) : Int) from rfl, h]
  congr 1
  have h2 : ∀ q : Nat, q < 256 → q ||| 128 = (UInt8.ofNat (q % 128 + 128)).toNat := by decide +kernel
  rw [h2 _ (Nat.mod_lt _ (by omega))]
  congr 2
  omega
theorem or_add (i a b : Nat) (h : a < 2 ^ i) : a ||| (b * 2 ^ i) = a + b * 2 ^ i := by
  rw [Nat.or_comm, Nat.mul_comm, ← Nat.two_pow_add_eq_or_of_lt h b, Nat.add_comm]
theorem or32 (b0 b1 b2 b3 : UInt8) : bits .or .u32 (bits .or .u32 (bits .or .u32 ((b0.toNat : Int) % 4294967296) ((b1.toNat : Int) % 4294967296 * 256 % 4294967296)) ((b2.toNat : Int) % 4294967296 * 65536 % 4294967296)) ((b3.toNat : Int) % 4294967296 * 16777216 % 4294967296) =
    ((b0.toNat + b1.toNat * 256 + b2.toNat * 65536 + b3.toNat * 16777216 : Nat) : Int) := by
  have h0 := b0.toNat_lt
  have h1 := b1.toNat_lt
  have h2 := b2.toNat_lt
  have h3 := b3.toNat_lt
  rw [show (b0.toNat : Int) % 4294967296 = (b0.toNat : Int) by omega, show (b1.toNat : Int) % 4294967296 * 256 % 4294967296 = ((b1.toNat * 2 ^ 8 : Nat) : Int) by omega,
    show (b2.toNat : Int) % 4294967296 * 65536 % 4294967296 = ((b2.toNat * 2 ^ 16 : Nat) : Int) by omega, show (b3.toNat : Int) % 4294967296 * 16777216 % 4294967296 = ((b3.toNat * 2 ^ 24 : Nat) : Int) by omega]
  rw [(bits_nats .u32 rfl b0.toNat (b1.toNat * 2 ^ 8) (by show _ < 4294967296; omega) (by show _ < 4294967296; omega)).2.1, or_add 8 _ _ (by omega)]
  rw [(bits_nats .u32 rfl _ (b2.toNat * 2 ^ 16) (by show _ < 4294967296; omega) (by show _ < 4294967296; omega)).2.1, or_add 16 _ _ (by omega)]
  rw [(bits_nats .u32 rfl _ (b3.toNat * 2 ^ 24) (by show _ < 4294967296; omega) (by show _ < 4294967296; omega)).2.1, or_add 24 _ _ (by omega)]
theorem and128 (c : UInt8) : bits .and .u8 (c.toNat : Int) 128 = if c.toNat < 128 then 0 else 128 := by
  rw [show (128 : Int) = (((128 : UInt8).toNat : Nat) : Int) from rfl, and8]
  have h : ∀ q : Nat, q < 256 → (UInt8.ofNat q &&& 128).toNat = if q < 128 then 0 else 128 := by decide +kernel
  have e : c = UInt8.ofNat c.toNat := by simp
  rw [e, h _ c.toNat_lt]
  simp only [UInt8.toNat_ofNat', Nat.mod_eq_of_lt c.toNat_lt]
  split <;> rfl
theorem andNot128 (c : UInt8) : bits .andNot .u8 (c.toNat : Int) 128 = ((c.toNat % 128 : Nat) : Int) := by
  have h : ∀ q : Fin 256, bits .andNot .u8 ((q.val : Nat) : Int) 128 = ((q.val % 128 : Nat) : Int) := by decide +kernel
  exact h ⟨c.toNat, c.toNat_lt⟩
theorem or64 (acc k c : Nat) (hk : k ≤ 8 ∨ (k = 9 ∧ c % 128 ≤ 1)) (ha : acc < 128 ^ k) : bits .or .u64 (acc : Int) (IntKind.u64.wrap ((c : Int) % 128 * 2 ^ (7 * k))) = ((acc + c % 128 * 128 ^ k : Nat) : Int) := by
  have hp : (2 : Nat) ^ (7 * k) = 128 ^ k := by rw [Nat.pow_mul]
  have h8 : (128 : Nat) ^ 8 = 72057594037927936 := by decide
  have hb : c % 128 * 128 ^ k ≤ 9223372036854775808 ∧ 128 ^ k ≤ 9223372036854775808 := by
    rcases hk with hk | ⟨rfl, hc⟩
    · have h1 : (128 : Nat) ^ k ≤ 128 ^ 8 := Nat.pow_le_pow_right (by omega) hk
      have h2 : c % 128 * 128 ^ k ≤ 127 * 128 ^ 8 := Nat.mul_le_mul (by omega) h1
      omega
    · have h2 : c % 128 * 128 ^ 9 ≤ 1 * 128 ^ 9 := Nat.mul_le_mul_right _ hc
      omega
  have e1 : ((c : Int) % 128 * 2 ^ (7 * k)) = ((c % 128 * 128 ^ k : Nat) : Int) := by
    rw [← hp]; simp
  have ew : IntKind.u64.wrap ((c % 128 * 128 ^ k : Nat) : Int) = ((c % 128 * 128 ^ k : Nat) : Int) := by
    generalize c % 128 * 128 ^ k = q at hb
    simp only [IntKind.wrap, IntKind.bits, IntKind.signed, Bool.false_and, Bool.false_eq_true, if_false]
    omega
  rw [e1, ew, (bits_nats .u64 rfl acc (c % 128 * 128 ^ k) (by show _ < 18446744073709551616; omega) (by show _ < 18446744073709551616; omega)).2.1, ← hp, or_add (7 * k) _ _ (by rw [hp]; exact ha)]
theorem low8 (m : Nat) : (m : Int) % 256 = ((UInt8.ofNat m).toNat : Int) := by simp [UInt8.toNat_ofNat']
theorem low8' (m : Nat) (h : m < 256) : (m : Int) = ((UInt8.ofNat m).toNat : Int) := by
  rw [UInt8.toNat_ofNat', Nat.mod_eq_of_lt h]
theorem xor255 (x : UInt8) : bits .xor .u8 (x.toNat : Int) 255 = ((x ^^^ 255).toNat : Int) := xor8 x 255
theorem xor255' (x : UInt8) : bits .xor .u8 ((x ^^^ 255).toNat : Int) 255 = (x.toNat : Int) := by
  rw [show (255 : Int) = (((255 : UInt8).toNat : Nat) : Int) from rfl, xor8, UInt8.xor_assoc]
  simp
end Go.Proofs.Ytfnneneaalaagaa
