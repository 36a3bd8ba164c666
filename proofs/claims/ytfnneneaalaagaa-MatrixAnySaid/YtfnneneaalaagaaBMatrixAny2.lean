/- Ground of the statement MatrixAny, part 2: Bits, FieldLaw, NumLaw, Field, FieldPoly, Field2, Mx3, Mx4, Mx5, Mx6, Mx7, Mx12, Mx13, Mx14, Mx15, Mx20. -/
import Derived.Laws.BitsLemmas
import Derived.Tactics
import Derived.StillTailTactics
import Derived.Conc.MuLone
import Derived.Test.YtfnneneaalaagaaBMatrixAny1
namespace Go.Proofs.Ytfnneneaalaagaa
set_option maxRecDepth 100000

theorem bits_nats (k : IntKind) (hk : k.signed = false) (a b : Nat) (ha : a < 2 ^ k.bits) (hb : b < 2 ^ k.bits) :
    bits .and k a b = ((a &&& b : Nat) : Int) ∧ bits .or k a b = ((a ||| b : Nat) : Int) ∧ bits .xor k a b = ((a ^^^ b : Nat) : Int) := by
  have ha' : a % 2 ^ k.bits = a := Nat.mod_eq_of_lt ha
  have hb' : b % 2 ^ k.bits = b := Nat.mod_eq_of_lt hb
  have hw : ∀ n : Nat, n < 2 ^ k.bits → k.wrap (n : Int) = n := fun n h => by
    unfold IntKind.wrap
    rw [hk]
    simp only [Bool.false_and, if_false, Bool.false_eq_true]
    exact Int.emod_eq_of_lt (Int.natCast_nonneg _) (by exact_mod_cast h)
  refine ⟨?_, ?_, ?_⟩
  · simp only [bits, BitVec.ofInt_natCast, BitVec.toNat_and, BitVec.toNat_ofNat, ha', hb']
    exact hw _ (Nat.and_lt_two_pow _ hb)
  · simp only [bits, BitVec.ofInt_natCast, BitVec.toNat_or, BitVec.toNat_ofNat, ha', hb']
    exact hw _ (Nat.or_lt_two_pow ha hb)
  · simp only [bits, BitVec.ofInt_natCast, BitVec.toNat_xor, BitVec.toNat_ofNat, ha', hb']
    exact hw _ (Nat.xor_lt_two_pow ha hb)

theorem xor8 (a b : UInt8) : bits .xor .u8 (a.toNat : Int) (b.toNat : Int) = ((a ^^^ b).toNat : Int) := by
  rw [(bits_nats .u8 rfl a.toNat b.toNat a.toNat_lt b.toNat_lt).2.2, UInt8.toNat_xor]
theorem and8 (a b : UInt8) : bits .and .u8 (a.toNat : Int) (b.toNat : Int) = ((a &&& b).toNat : Int) := by
  rw [(bits_nats .u8 rfl a.toNat b.toNat a.toNat_lt b.toNat_lt).1, UInt8.toNat_and]
theorem or8 (a b : UInt8) : bits .or .u8 (a.toNat : Int) (b.toNat : Int) = ((a ||| b).toNat : Int) := by
  rw [(bits_nats .u8 rfl a.toNat b.toNat a.toNat_lt b.toNat_lt).2.1, UInt8.toNat_or]

theorem or128 (m : Nat) : bits .or .u8 ((m : Int) % 256) 128 = ((UInt8.ofNat (m % 128 + 128)).toNat : Int) := by
  have h := (bits_nats .u8 rfl (m % 256) 128 (by show _ < 256; omega) (by decide)).2.1
  have e : (((m % 256 : Nat) : Int)) = (m : Int) % 256 := by omega
  rw [e] at h
  rw [show (128 : Int) = ((128 : Nat) : Int) from rfl, h]
  congr 1
  have h2 : ∀ q : Nat, q < 256 → q ||| 128 = (UInt8.ofNat (q % 128 + 128)).toNat := by decide +kernel
  rw [h2 _ (Nat.mod_lt _ (by omega))]
  congr 2
  omega
theorem or_add (i a b : Nat) (h : a < 2 ^ i) : a ||| (b * 2 ^ i) = a + b * 2 ^ i := by
  rw [Nat.or_comm, Nat.mul_comm, ← Nat.two_pow_add_eq_or_of_lt h b, Nat.add_comm]
theorem or32 (b0 b1 b2 b3 : UInt8) : bits .or .u32 (bits .or .u32 (bits .or .u32 ((b0.toNat : Int) % 4294967296) ((b1.toNat : Int) % 4294967296 * 256 % 4294967296)) ((b2.toNat : Int) % 4294967296 * 65536 % 4294967296)) ((b3.toNat : Int) % 4294967296 * 16777216 % 4294967296) =
    ((b0.toNat + b1.toNat * 256 + b2.toNat * 65536 + b3.toNat * 16777216 : Nat) : Int) := by
  have h0 := b0.toNat_lt
  have h1 := b1.toNat_lt
  have h2 := b2.toNat_lt
  have h3 := b3.toNat_lt
  rw [show (b0.toNat : Int) % 4294967296 = (b0.toNat : Int) by omega, show (b1.toNat : Int) % 4294967296 * 256 % 4294967296 = ((b1.toNat * 2 ^ 8 : Nat) : Int) by omega,
    show (b2.toNat : Int) % 4294967296 * 65536 % 4294967296 = ((b2.toNat * 2 ^ 16 : Nat) : Int) by omega, show (b3.toNat : Int) % 4294967296 * 16777216 % 4294967296 = ((b3.toNat * 2 ^ 24 : Nat) : Int) by omega]
  rw [(bits_nats .u32 rfl b0.toNat (b1.toNat * 2 ^ 8) (by show _ < 4294967296; omega) (by show _ < 4294967296; omega)).2.1, or_add 8 _ _ (by omega)]
  rw [(bits_nats .u32 rfl _ (b2.toNat * 2 ^ 16) (by show _ < 4294967296; omega) (by show _ < 4294967296; omega)).2.1, or_add 16 _ _ (by omega)]
  rw [(bits_nats .u32 rfl _ (b3.toNat * 2 ^ 24) (by show _ < 4294967296; omega) (by show _ < 4294967296; omega)).2.1, or_add 24 _ _ (by omega)]
theorem and128 (c : UInt8) : bits .and .u8 (c.toNat : Int) 128 = if c.toNat < 128 then 0 else 128 := by
  rw [show (128 : Int) = (((128 : UInt8).toNat : Nat) : Int) from rfl, and8]
  have h : ∀ q : Nat, q < 256 → (UInt8.ofNat q &&& 128).toNat = if q < 128 then 0 else 128 := by decide +kernel
  have e : c = UInt8.ofNat c.toNat := by simp
  rw [e, h _ c.toNat_lt]
  simp only [UInt8.toNat_ofNat', Nat.mod_eq_of_lt c.toNat_lt]
  split <;> rfl
theorem andNot128 (c : UInt8) : bits .andNot .u8 (c.toNat : Int) 128 = ((c.toNat % 128 : Nat) : Int) := by
  have h : ∀ q : Fin 256, bits .andNot .u8 ((q.val : Nat) : Int) 128 = ((q.val % 128 : Nat) : Int) := by decide +kernel
  exact h ⟨c.toNat, c.toNat_lt⟩
theorem or64 (acc k c : Nat) (hk : k ≤ 8 ∨ (k = 9 ∧ c % 128 ≤ 1)) (ha : acc < 128 ^ k) : bits .or .u64 (acc : Int) (IntKind.u64.wrap ((c : Int) % 128 * 2 ^ (7 * k))) = ((acc + c % 128 * 128 ^ k : Nat) : Int) := by
  have hp : (2 : Nat) ^ (7 * k) = 128 ^ k := by rw [Nat.pow_mul]
  have h8 : (128 : Nat) ^ 8 = 72057594037927936 := by decide
  have hb : c % 128 * 128 ^ k ≤ 9223372036854775808 ∧ 128 ^ k ≤ 9223372036854775808 := by
    rcases hk with hk | ⟨rfl, hc⟩
    · have h1 : (128 : Nat) ^ k ≤ 128 ^ 8 := Nat.pow_le_pow_right (by omega) hk
      have h2 : c % 128 * 128 ^ k ≤ 127 * 128 ^ 8 := Nat.mul_le_mul (by omega) h1
      omega
    · have h2 : c % 128 * 128 ^ 9 ≤ 1 * 128 ^ 9 := Nat.mul_le_mul_right _ hc
      omega
  have e1 : ((c : Int) % 128 * 2 ^ (7 * k)) = ((c % 128 * 128 ^ k : Nat) : Int) := by
    rw [← hp]; simp
  have ew : IntKind.u64.wrap ((c % 128 * 128 ^ k : Nat) : Int) = ((c % 128 * 128 ^ k : Nat) : Int) := by
    generalize c % 128 * 128 ^ k = q at hb
    simp only [IntKind.wrap, IntKind.bits, IntKind.signed, Bool.false_and, Bool.false_eq_true, if_false]
    omega
  rw [e1, ew, (bits_nats .u64 rfl acc (c % 128 * 128 ^ k) (by show _ < 18446744073709551616; omega) (by show _ < 18446744073709551616; omega)).2.1, ← hp, or_add (7 * k) _ _ (by rw [hp]; exact ha)]
theorem low8 (m : Nat) : (m : Int) % 256 = ((UInt8.ofNat m).toNat : Int) := by simp [UInt8.toNat_ofNat']
theorem low8' (m : Nat) (h : m < 256) : (m : Int) = ((UInt8.ofNat m).toNat : Int) := by
  rw [UInt8.toNat_ofNat', Nat.mod_eq_of_lt h]
theorem xor255 (x : UInt8) : bits .xor .u8 (x.toNat : Int) 255 = ((x ^^^ 255).toNat : Int) := xor8 x 255
theorem xor255' (x : UInt8) : bits .xor .u8 ((x ^^^ 255).toNat : Int) 255 = (x.toNat : Int) := by
  rw [show (255 : Int) = (((255 : UInt8).toNat : Nat) : Int) from rfl, xor8, UInt8.xor_assoc]
  simp
end Go.Proofs.Ytfnneneaalaagaa

/- The field of 256 elements. Plain. -/
namespace Go.Proofs.Ytfnneneaalaagaa
set_option maxRecDepth 100000

theorem u8_all {p : UInt8 → Prop} (h : ∀ n, n < 256 → p (UInt8.ofNat n)) (a : UInt8) : p a := by
  have := h a.toNat a.toNat_lt
  simpa using this

/-- A product with x. -/
def dbl (a : UInt8) : UInt8 := UInt8.ofNat ((2 * a.toNat) % 256 ^^^ 29 * (a.toNat / 128))
def mulF : Nat → UInt8 → UInt8 → UInt8
  | 0, _, _ => 0
  | k + 1, a, b => (if b.toNat % 2 = 1 then a else 0) ^^^ mulF k (dbl a) (UInt8.ofNat (b.toNat / 2))
/-- The product. -/
def fmul (a b : UInt8) : UInt8 := mulF 8 a b

def Additive (f : UInt8 → UInt8) : Prop := ∀ x y, f (x ^^^ y) = f x ^^^ f y
theorem Additive.zero {f : UInt8 → UInt8} (h : Additive f) : f 0 = 0 := by
  have := h 0 0
  simpa using this
theorem xor_parts (x : UInt8) : x = (x &&& 1) ^^^ ((x &&& 2) ^^^ ((x &&& 4) ^^^ ((x &&& 8) ^^^ ((x &&& 16) ^^^ ((x &&& 32) ^^^ ((x &&& 64) ^^^ (x &&& 128))))))) := by
  revert x
  apply u8_all
  decide +kernel
theorem bit_of (x : UInt8) : (x &&& 1 = 0 ∨ x &&& 1 = 1) ∧ (x &&& 2 = 0 ∨ x &&& 2 = 2) ∧ (x &&& 4 = 0 ∨ x &&& 4 = 4) ∧ (x &&& 8 = 0 ∨ x &&& 8 = 8) ∧ (x &&& 16 = 0 ∨ x &&& 16 = 16) ∧ (x &&& 32 = 0 ∨ x &&& 32 = 32) ∧ (x &&& 64 = 0 ∨ x &&& 64 = 64) ∧ (x &&& 128 = 0 ∨ x &&& 128 = 128) := by
  revert x
  apply u8_all
  decide +kernel
theorem add_ext {f g : UInt8 → UInt8} (hf : Additive f) (hg : Additive g) (h1 : f 1 = g 1) (h2 : f 2 = g 2) (h4 : f 4 = g 4) (h8 : f 8 = g 8) (h16 : f 16 = g 16) (h32 : f 32 = g 32) (h64 : f 64 = g 64) (h128 : f 128 = g 128) (x : UInt8) : f x = g x := by
  have z : f 0 = g 0 := by rw [hf.zero, hg.zero]
  obtain ⟨b1, b2, b4, b8, b16, b32, b64, b128⟩ := bit_of x
  rw [xor_parts x]
  simp only [hf _ _, hg _ _]
  congr 1
  · rcases b1 with e | e <;> rw [e] <;> assumption
  congr 1
  · rcases b2 with e | e <;> rw [e] <;> assumption
  congr 1
  · rcases b4 with e | e <;> rw [e] <;> assumption
  congr 1
  · rcases b8 with e | e <;> rw [e] <;> assumption
  congr 1
  · rcases b16 with e | e <;> rw [e] <;> assumption
  congr 1
  · rcases b32 with e | e <;> rw [e] <;> assumption
  congr 1
  · rcases b64 with e | e <;> rw [e] <;> assumption
  · rcases b128 with e | e <;> rw [e] <;> assumption

theorem xor4 (a b c d : UInt8) : (a ^^^ b) ^^^ (c ^^^ d) = (a ^^^ c) ^^^ (b ^^^ d) := by
  rw [UInt8.xor_assoc, UInt8.xor_assoc, ← UInt8.xor_assoc b, UInt8.xor_comm b c, UInt8.xor_assoc c]

theorem dbl_add : Additive dbl := by
  intro x y
  have h2 : 2 * (x.toNat ^^^ y.toNat) = 2 * x.toNat ^^^ 2 * y.toNat := by
    have := @Nat.shiftLeft_xor_distrib 1 x.toNat y.toNat
    simpa [Nat.shiftLeft_eq, Nat.mul_comm] using this
  have hd : (x.toNat ^^^ y.toNat) / 128 = x.toNat / 128 ^^^ y.toNat / 128 := @Nat.xor_div_two_pow x.toNat y.toNat 7
  have hm : (2 * x.toNat ^^^ 2 * y.toNat) % 256 = 2 * x.toNat % 256 ^^^ 2 * y.toNat % 256 := @Nat.xor_mod_two_pow (2 * x.toNat) (2 * y.toNat) 8
  have hx : x.toNat / 128 = 0 ∨ x.toNat / 128 = 1 := by have := x.toNat_lt; omega
  have hy : y.toNat / 128 = 0 ∨ y.toNat / 128 = 1 := by have := y.toNat_lt; omega
  have h29 : 29 * (x.toNat / 128 ^^^ y.toNat / 128) = 29 * (x.toNat / 128) ^^^ 29 * (y.toNat / 128) := by
    rcases hx with e | e <;> rcases hy with e2 | e2 <;> rw [e, e2] <;> rfl
  unfold dbl
  rw [UInt8.toNat_xor, h2, hm, hd, h29, ← UInt8.ofNat_xor]
  congr 1
  rw [Nat.xor_assoc, Nat.xor_assoc]
  congr 1
  rw [← Nat.xor_assoc, ← Nat.xor_assoc, Nat.xor_comm (2 * y.toNat % 256)]

theorem mulF_add_left (k : Nat) : ∀ b, Additive (fun a => mulF k a b) := by
  induction k with
  | zero => intro b x y; simp [mulF]
  | succ k ih =>
    intro b x y
    simp only [mulF]
    have e : mulF k (dbl x ^^^ dbl y) (UInt8.ofNat (b.toNat / 2)) = mulF k (dbl x) (UInt8.ofNat (b.toNat / 2)) ^^^ mulF k (dbl y) (UInt8.ofNat (b.toNat / 2)) := ih _ _ _
    rw [dbl_add x y, e, xor4]
    congr 1
    split <;> simp
theorem mulF_add_right (k : Nat) : ∀ a, Additive (fun b => mulF k a b) := by
  induction k with
  | zero => intro b x y; simp [mulF]
  | succ k ih =>
    intro a x y
    simp only [mulF]
    have hd : UInt8.ofNat ((x ^^^ y).toNat / 2) = UInt8.ofNat (x.toNat / 2) ^^^ UInt8.ofNat (y.toNat / 2) := by
      rw [UInt8.toNat_xor, Nat.xor_div_two, UInt8.ofNat_xor]
    have e : mulF k (dbl a) (UInt8.ofNat (x.toNat / 2) ^^^ UInt8.ofNat (y.toNat / 2)) = mulF k (dbl a) (UInt8.ofNat (x.toNat / 2)) ^^^ mulF k (dbl a) (UInt8.ofNat (y.toNat / 2)) := ih _ _ _
    rw [hd, e, xor4]
    congr 1
    rw [UInt8.toNat_xor]
    by_cases hx : x.toNat % 2 = 1 <;> by_cases hy : y.toNat % 2 = 1 <;> simp [hx, hy]
theorem fmul_add_left (b : UInt8) : Additive (fun a => fmul a b) := mulF_add_left 8 b
theorem fmul_add_right (a : UInt8) : Additive (fun b => fmul a b) := mulF_add_right 8 a
theorem fmul_xor (a b c : UInt8) : fmul a (b ^^^ c) = fmul a b ^^^ fmul a c := fmul_add_right a b c
theorem xor_fmul (a b c : UInt8) : fmul (a ^^^ b) c = fmul a c ^^^ fmul b c := fmul_add_left c a b

def pow2s : List UInt8 := [1, 2, 4, 8, 16, 32, 64, 128]
theorem add_ext' {f g : UInt8 → UInt8} (hf : Additive f) (hg : Additive g) (h : ∀ p ∈ pow2s, f p = g p) (x : UInt8) : f x = g x := by
  simp only [pow2s, List.mem_cons, List.not_mem_nil, or_false, forall_eq_or_imp, forall_eq] at h
  obtain ⟨h1, h2, h4, h8, h16, h32, h64, h128⟩ := h
  exact add_ext hf hg h1 h2 h4 h8 h16 h32 h64 h128 x

theorem fmul_comm (a b : UInt8) : fmul a b = fmul b a := by
  refine add_ext' (f := fun a => fmul a b) (g := fun a => fmul b a) (fmul_add_left b) (fmul_add_right b) (fun p hp => ?_) a
  refine add_ext' (f := fun b => fmul p b) (g := fun b => fmul b p) (fmul_add_right p) (fmul_add_left p) (fun q hq => ?_) b
  have : ∀ p ∈ pow2s, ∀ q ∈ pow2s, fmul p q = fmul q p := by decide +kernel
  exact this p hp q hq
theorem Additive.comp {f g : UInt8 → UInt8} (hf : Additive f) (hg : Additive g) : Additive (fun x => f (g x)) := fun x y => by
  show f (g (x ^^^ y)) = _
  rw [hg x y, hf _ _]
theorem fmul_assoc (a b c : UInt8) : fmul (fmul a b) c = fmul a (fmul b c) := by
  refine add_ext' (f := fun a => fmul (fmul a b) c) (g := fun a => fmul a (fmul b c)) ((fmul_add_left c).comp (fmul_add_left b)) (fmul_add_left _) (fun p hp => ?_) a
  refine add_ext' (f := fun b => fmul (fmul p b) c) (g := fun b => fmul p (fmul b c)) ((fmul_add_left c).comp (fmul_add_right p)) ((fmul_add_right p).comp (fmul_add_left c)) (fun q hq => ?_) b
  refine add_ext' (f := fun c => fmul (fmul p q) c) (g := fun c => fmul p (fmul q c)) (fmul_add_right _) ((fmul_add_right p).comp (fmul_add_right q)) (fun r hr => ?_) c
  have : ∀ p ∈ pow2s, ∀ q ∈ pow2s, ∀ r ∈ pow2s, fmul (fmul p q) r = fmul p (fmul q r) := by decide +kernel
  exact this p hp q hq r hr
theorem one_fmul (a : UInt8) : fmul 1 a = a := by
  refine add_ext' (f := fun a => fmul 1 a) (g := fun a => a) (fmul_add_right 1) (fun x y => rfl) (fun p hp => ?_) a
  have : ∀ p ∈ pow2s, fmul 1 p = p := by decide +kernel
  exact this p hp
theorem fmul_one (a : UInt8) : fmul a 1 = a := by rw [fmul_comm, one_fmul]
theorem zero_fmul (a : UInt8) : fmul 0 a = 0 := (fmul_add_left a).zero
theorem fmul_zero (a : UInt8) : fmul a 0 = 0 := (fmul_add_right a).zero

/-- A power. -/
def fpow (a : UInt8) : Nat → UInt8
  | 0 => 1
  | n + 1 => fmul (fpow a n) a
theorem fpow_add (a : UInt8) (m n : Nat) : fpow a (m + n) = fmul (fpow a m) (fpow a n) := by
  induction n with
  | zero => rw [Nat.add_zero, fpow, fmul_one]
  | succ n ih => rw [← Nat.add_assoc, fpow, ih, fpow, fmul_assoc]
theorem fpow_mul (a : UInt8) (m n : Nat) : fpow a (m * n) = fpow (fpow a m) n := by
  induction n with
  | zero => rfl
  | succ n ih => rw [Nat.mul_succ, fpow_add, ih, fpow]
theorem fpow_one (a : UInt8) : fpow a 1 = a := by rw [fpow, fpow, one_fmul]
theorem fpow_two (a : UInt8) : fpow a 2 = fmul a a := by rw [fpow, fpow_one]
theorem one_fpow (n : Nat) : fpow 1 n = 1 := by
  induction n with
  | zero => rfl
  | succ n ih => rw [fpow, ih, one_fmul]
theorem zero_fpow (n : Nat) (h : n ≠ 0) : fpow 0 n = 0 := by
  cases n with
  | zero => exact absurd rfl h
  | succ n => rw [fpow, fmul_zero]
theorem fpow_255 (a : UInt8) (h : a ≠ 0) : fpow a 255 = 1 := by
  have key : ∀ n, n < 256 → UInt8.ofNat n = 0 ∨ (let a := UInt8.ofNat n; let a2 := fmul a a; let a3 := fmul a2 a; let a12 := fmul (fmul a3 a3) (fmul a3 a3); let a15 := fmul a12 a3; let a30 := fmul a15 a15; let a60 := fmul a30 a30; let a120 := fmul a60 a60; let a240 := fmul a120 a120; fmul a240 a15 = 1) := by decide +kernel
  have := key a.toNat a.toNat_lt
  rw [UInt8.ofNat_toNat] at this
  rcases this with e | e
  · exact absurd e h
  · simp only at e
    have h2 : fpow a 2 = fmul a a := fpow_two a
    have h3 : fpow a 3 = fmul (fmul a a) a := by rw [fpow, h2]
    have h6 : fpow a 6 = fmul (fpow a 3) (fpow a 3) := fpow_add a 3 3
    have h12 : fpow a 12 = fmul (fpow a 6) (fpow a 6) := fpow_add a 6 6
    have h15 : fpow a 15 = fmul (fpow a 12) (fpow a 3) := fpow_add a 12 3
    have h30 : fpow a 30 = fmul (fpow a 15) (fpow a 15) := fpow_add a 15 15
    have h60 : fpow a 60 = fmul (fpow a 30) (fpow a 30) := fpow_add a 30 30
    have h120 : fpow a 120 = fmul (fpow a 60) (fpow a 60) := fpow_add a 60 60
    have h240 : fpow a 240 = fmul (fpow a 120) (fpow a 120) := fpow_add a 120 120
    have h255 : fpow a 255 = fmul (fpow a 240) (fpow a 15) := fpow_add a 240 15
    rw [h255, h240, h120, h60, h30, h15, h12, h6, h3]
    exact e
theorem fpow_mod (a : UInt8) (h : a ≠ 0) (n : Nat) : fpow a (n % 255) = fpow a n := by
  conv => rhs; rw [← Nat.div_add_mod n 255]
  rw [fpow_add, fpow_mul, fpow_255 a h, one_fpow, one_fmul]
/-- What undoes a product. -/
def finv (a : UInt8) : UInt8 := fpow a 254
theorem fmul_finv (a : UInt8) (h : a ≠ 0) : fmul a (finv a) = 1 := by
  rw [fmul_comm]
  exact fpow_255 a h
theorem finv_fmul (a : UInt8) (h : a ≠ 0) : fmul (finv a) a = 1 := fpow_255 a h
theorem finv_unique (a b : UInt8) (h : fmul a b = 1) : b = finv a := by
  have ha : a ≠ 0 := fun e => by rw [e, zero_fmul] at h; exact absurd h (by decide)
  rw [← one_fmul b, ← finv_fmul a ha, fmul_assoc, h, fmul_one]
theorem finv_ne (a : UInt8) (h : a ≠ 0) : finv a ≠ 0 := fun e => by
  have := fmul_finv a h
  rw [e, fmul_zero] at this
  exact absurd this (by decide)
theorem fmul_eq_zero (a b : UInt8) : fmul a b = 0 ↔ a = 0 ∨ b = 0 := by
  constructor
  · intro h
    by_cases ha : a = 0
    · exact .inl ha
    · right
      rw [← one_fmul b, ← finv_fmul a ha, fmul_assoc, h, fmul_zero]
  · rintro (rfl | rfl)
    · exact zero_fmul b
    · exact fmul_zero a
end Go.Proofs.Ytfnneneaalaagaa

/- Numbers written in sevens: what is put, what is taken. Plain lists. -/
namespace Go.Proofs.Ytfnneneaalaagaa
set_option maxRecDepth 100000

/-- The bytes of a short number. -/
def putL (n : Nat) : List UInt8 := if n < 128 then [UInt8.ofNat n] else UInt8.ofNat (n % 128 + 128) :: putL (n / 128)
termination_by n
def W64 (n : Nat) : Prop := n < 18446744073709551616
theorem putL_len (k : Nat) : ∀ n, n < 128 ^ (k + 1) → (putL n).length ≤ k + 1 := by
  induction k with
  | zero => intro n h; rw [putL, if_pos (by omega)]; simp
  | succ k ih =>
    intro n h
    rw [putL]
    split
    · simp
    · have := ih (n / 128) (by rw [Nat.div_lt_iff_lt_mul (by omega), ← Nat.pow_succ]; exact h)
      simp; omega
theorem putL_len64 (n : Nat) (h : W64 n) : (putL n).length ≤ 10 := putL_len 9 n (by unfold W64 at h; omega)
theorem putL_pos (n : Nat) : 0 < (putL n).length := by
  rw [putL]
  split <;> simp

/-- May the i-th byte, c, be the last one? -/
def shortB (i : Nat) (c : UInt8) : Bool := i == 0 || (c != 0 && (decide (i < 9) || c == 1))

/-- error, number, bytes taken -/
def tkGo : Nat → Nat → Nat → List UInt8 → Nat × Nat × Nat
  | 0, _, _, _ => (3, 0, 0)
  | _ + 1, _, _, [] => (2, 0, 0)
  | f + 1, i, acc, c :: r =>
    if c.toNat < 128 then (if shortB i c then (0, acc + c.toNat * 128 ^ i, i + 1) else (3, 0, 0))
    else tkGo f (i + 1) (acc + (c.toNat % 128) * 128 ^ i) r
def tk (b : List UInt8) : Nat × Nat × Nat := tkGo 10 0 0 b
def tkE (b : List UInt8) : Nat := (tk b).1
def tkN (b : List UInt8) : Nat := (tk b).2.1
def tkR (b : List UInt8) : List UInt8 := if tkE b = 0 then b.drop (tk b).2.2 else []

theorem tkGo_ok (f : Nat) : ∀ i acc b n k, tkGo f i acc b = (0, n, k) → f + i = 10 → acc < 128 ^ i →
    ∃ p r m, b = p ++ r ∧ k = i + p.length ∧ n = acc + m * 128 ^ i ∧ p = putL m ∧ W64 n ∧ (i ≠ 0 → m ≠ 0) := by
  induction f with
  | zero => intro i acc b n k h; simp [tkGo] at h
  | succ f ih =>
    intro i acc b n k h hf ha
    cases b with
    | nil => simp [tkGo] at h
    | cons c r =>
      rw [tkGo] at h
      split at h
      · rename_i hc
        split at h
        · rename_i hs
          simp only [Prod.mk.injEq, true_and] at h
          refine ⟨[c], r, c.toNat, rfl, by simp; omega, by omega, ?_, ?_, ?_⟩
          · rw [putL, if_pos hc]; simp
          · rw [← h.1]
            unfold shortB at hs
            unfold W64
            rcases Nat.lt_or_ge i 9 with h9 | h9
            · have h1 : 128 ^ i ≤ 128 ^ 8 := Nat.pow_le_pow_right (by omega) (by omega)
              have h2 : c.toNat * 128 ^ i ≤ 127 * 128 ^ i := Nat.mul_le_mul_right _ (by omega)
              omega
            · obtain rfl : i = 9 := by omega
              simp at hs
              obtain ⟨_, rfl⟩ := hs
              have : (1 : UInt8).toNat = 1 := rfl
              rw [this]
              omega
          · intro h0
            unfold shortB at hs
            simp [h0] at hs
            intro hz
            exact hs.1 (UInt8.toNat_inj.1 (by simpa using hz))
        · simp at h
      · rename_i hc
        have ha' : acc + c.toNat % 128 * 128 ^ i < 128 ^ (i + 1) := by
          rw [Nat.pow_succ]
          have h2 : c.toNat % 128 * 128 ^ i ≤ 127 * 128 ^ i := Nat.mul_le_mul_right _ (by omega)
          omega
        obtain ⟨p, r', m, rfl, hk, hn, hp, hw, hm⟩ := ih (i + 1) _ r n k h (by omega) ha'
        have hm0 := hm (by omega)
        have hc2 := c.toNat_lt
        refine ⟨c :: p, r', c.toNat % 128 + 128 * m, rfl, by simp; omega, ?_, ?_, hw, fun _ => by omega⟩
        · rw [hn, Nat.pow_succ, Nat.add_mul, Nat.mul_assoc 128 m, Nat.mul_comm 128 (m * 128 ^ i), ← Nat.mul_assoc]; omega
        · rw [putL, if_neg (by omega), hp]
          have e1 : (c.toNat % 128 + 128 * m) / 128 = m := by omega
          have e2 : (c.toNat % 128 + 128 * m) % 128 + 128 = c.toNat := by omega
          rw [e1, e2]
          simp

theorem tk_ok (b : List UInt8) (h : tkE b = 0) : b = putL (tkN b) ++ tkR b ∧ W64 (tkN b) ∧ (tk b).2.2 = (putL (tkN b)).length := by
  have hh : tkGo 10 0 0 b = (0, tkN b, (tk b).2.2) := by
    have : tk b = (tkE b, tkN b, (tk b).2.2) := rfl
    rw [h] at this
    exact this
  obtain ⟨p, r, m, hb, hk, hn, hp, hw, _⟩ := tkGo_ok 10 0 0 b _ _ hh rfl (by simp)
  simp at hn hk
  have hr : tkR b = r := by
    unfold tkR
    rw [if_pos h, hk, hb, List.drop_left]
  rw [hr, hn, ← hp]
  exact ⟨hb, by rw [← hn]; exact hw, hk⟩

theorem tkGo_put (f : Nat) : ∀ i acc m r, f + i = 10 → (i ≠ 0 → m ≠ 0) → acc < 128 ^ i → W64 (acc + m * 128 ^ i) → tkGo f i acc (putL m ++ r) = (0, acc + m * 128 ^ i, i + (putL m).length) := by
  induction f with
  | zero =>
    intro i acc m r hf hm ha hw
    obtain rfl : i = 10 := by omega
    have := hm (by omega)
    unfold W64 at hw
    have h1 : 1 * 128 ^ 10 ≤ m * 128 ^ 10 := Nat.mul_le_mul_right _ (by omega)
    omega
  | succ f ih =>
    intro i acc m r hf hm ha hw
    rw [putL]
    split
    · rename_i h
      have e : (UInt8.ofNat m).toNat = m := by rw [UInt8.toNat_ofNat', Nat.mod_eq_of_lt (by omega)]
      rw [List.cons_append, tkGo, if_pos (by omega), e, if_pos]
      · simp
      · unfold shortB
        by_cases h0 : i = 0
        · simp [h0]
        · have hm0 := hm h0
          have hne : (UInt8.ofNat m != 0) = true := by
            rw [bne_iff_ne]; intro hz; have := congrArg UInt8.toNat hz; rw [e] at this; exact hm0 (by simpa using this)
          by_cases h9 : i < 9
          · simp [h9, hne]
          · obtain rfl : i = 9 := by omega
            have : m = 1 := by
              unfold W64 at hw
              rcases Nat.lt_or_ge m 2 with h2 | h2
              · omega
              · have : 2 * 128 ^ 9 ≤ m * 128 ^ 9 := Nat.mul_le_mul_right _ h2
                omega
            subst this
            simp
    · rename_i h
      have e : (UInt8.ofNat (m % 128 + 128)).toNat = m % 128 + 128 := by rw [UInt8.toNat_ofNat', Nat.mod_eq_of_lt (by omega)]
      have e2 : (m % 128 + 128) % 128 = m % 128 := by omega
      have e3 : acc + m % 128 * 128 ^ i + m / 128 * 128 ^ (i + 1) = acc + m * 128 ^ i := by
        rw [Nat.pow_succ, Nat.mul_comm (128 ^ i) 128, ← Nat.mul_assoc, Nat.add_assoc, ← Nat.add_mul]
        congr 2
        omega
      rw [List.cons_append, tkGo, if_neg (by omega), e, e2, ih (i + 1) _ (m / 128) r (by omega) (fun _ => by omega) ?_ (by rw [e3]; exact hw), e3]
      · simp; omega
      · rw [Nat.pow_succ]
        have h2 : m % 128 * 128 ^ i ≤ 127 * 128 ^ i := Nat.mul_le_mul_right _ (by omega)
        omega

theorem tk_put (n : Nat) (r : List UInt8) (h : W64 n) : tk (putL n ++ r) = (0, n, (putL n).length) := by
  have := tkGo_put 10 0 0 n r rfl (fun h => absurd rfl h) (by simp) (by simpa using h)
  simpa [tk] using this
theorem tk_put_E (n : Nat) (r : List UInt8) (h : W64 n) : tkE (putL n ++ r) = 0 := by unfold tkE; rw [tk_put n r h]
theorem tk_put_N (n : Nat) (r : List UInt8) (h : W64 n) : tkN (putL n ++ r) = n := by unfold tkN; rw [tk_put n r h]
theorem tk_put_R (n : Nat) (r : List UInt8) (h : W64 n) : tkR (putL n ++ r) = r := by unfold tkR; rw [if_pos (tk_put_E n r h), tk_put n r h, List.drop_left]
theorem tk_bad (b : List UInt8) (h : tkE b ≠ 0) : tkN b = 0 ∧ tkR b = [] := by
  refine ⟨?_, by unfold tkR; rw [if_neg h]⟩
  have key : ∀ f i acc b, (tkGo f i acc b).1 ≠ 0 → (tkGo f i acc b).2.1 = 0 := by
    intro f
    induction f with
    | zero => intro i acc b _; rfl
    | succ f ih =>
      intro i acc b hb
      cases b with
      | nil => rfl
      | cons c r =>
        rw [tkGo] at hb ⊢
        split
        · rename_i hc
          rw [if_pos hc] at hb
          split
          · rename_i hs; rw [if_pos hs] at hb; simp at hb
          · rfl
        · rename_i hc
          rw [if_neg hc] at hb
          exact ih _ _ _ hb
  exact key 10 0 0 b h

/-- The bytes of a whole number. -/
def put32L (n : Nat) : List UInt8 := [UInt8.ofNat n, UInt8.ofNat (n / 256), UInt8.ofNat (n / 65536), UInt8.ofNat (n / 16777216)]
/-- Four bytes as a whole number. -/
def get32 (b : List UInt8) : Nat := (b.getD 0 0).toNat + (b.getD 1 0).toNat * 256 + (b.getD 2 0).toNat * 65536 + (b.getD 3 0).toNat * 16777216
theorem get32_lt (b : List UInt8) : get32 b < 4294967296 := by
  unfold get32
  have h0 := (b.getD 0 0).toNat_lt
  have h1 := (b.getD 1 0).toNat_lt
  have h2 := (b.getD 2 0).toNat_lt
  have h3 := (b.getD 3 0).toNat_lt
  omega
theorem get32_put (n : Nat) (r : List UInt8) (h : n < 4294967296) : get32 (put32L n ++ r) = n := by
  simp [get32, put32L, UInt8.toNat_ofNat']
  omega
theorem put32_get (b : List UInt8) (h : 4 ≤ b.length) : put32L (get32 b) ++ b.drop 4 = b := by
  match b, h with
  | a :: c :: d :: e :: r, _ =>
    have ha := a.toNat_lt
    have hc := c.toNat_lt
    have hd := d.toNat_lt
    have he := e.toNat_lt
    simp only [put32L, get32, List.getD_cons_zero, List.getD_cons_succ, List.drop_succ_cons, List.drop_zero, List.cons_append, List.nil_append, List.cons.injEq, and_true]
    refine ⟨?_, ?_, ?_, ?_⟩ <;> apply UInt8.toNat_inj.1 <;> rw [UInt8.toNat_ofNat'] <;> omega
/-- A string taken: the error, the string, what is left. -/
def tsE (b : List UInt8) (most : Int) : Nat := if tkE b ≠ 0 then tkE b else if most < 0 ∨ most < (tkN b : Int) then 4 else if tkN b ≤ (tkR b).length then 0 else 2
def tsS (b : List UInt8) (most : Int) : List UInt8 := if tsE b most = 0 then (tkR b).take (tkN b) else []
def tsR (b : List UInt8) (most : Int) : List UInt8 := if tsE b most = 0 then (tkR b).drop (tkN b) else []
theorem ts_ok (b : List UInt8) (most : Int) (h : tsE b most = 0) : putL (tsS b most).length ++ tsS b most ++ tsR b most = b := by
  unfold tsS tsR
  rw [if_pos h, if_pos h]
  unfold tsE at h
  by_cases h1 : tkE b = 0
  · rw [if_neg (by simp [h1])] at h
    split at h
    · cases h
    · split at h
      · rename_i h3
        rw [List.length_take, Nat.min_eq_left h3, List.append_assoc, List.take_append_drop]
        exact (tk_ok b h1).1.symm
      · cases h
  · rw [if_pos h1] at h
    exact absurd h h1
theorem ts_put (s r : List UInt8) (most : Int) (h : (s.length : Int) ≤ most) (hw : W64 s.length) : tsE (putL s.length ++ (s ++ r)) most = 0 ∧ tsS (putL s.length ++ (s ++ r)) most = s ∧ tsR (putL s.length ++ (s ++ r)) most = r := by
  have hE : tsE (putL s.length ++ (s ++ r)) most = 0 := by
    unfold tsE
    rw [tk_put_E _ _ hw, tk_put_N _ _ hw, tk_put_R _ _ hw, if_neg (by simp), if_neg (by omega), if_pos (by simp)]
  refine ⟨hE, ?_, ?_⟩
  · unfold tsS; rw [if_pos hE, tk_put_N _ _ hw, tk_put_R _ _ hw, List.take_left]
  · unfold tsR; rw [if_pos hE, tk_put_N _ _ hw, tk_put_R _ _ hw, List.drop_left]
end Go.Proofs.Ytfnneneaalaagaa

namespace Go.Proofs.Ytfnneneaalaagaa
set_option maxRecDepth 100000
open Go.RowKit

theorem dbl_low (a : UInt8) (h : a.toNat < 128) : (a.toNat : Int) * 2 % 256 = ((dbl a).toNat : Int) := by
  have : ∀ n, n < 128 → n * 2 % 256 = (dbl (UInt8.ofNat n)).toNat := by decide +kernel
  have := this a.toNat h
  rw [UInt8.ofNat_toNat] at this
  rw [← this]; omega
theorem dbl_high (a : UInt8) (h : 128 ≤ a.toNat) : bits .xor .u8 ((a.toNat : Int) * 2 % 256) 29 = ((dbl a).toNat : Int) := by
  have : ∀ q : Fin 256, 128 ≤ q.val → bits .xor .u8 (((q.val : Nat) : Int) * 2 % 256) 29 = ((dbl (UInt8.ofNat q.val)).toNat : Int) := by decide +kernel
  have := this ⟨a.toNat, a.toNat_lt⟩ h
  simpa using this
theorem and1 (a : UInt8) : bits .and .u8 (a.toNat : Int) 1 = ((a.toNat % 2 : Nat) : Int) := by
  have : ∀ q : Fin 256, bits .and .u8 (((q.val : Nat) : Int)) 1 = ((q.val % 2 : Nat) : Int) := by decide +kernel
  exact this ⟨a.toNat, a.toNat_lt⟩

theorem double_any (a : UInt8) (w : World) : Calls Try.prog 82 #[.int .u8 (a.toNat : Int)] w fun e w' => e = .returned (cb (dbl a)) ∧ w' = w := by
  have h1 := and128 a
  by_cases h : a.toNat < 128
  · rw [if_pos h] at h1
    have h2 := dbl_low a h
    go_enter Try.func82, Try.ntmps82
    go_wp2
    go_ret
    exact ⟨by show Ending.returned (.int .u8 _) = _; congr 2; rw [← h2]; omega, rfl⟩
  · rw [if_neg h] at h1
    have h2 := dbl_high a (by omega)
    go_enter Try.func82, Try.ntmps82
    go_wp2
    go_ret
    exact ⟨by show Ending.returned (.int .u8 _) = _; rfl, rfl⟩

/-- A byte, halved so many times. -/
def hv (b : UInt8) : UInt8 := UInt8.ofNat (b.toNat / 2)
theorem hv_nat (b : UInt8) : (hv b).toNat = b.toNat / 2 := by
  unfold hv
  rw [UInt8.toNat_ofNat', Nat.mod_eq_of_lt]
  have := b.toNat_lt
  omega

set_option maxHeartbeats 400000 in
set_option maxRecDepth 100000 in
theorem FMul_any (a b : UInt8) (w : World) : Calls Try.prog 81 #[.int .u8 (a.toNat : Int), .int .u8 (b.toNat : Int)] w fun e w' => e = .returned (cb (fmul a b)) ∧ w' = w := by
  go_enter Try.func81, Try.ntmps81
  go_wp2
  go_loopw [0, 1, 5] (fun v0 v1 v5 wr => ∃ (k : Nat) (x y o : UInt8), v0 = .int .u8 (x.toNat : Int) ∧ v1 = .int .u8 (y.toNat : Int) ∧ v5 = .int .u8 (o.toNat : Int) ∧ wr = w ∧ y.toNat < 2 ^ k ∧ o ^^^ mulF k x y = fmul a b) (fun _ i _ _ => (intOf i).toNat)
  case atStart => exact ⟨8, a, b, 0, rfl, rfl, rfl, rfl, b.toNat_lt, by rw [UInt8.zero_xor]; rfl⟩
  case round =>
    obtain ⟨k, x, y, o, rfl, rfl, rfl, rfl, hk, hm⟩ := hrel
    have hand := and1 y
    have HM := Lib.hid hm
    clear hm
    by_cases h0 : y.toNat = 0
    · have h0' : (y.toNat : Int) = 0 := by omega
      go_wp2
      go_ret
      have hz : ∀ k x, mulF k x 0 = 0 := by
        intro k
        induction k with
        | zero => intro x; rfl
        | succ k ih => intro x; rw [mulF]; simp [ih]
      have hy : y = 0 := UInt8.toNat_inj.mp (by simpa using h0)
      have := HM.out
      rw [hy, hz, UInt8.xor_zero] at this
      rw [← this]
      exact ⟨rfl, rfl⟩
    · have h0' : (y.toNat : Int) ≠ 0 := by omega
      obtain ⟨k, rfl⟩ : ∃ j, k = j + 1 := ⟨k - 1, by cases k with | zero => simp at hk; omega | succ k => omega⟩
      have hn := hv_nat y
      have hd : (y.toNat : Int) / 2 = ((hv y).toNat : Int) := by rw [hn]; omega
      have hxor := xor8 o x
      obtain ⟨ox, hox⟩ : ∃ z, z = o ^^^ x := ⟨_, rfl⟩
      rw [← hox] at hxor
      have HOX := Lib.hid hox
      clear hox
      obtain ⟨hy, hhy⟩ : ∃ z, z = hv y := ⟨_, rfl⟩
      rw [← hhy] at hd hn
      have HHY := Lib.hid hhy
      have HN := Lib.hid hn
      clear hhy hn
      by_cases h1 : y.toNat % 2 = 1
      · have h1' : (y.toNat : Int) % 2 = 1 := by omega
        go_wp2_with (first | (go_at_call 82; (with_reducible refine (double_any _ _).mono ?_); rintro e w1 ⟨rfl, rfl⟩))
        go_roundw
        case rel => exact ⟨k, dbl x, hy, ox, by go_num, by go_num, by go_num, (by first | trivial | rfl), by have := HN.out; omega, by rw [← HM.out, mulF, if_pos h1, HOX.out, HHY.out, UInt8.xor_assoc]; rfl⟩
        case measure => have := HN.out; simp [intOf]; omega
      · have h1' : (y.toNat : Int) % 2 = 0 := by omega
        go_wp2_with (first | (go_at_call 82; (with_reducible refine (double_any _ _).mono ?_); rintro e w1 ⟨rfl, rfl⟩))
        go_roundw
        case rel => exact ⟨k, dbl x, hy, o, by go_num, by go_num, by go_num, (by first | trivial | rfl), by have := HN.out; omega, by rw [← HM.out, mulF, if_neg h1, HHY.out, UInt8.zero_xor]; rfl⟩
        case measure => have := HN.out; simp [intOf]; omega

theorem and1w (m : Nat) (h : W64 m) : bits .and .u64 (m : Int) 1 = ((m % 2 : Nat) : Int) := by
  rw [show (1 : Int) = ((1 : Nat) : Int) from rfl, (bits_nats .u64 rfl m 1 (by exact h) (by decide)).1, Nat.and_one_is_mod]
theorem fpow_half (x : UInt8) (m : Nat) : fpow x m = fmul (if m % 2 = 1 then x else 1) (fpow (fmul x x) (m / 2)) := by
  conv => lhs; rw [← Nat.div_add_mod m 2, fpow_add, fpow_mul, fpow_two, fmul_comm]
  congr 1
  rcases Nat.mod_two_eq_zero_or_one m with h | h <;> rw [h] <;> simp [fpow, one_fmul]

set_option maxHeartbeats 1600000 in
set_option maxRecDepth 100000 in
theorem FPow_any (a : UInt8) (n : Nat) (hn : W64 n) (w : World) : Calls Try.prog 73 #[.int .u8 (a.toNat : Int), .int .u64 (n : Int)] w fun e w' => e = .returned (cb (fpow a n)) ∧ w' = w := by
  have HN := Lib.hid hn
  clear hn
  by_cases h1 : 255 < n ∧ a ≠ 0
  · obtain ⟨h1, h2⟩ := h1
    have HM0 : Go.RowKit.Hid (W64 (n % 255)) := by have := HN.out; exact Lib.hid (show W64 (n % 255) by unfold W64 at this ⊢; omega)
    have HP0 : Go.RowKit.Hid (fpow a (n % 255) = fpow a n) := Lib.hid (fpow_mod a h2 n)
    have h1' : (255 : Int) < (n : Int) := by omega
    have h2' : (a.toNat : Int) ≠ 0 := fun e => h2 (UInt8.toNat_inj.mp (by simpa using e))
    have h2b : ((a.toNat : Int) != 0) = true := by simpa using h2'
    clear h2
    go_enter Try.func73, Try.ntmps73
    go_wp2
    go_loopw [0, 1, 5] (fun v0 v1 v5 wr => ∃ (m : Nat) (x o : UInt8), v0 = .int .u8 (x.toNat : Int) ∧ v1 = .int .u64 (m : Int) ∧ v5 = .int .u8 (o.toNat : Int) ∧ wr = w ∧ W64 m ∧ fmul o (fpow x m) = fpow a n) (fun _ i _ _ => (intOf i).toNat)
    case atStart => exact ⟨n % 255, a, 1, rfl, (by first | rfl | go_num), rfl, rfl, HM0.out, by rw [one_fmul]; exact HP0.out⟩
    case round =>
      obtain ⟨m, x, o, rfl, rfl, rfl, rfl, hm, hp⟩ := hrel
      have hand := and1w m hm
      have HP := Lib.hid hp
      have HM := Lib.hid hm
      clear hm hp
      by_cases h0 : m = 0
      · subst h0
        go_wp2
        go_ret
        have := HP.out
        rw [fpow, fmul_one] at this
        rw [← this]
        exact ⟨rfl, rfl⟩
      · have h0' : 0 < (m : Int) := by omega
        have hm2 : W64 (m / 2) := by have := HM.out; unfold W64 at this ⊢; omega
        have HM2 := Lib.hid hm2
        clear hm2
        by_cases h1 : m % 2 = 1
        · have h1' : (m : Int) % 2 = 1 := by omega
          have H1 := Lib.hid h1
          clear h1
          go_wp2_with (first | (go_at_call 81; (with_reducible refine (FMul_any _ _ _).mono ?_); rintro e w1 ⟨rfl, rfl⟩))
          go_roundw
          case rel => exact ⟨m / 2, fmul x x, fmul o x, by go_num, by go_num, by go_num, (by first | trivial | rfl), HM2.out, by rw [← HP.out, fpow_half x m, if_pos H1.out, fmul_assoc]⟩
          case measure => simp [intOf]; omega
        · have h1' : (m : Int) % 2 = 0 := by omega
          have H1 := Lib.hid h1
          clear h1
          go_wp2_with (first | (go_at_call 81; (with_reducible refine (FMul_any _ _ _).mono ?_); rintro e w1 ⟨rfl, rfl⟩))
          go_roundw
          case rel => exact ⟨m / 2, fmul x x, o, by go_num, by go_num, by go_num, (by first | trivial | rfl), HM2.out, by rw [← HP.out, fpow_half x m, if_neg H1.out, one_fmul]⟩
          case measure => simp [intOf]; omega
  · have HM0 := HN
    by_cases h2 : 255 < n
    · have h1' : (255 : Int) < (n : Int) := by omega
      have hbf : ((a.toNat : Int) != 0) = false := by
        have h3 : a = 0 := Classical.byContradiction fun h => h1 ⟨h2, h⟩
        rw [h3]; rfl
      clear h1
      go_enter Try.func73, Try.ntmps73
      go_wp2
      go_loopw [0, 1, 5] (fun v0 v1 v5 wr => ∃ (m : Nat) (x o : UInt8), v0 = .int .u8 (x.toNat : Int) ∧ v1 = .int .u64 (m : Int) ∧ v5 = .int .u8 (o.toNat : Int) ∧ wr = w ∧ W64 m ∧ fmul o (fpow x m) = fpow a n) (fun _ i _ _ => (intOf i).toNat)
      case atStart => exact ⟨n, a, 1, rfl, (by first | rfl | go_num), rfl, rfl, HM0.out, by rw [one_fmul]⟩
      case round =>
        obtain ⟨m, x, o, rfl, rfl, rfl, rfl, hm, hp⟩ := hrel
        have hand := and1w m hm
        have HP := Lib.hid hp
        have HM := Lib.hid hm
        clear hm hp
        by_cases h0 : m = 0
        · subst h0
          go_wp2
          go_ret
          have := HP.out
          rw [fpow, fmul_one] at this
          rw [← this]
          exact ⟨rfl, rfl⟩
        · have h0' : 0 < (m : Int) := by omega
          have hm2 : W64 (m / 2) := by have := HM.out; unfold W64 at this ⊢; omega
          have HM2 := Lib.hid hm2
          clear hm2
          by_cases h1 : m % 2 = 1
          · have h1' : (m : Int) % 2 = 1 := by omega
            have H1 := Lib.hid h1
            clear h1
            go_wp2_with (first | (go_at_call 81; (with_reducible refine (FMul_any _ _ _).mono ?_); rintro e w1 ⟨rfl, rfl⟩))
            go_roundw
            case rel => exact ⟨m / 2, fmul x x, fmul o x, by go_num, by go_num, by go_num, (by first | trivial | rfl), HM2.out, by rw [← HP.out, fpow_half x m, if_pos H1.out, fmul_assoc]⟩
            case measure => simp [intOf]; omega
          · have h1' : (m : Int) % 2 = 0 := by omega
            have H1 := Lib.hid h1
            clear h1
            go_wp2_with (first | (go_at_call 81; (with_reducible refine (FMul_any _ _ _).mono ?_); rintro e w1 ⟨rfl, rfl⟩))
            go_roundw
            case rel => exact ⟨m / 2, fmul x x, o, by go_num, by go_num, by go_num, (by first | trivial | rfl), HM2.out, by rw [← HP.out, fpow_half x m, if_neg H1.out, one_fmul]⟩
            case measure => simp [intOf]; omega
    · have h1' : (n : Int) ≤ 255 := by omega
      clear h1
      go_enter Try.func73, Try.ntmps73
      go_wp2
      go_loopw [0, 1, 5] (fun v0 v1 v5 wr => ∃ (m : Nat) (x o : UInt8), v0 = .int .u8 (x.toNat : Int) ∧ v1 = .int .u64 (m : Int) ∧ v5 = .int .u8 (o.toNat : Int) ∧ wr = w ∧ W64 m ∧ fmul o (fpow x m) = fpow a n) (fun _ i _ _ => (intOf i).toNat)
      case atStart => exact ⟨n, a, 1, rfl, (by first | rfl | go_num), rfl, rfl, HM0.out, by rw [one_fmul]⟩
      case round =>
        obtain ⟨m, x, o, rfl, rfl, rfl, rfl, hm, hp⟩ := hrel
        have hand := and1w m hm
        have HP := Lib.hid hp
        have HM := Lib.hid hm
        clear hm hp
        by_cases h0 : m = 0
        · subst h0
          go_wp2
          go_ret
          have := HP.out
          rw [fpow, fmul_one] at this
          rw [← this]
          exact ⟨rfl, rfl⟩
        · have h0' : 0 < (m : Int) := by omega
          have hm2 : W64 (m / 2) := by have := HM.out; unfold W64 at this ⊢; omega
          have HM2 := Lib.hid hm2
          clear hm2
          by_cases h1 : m % 2 = 1
          · have h1' : (m : Int) % 2 = 1 := by omega
            have H1 := Lib.hid h1
            clear h1
            go_wp2_with (first | (go_at_call 81; (with_reducible refine (FMul_any _ _ _).mono ?_); rintro e w1 ⟨rfl, rfl⟩))
            go_roundw
            case rel => exact ⟨m / 2, fmul x x, fmul o x, by go_num, by go_num, by go_num, (by first | trivial | rfl), HM2.out, by rw [← HP.out, fpow_half x m, if_pos H1.out, fmul_assoc]⟩
            case measure => simp [intOf]; omega
          · have h1' : (m : Int) % 2 = 0 := by omega
            have H1 := Lib.hid h1
            clear h1
            go_wp2_with (first | (go_at_call 81; (with_reducible refine (FMul_any _ _ _).mono ?_); rintro e w1 ⟨rfl, rfl⟩))
            go_roundw
            case rel => exact ⟨m / 2, fmul x x, o, by go_num, by go_num, by go_num, (by first | trivial | rfl), HM2.out, by rw [← HP.out, fpow_half x m, if_neg H1.out, one_fmul]⟩
            case measure => simp [intOf]; omega

theorem FInverse_any (a : UInt8) (w : World) : Calls Try.prog 56 #[.int .u8 (a.toNat : Int)] w fun e w' => e = .returned (.tuple #[cb (if a = 0 then 0 else finv a), .int .i64 (if a = 0 then 1 else 0)]) ∧ w' = w := by
  by_cases h : a = 0
  · subst h
    go_enter Try.func56, Try.ntmps56
    go_wp2
    go_ret2
    exact ⟨rfl, rfl⟩
  · have h' : (a.toNat : Int) ≠ 0 := fun e => h (UInt8.toNat_inj.mp (by simpa using e))
    rw [if_neg h, if_neg h]
    have c : ∀ w, Calls Try.prog 73 #[.int .u8 (a.toNat : Int), .int .u64 254] w fun e w' => e = .returned (cb (finv a)) ∧ w' = w := fun w => FPow_any a 254 (by unfold W64; omega) w
    go_enter Try.func56, Try.ntmps56
    go_wp2_with (first | (go_at_call 73; (with_reducible refine (c _).mono ?_); rintro e w1 ⟨rfl, rfl⟩))
    go_ret2
    exact ⟨rfl, rfl⟩

theorem same_below {f : Nat} {args : Array Value} {w : World} {r : Ending} (h : Calls Try.prog f args w fun e w' => e = r ∧ w' = w) : Calls Try.prog f args w fun e w' => e = r ∧ Below w.heap.size w w' :=
  h.mono fun _ _ ⟨he, hw⟩ => ⟨he, hw ▸ Below.refl _ _⟩
theorem u8_eq0 {a : UInt8} (h : a = 0) : ((a.toNat : Int) == 0) = true ∧ ((a.toNat : Int) != 0) = false := by subst h; exact ⟨rfl, rfl⟩
theorem u8_ne0 {a : UInt8} (h : a ≠ 0) : ((a.toNat : Int) == 0) = false ∧ ((a.toNat : Int) != 0) = true := by
  have : (a.toNat : Int) ≠ 0 := fun e => h (UInt8.toNat_inj.mp (by simpa using e))
  exact ⟨by simpa using this, by simpa using this⟩

/-- A quotient. -/
def fdivV (a b : UInt8) : UInt8 := if b = 0 then 0 else fmul a (finv b)
def fdivE (b : UInt8) : Int := if b = 0 then 1 else 0
end Go.Proofs.Ytfnneneaalaagaa

namespace Go.Proofs.Ytfnneneaalaagaa
set_option maxRecDepth 100000

/-- A polynomial at a place. -/
def evalH (x : UInt8) : List UInt8 → UInt8
  | [] => 0
  | p :: ps => fmul (evalH x ps) x ^^^ p
/-- A sum of products. -/
def dotL : List UInt8 → List UInt8 → UInt8
  | x :: xs, y :: ys => fmul x y ^^^ dotL xs ys
  | _, _ => 0
/-- The product of v less each place but place i; the places are counted from j. -/
def pb (v : UInt8) (i : Nat) : Nat → List UInt8 → UInt8
  | _, [] => 1
  | j, x :: xs => fmul (if j = i then 1 else v ^^^ x) (pb v i (j + 1) xs)
/-- Whether two places are the same. -/
def thBad (xs : List UInt8) : Nat → List UInt8 → Bool
  | _, [] => false
  | i, _ :: ys => (pb (xs.getD i 0) i 0 xs == 0) || thBad xs (i + 1) ys
/-- The sum. -/
def thSum (xs : List UInt8) (v : UInt8) : Nat → List UInt8 → UInt8
  | _, [] => 0
  | i, y :: ys => fmul y (fmul (pb v i 0 xs) (finv (pb (xs.getD i 0) i 0 xs))) ^^^ thSum xs v (i + 1) ys
theorem mul_fpow (a b : UInt8) (n : Nat) : fpow (fmul a b) n = fmul (fpow a n) (fpow b n) := by
  induction n with
  | zero => rw [fpow, fpow, fpow, fmul_one]
  | succ n ih => rw [fpow, fpow, fpow, ih, fmul_assoc, fmul_assoc, ← fmul_assoc (fpow b n), ← fmul_assoc a, fmul_comm (fpow b n) a]
theorem finv_mul (a b : UInt8) : finv (fmul a b) = fmul (finv a) (finv b) := mul_fpow a b 254
theorem finv_one : finv 1 = 1 := one_fpow 254
theorem xor_cancel (a b : UInt8) : a ^^^ (a ^^^ b) = b := by rw [← UInt8.xor_assoc]; simp
end Go.Proofs.Ytfnneneaalaagaa

namespace Go.Proofs.Ytfnneneaalaagaa
set_option maxRecDepth 100000
open Go.RowKit

theorem dotL_drop (xs ys : List UInt8) (k : Nat) (h : k < xs.length) (h2 : k < ys.length) : dotL (xs.drop k) (ys.drop k) = fmul xs[k] ys[k] ^^^ dotL (xs.drop (k + 1)) (ys.drop (k + 1)) := by
  rw [List.drop_eq_getElem_cons h, List.drop_eq_getElem_cons h2, dotL]
def dotV (xs ys : List UInt8) : UInt8 := if xs.length = ys.length then dotL xs ys else 0
def dotE (xs ys : List UInt8) : Int := if xs.length = ys.length then 0 else 1

set_option maxHeartbeats 800000 in
set_option maxRecDepth 100000 in
theorem FDot_any (va vb : Value) (xs ys : List UInt8) (w : World) (ha : RB w va xs) (hb : RB w vb ys) (hl : xs.length ≤ 1000000000) :
    Calls Try.prog 65 #[va, vb] w fun e w' => e = .returned (.tuple #[.int .u8 ((dotV xs ys).toNat : Int), .int .i64 (dotE xs ys)]) ∧ Below w.heap.size w w' := by
  obtain ⟨A, c, rfl, hc⟩ := ha.len
  obtain ⟨A2, c2, rfl, hc2⟩ := hb.len
  unfold dotV dotE
  by_cases hll : xs.length = ys.length
  · rw [if_pos hll, if_pos hll]
    have hli : (xs.length : Int) = (ys.length : Int) := by omega
    have HLL := Lib.hid hll
    clear hll
    go_enter Try.func65, Try.ntmps65
    go_wp2
    go_loopw [6, 16] (fun v6 v16 wr => ∃ (k : Nat) (o : UInt8), v16 = .int .i64 (k : Int) ∧ k ≤ xs.length ∧ v6 = .int .u8 (o.toNat : Int) ∧ o ^^^ dotL (xs.drop k) (ys.drop k) = dotL xs ys ∧ wr = w) (fun _ i _ => xs.length - (intOf i).toNat)
    case atStart => exact ⟨0, 0, rfl, by omega, rfl, by rw [UInt8.zero_xor]; rfl, rfl⟩
    case round =>
      obtain ⟨k, o, rfl, hk, rfl, ho, rfl⟩ := hrel
      have HO := Lib.hid ho
      clear ho
      by_cases h0 : k < xs.length
      · have hk2 : k < ys.length := by have := HLL.out; omega
        have hki : (k : Int) < (ys.length : Int) := by omega
        have hd := dotL_drop xs ys k h0 hk2
        obtain ⟨ad, rfl, hcc⟩ := ha.at_ k h0
        have hcx := hcc 0 (cb xs[k]) (by simp [U8])
        obtain ⟨ad2, rfl, hcc2⟩ := hb.at_ k hk2
        have hcy := hcc2 0 (cb ys[k]) (by simp [U8])
        simp only [show B8.sz = 1 from rfl, Nat.mul_one, Nat.add_zero] at hcx hcy
        generalize xs[k] = xk at hcx hd
        generalize ys[k] = yk at hcy hd
        have hx := xor8 o (fmul xk yk)
        obtain ⟨r, hr⟩ : ∃ r, r = o ^^^ fmul xk yk := ⟨_, rfl⟩
        rw [← hr] at hx
        have HR := Lib.hid hr
        have HD := Lib.hid hd
        clear hr hd hcc hcc2
        go_wp2_with (first | (go_at_call 81; (with_reducible refine (FMul_any _ _ _).mono ?_); rintro e w1 ⟨rfl, rfl⟩))
        go_roundw
        case rel => exact ⟨k + 1, r, by go_num, by omega, by go_num, by rw [← HO.out, HD.out, HR.out, UInt8.xor_assoc], (by first | trivial | rfl)⟩
        case measure => simp [intOf] <;> omega
      · obtain rfl : k = xs.length := by omega
        have hki : (ys.length : Int) ≤ (ys.length : Int) := by omega
        go_wp2
        go_ret2
        have := HO.out
        rw [List.drop_of_length_le (Nat.le_refl _), dotL, UInt8.xor_zero] at this
        · rw [← this]; exact ⟨rfl, Below.refl _ _⟩
        · intros; simp_all
  · rw [if_neg hll, if_neg hll]
    have hli : (xs.length : Int) ≠ (ys.length : Int) := by omega
    go_enter Try.func65, Try.ntmps65
    go_wp2
    go_ret2
    exact ⟨rfl, Below.refl _ _⟩
end Go.Proofs.Ytfnneneaalaagaa

namespace Go.Proofs.Ytfnneneaalaagaa
set_option maxRecDepth 100000
open Go.RowKit
set_option linter.unusedSimpArgs false
set_option linter.unusedVariables false

def unitF (i j : Nat) : UInt8 := if i = j then 1 else 0
theorem unitF_int (i j : Nat) : (if (i : Int) = (j : Int) then (1 : UInt8) else 0) = unitF i j := by
  unfold unitF
  by_cases h : i = j
  · subst h; simp
  · rw [if_neg h, if_neg (by omega)]
/-- A matrix that is returned: its elements are a row of the call's own. -/
def GivesMx (T : AT Try.prog MX) (w : World) (r c : Nat) (l : List UInt8) (E : Int) (e : Ending) (w' : World) : Prop := ∃ A cp, e = .returned (.tuple #[.agg (T.enc ((r : Int), (c : Int), A, l.length, cp)).toArray, .int .i64 E]) ∧ OB w' w.heap.size (.slice A l.length cp) l ∧ Below w.heap.size w w'
theorem enter_unit : ∀ args W, (callFunc 54 args).run Try.prog W = .ok (.enter 54 args) W := fun args W => Go.MuLone.run_callFunc_enter Try.func54 (by kernel_rfl) rfl args W
set_option maxHeartbeats 800000 in
set_option maxRecDepth 100000 in
theorem Unit_ok (n : Nat) (w : World) (h1 : 1 ≤ n) (h2 : n ≤ 32) : Calls Try.prog 24 #[.int .i64 (n : Int)] w fun e w' => GivesMx mxT w n n (fillL n n unitF) 0 e w' := by
  have H0 := SH.start Nil w
  have hs : sizeB (n : Int) = true := (sizeB_iff _).2 (by omega)
  have cI : ∀ (x : Int) (W : World), Calls Try.prog 49 #[.int .i64 x] W fun e w' => e = .returned (.bool (sizeB x)) ∧ W = w' := isSize_any
  have cF := fun W => filled_any n n 54 #[] unitF W (by omega) (by omega) enter_unit (fun W2 hb i j hi hj => (unit_any i j W2).mono fun e w' ⟨h, h3⟩ => ⟨by rw [h, unitF_int], by subst h3; exact Below.refl _ _⟩)
  have hz := mxC_one
  go_enter Try.func24, Try.ntmps24
  go_wp2_with (first
    | ((with_reducible refine gAlloc ?_); refine wAlloc mxT H0 rfl rfl ?_; clear H0; intro w1 H1)
    | (go_at_call 49; (with_reducible refine (cI _ _).mono ?_); rintro e w2 ⟨rfl, rfl⟩)
    | (go_at_call 53; (with_reducible refine (cF _).mono ?_); rintro e w3 ⟨A, cp, rfl, ho, hb⟩; have H2 := H1.pushRow hb ho; clear H1 ho hb)
    | ((with_reducible refine gStore ?_); refine wStore mxT ((n : Int), (n : Int), A, (fillL n n unitF).length, cp) H2 1 rfl rfl _ _ rfl rfl rfl rfl ?_; clear H2; intro w5 H))
  refine bodyPost_ret (results_cell_tmp rfl _ (H.va 1 rfl) rfl _ Try.underlying32 rfl (mxT.sz _)) rfl ?_
  exact ⟨A, cp, rfl, H.orow 0 rfl, H.below⟩

theorem Unit_bad (n : Int) (w : World) (h : sizeB n = false) : Calls Try.prog 24 #[.int .i64 n] w fun e w' => e = .returned (.tuple #[.agg (mxT.enc mxT.zero).toArray, .int .i64 1]) ∧ Below w.heap.size w w' := by
  have H0 := SH.start Nil w
  have cI : ∀ (x : Int) (W : World), Calls Try.prog 49 #[.int .i64 x] W fun e w' => e = .returned (.bool (sizeB x)) ∧ W = w' := isSize_any
  go_enter Try.func24, Try.ntmps24
  go_wp2_with (first
    | ((with_reducible refine gAlloc ?_); refine wAlloc mxT H0 rfl rfl ?_; clear H0; intro w1 H1)
    | (go_at_call 49; (with_reducible refine (cI _ _).mono ?_); rintro e w2 ⟨rfl, rfl⟩)
    | ((with_reducible refine gBuild ?_); refine wZero mxT rfl rfl ?_)
    | ((with_reducible refine gStore ?_); refine wStore mxT mxT.zero H1 0 rfl rfl _ _ rfl rfl rfl rfl ?_; clear H1; intro w5 H))
  refine bodyPost_ret (results_cell_tmp rfl _ (H.va 0 rfl) rfl _ Try.underlying32 rfl (mxT.sz _)) rfl ?_
  exact ⟨rfl, H.below⟩

/-- An element of a code. -/
def finv0 (a : UInt8) : UInt8 := if a = 0 then 0 else finv a
def codeF (k i j : Nat) : UInt8 := if i < k then unitF i j else finv0 (UInt8.ofNat (i ^^^ j))
theorem xor_small (i j : Nat) (hi : i < 64) (hj : j < 64) : bits .xor .i64 (i : Int) (j : Int) = ((i ^^^ j : Nat) : Int) ∧ i ^^^ j < 64 := by
  have hx : i ^^^ j < 2 ^ 6 := Nat.xor_lt_two_pow hi hj
  have hi' : i % 2 ^ 64 = i := Nat.mod_eq_of_lt (by omega)
  have hj' : j % 2 ^ 64 = j := Nat.mod_eq_of_lt (by omega)
  refine ⟨?_, hx⟩
  have e : bits .xor .i64 (i : Int) (j : Int) = IntKind.i64.wrap (((BitVec.ofInt 64 i ^^^ BitVec.ofInt 64 j).toNat : Nat) : Int) := rfl
  rw [e]
  simp only [BitVec.ofInt_natCast, BitVec.toNat_xor, BitVec.toNat_ofNat, hi', hj']
  rw [IntKind.wrap_i64]
  omega
set_option maxHeartbeats 800000 in
set_option maxRecDepth 100000 in
theorem Code1_any (k i j b : Nat) (w : World) (hk : w.cell? ⟨b, 0, none⟩ = some (.int .i64 (k : Int))) (hi : i < 64) (hj : j < 64) : Calls Try.prog 55 #[.int .i64 (i : Int), .int .i64 (j : Int), .pointer (some ⟨b, 0, none⟩)] w fun e w' => e = .returned (.int .u8 ((codeF k i j).toNat : Int)) ∧ Below w.heap.size w w' := by
  by_cases h : i < k
  · have h' : (i : Int) < (k : Int) := by omega
    have cU : ∀ W, Calls Try.prog 54 #[.int .i64 (i : Int), .int .i64 (j : Int)] W fun e w' => e = .returned (.int .u8 ((codeF k i j).toNat : Int)) ∧ W = w' := fun W => (unit_any i j W).mono fun e w' ⟨h1, h2⟩ => ⟨by rw [h1, unitF_int, codeF, if_pos h], h2⟩
    generalize codeF k i j = x at *
    clear h
    go_enter Try.func55, Try.ntmps55
    go_wp2_with (first
      | (go_at_call 54; (with_reducible refine (cU _).mono ?_); rintro e w2 ⟨rfl, rfl⟩))
    go_ret
    exact ⟨rfl, Below.refl _ _⟩
  · have h' : (k : Int) ≤ (i : Int) := by omega
    obtain ⟨hx, hlt⟩ := xor_small i j hi hj
    have hw : IntKind.u8.wrap ((i ^^^ j : Nat) : Int) = ((UInt8.ofNat (i ^^^ j)).toNat : Int) := by
      rw [UInt8.toNat_ofNat', Nat.mod_eq_of_lt (by omega), IntKind.wrap_u8]; omega
    have cI : ∀ W, ∃ E, Calls Try.prog 56 #[.int .u8 ((UInt8.ofNat (i ^^^ j)).toNat : Int)] W fun e w' => e = .returned (.tuple #[.int .u8 ((codeF k i j).toNat : Int), .int .i64 E]) ∧ W = w' := fun W => ⟨_, (FInverse_any _ W).mono fun e w' ⟨h1, h2⟩ => ⟨by rw [h1, codeF, if_neg h, finv0], h2.symm⟩⟩
    generalize codeF k i j = x at *
    generalize UInt8.ofNat (i ^^^ j) = y at *
    generalize i ^^^ j = z at *
    clear h hlt
    go_enter Try.func55, Try.ntmps55
    go_wp2_with (first
      | (go_at_call 56; obtain ⟨E, hE⟩ := cI w; (with_reducible refine hE.mono ?_); rintro e w2 ⟨rfl, rfl⟩))
    go_ret
    exact ⟨rfl, Below.refl _ _⟩
theorem enter_code1 : ∀ args W, (callFunc 55 args).run Try.prog W = .ok (.enter 55 args) W := fun args W => Go.MuLone.run_callFunc_enter Try.func55 (by kernel_rfl) rfl args W
set_option maxHeartbeats 800000 in
set_option maxRecDepth 100000 in
theorem Code_ok (k n : Nat) (w : World) (h1 : 1 ≤ k) (h2 : k ≤ n) (h3 : n ≤ 32) : Calls Try.prog 26 #[.int .i64 (k : Int), .int .i64 (n : Int)] w fun e w' => GivesMx mxT w n k (fillL n k (codeF k)) 0 e w' := by
  have H0 := SH.start Nil w
  have d1 : decide ((k : Int) < 1) = false := by simp; omega
  have d2 : decide ((n : Int) < (k : Int)) = false := by simp; omega
  have d3 : decide ((32 : Int) < (n : Int)) = false := by simp; omega
  have cF : ∀ (W : World) (b : Nat), W.cell? ⟨b, 0, none⟩ = some (.int .i64 (k : Int)) → _ := fun W b hb => filled_any n k 55 #[.pointer (some ⟨b, 0, none⟩)] (codeF k) W (by omega) (by omega) enter_code1 (fun W2 h2 i j hi hj => Code1_any k i j b W2 (cell_below h2 hb) (by omega) (by omega))
  have CF := Lib.hid cF
  clear cF
  go_enter Try.func26, Try.ntmps26
  go_wp2_with (first
    | ((with_reducible refine gBox ?_); refine wBox1 3 (.int .i64 (k : Int)) rfl H0 _ rfl rfl rfl ?_; clear H0; intro w1 H1)
    | ((with_reducible refine gAlloc ?_); refine wAlloc mxT H1 rfl rfl ?_; clear H1; intro w2 H2; have kc : w2.cell? ⟨w.heap.size, 0, none⟩ = some (.int .i64 (k : Int)) := (H2.va 1 rfl).cell 0)
    | (go_at_call 53; (with_reducible refine (CF.out _ _ kc).mono ?_); rintro e w3 ⟨A, cp, rfl, ho, hb⟩; have H3 := H2.pushRow hb ho; clear H2 ho hb)
    | ((with_reducible refine gStore ?_); refine wStore mxT ((n : Int), (k : Int), A, (fillL n k (codeF k)).length, cp) H3 1 rfl rfl _ _ rfl rfl rfl rfl ?_; clear H3; intro w5 H))
  refine bodyPost_ret (results_cell_tmp rfl _ (H.va 1 rfl) rfl _ Try.underlying32 rfl (mxT.sz _)) rfl ?_
  exact ⟨A, cp, rfl, H.orow 0 rfl, H.below⟩
set_option maxHeartbeats 800000 in
set_option maxRecDepth 100000 in
theorem Code_bad (k n : Int) (w : World) (h : k < 1 ∨ n < k ∨ 32 < n) : Calls Try.prog 26 #[.int .i64 k, .int .i64 n] w fun e w' => e = .returned (.tuple #[.agg (mxT.enc mxT.zero).toArray, .int .i64 1]) ∧ Below w.heap.size w w' := by
  have H0 := SH.start Nil w
  have hd : (decide (k < 1) = true) ∨ (decide (k < 1) = false ∧ decide (n < k) = true) ∨ (decide (k < 1) = false ∧ decide (n < k) = false ∧ decide (32 < n) = true) := by simp; omega
  clear h
  rcases hd with d1 | ⟨d1, d2⟩ | ⟨d1, d2, d3⟩
  all_goals
    go_enter Try.func26, Try.ntmps26
    go_wp2_with (first
      | ((with_reducible refine gBox ?_); refine wBox1 3 (.int .i64 k) rfl H0 _ rfl rfl rfl ?_; clear H0; intro w1 H1)
      | ((with_reducible refine gAlloc ?_); refine wAlloc mxT H1 rfl rfl ?_; clear H1; intro w2 H2; have kc : w2.cell? ⟨w.heap.size, 0, none⟩ = some (.int .i64 k) := (H2.va 1 rfl).cell 0)
      | ((with_reducible refine gBuild ?_); refine wZero mxT rfl rfl ?_)
      | ((with_reducible refine gStore ?_); refine wStore mxT mxT.zero H2 0 rfl rfl _ _ rfl rfl rfl rfl ?_; clear H2; intro w5 H))
    refine bodyPost_ret (results_cell_tmp rfl _ (H.va 0 rfl) rfl _ Try.underlying32 rfl (mxT.sz _)) rfl ?_
    exact ⟨rfl, H.below⟩
end Go.Proofs.Ytfnneneaalaagaa

namespace Go.Proofs.Ytfnneneaalaagaa
set_option maxRecDepth 100000
open Go.RowKit
set_option linter.unusedSimpArgs false
set_option linter.unusedVariables false

theorem lay_lay1 (cs : List Value) (off : Nat) (vs : List Value) (k : Nat) (v : Value) (h : off + vs.length ≤ cs.length) (hk : k < vs.length) : lay (lay cs off vs) (off + k) [v] = lay cs off (vs.set k v) := by
  have hl : (cs.take off).length = off := by rw [List.length_take]; omega
  have e1 : (lay cs off vs).take (off + k) = cs.take off ++ vs.take k := by
    rw [lay, List.append_assoc, List.take_append, hl, List.take_of_length_le (by omega), Nat.add_sub_cancel_left, List.take_append_of_le_length (by omega)]
  have e2 : (lay cs off vs).drop (off + k + 1) = vs.drop (k + 1) ++ cs.drop (off + vs.length) := by
    rw [lay, List.append_assoc, Nat.add_assoc, ← List.drop_drop, List.drop_left' hl, List.drop_append_of_le_length (by omega)]
  have e3 : vs.set k v = vs.take k ++ (v :: vs.drop (k + 1)) := by rw [List.set_eq_take_append_cons_drop, if_pos hk]
  have e4 : lay cs off (vs.set k v) = cs.take off ++ (vs.take k ++ (v :: vs.drop (k + 1))) ++ cs.drop (off + vs.length) := by rw [lay, List.length_set, e3]
  rw [e4, lay, e1, List.length_singleton, e2]
  simp only [List.append_assoc, List.cons_append, List.nil_append]
theorem lay_same (cs : List Value) (off : Nat) (vs : List Value) (h : (cs.drop off).take vs.length = vs) : lay cs off vs = cs := by
  rw [lay]
  conv => lhs; lhs; rhs; rw [← h]
  rw [← List.drop_drop, List.append_assoc, List.take_append_drop, List.take_append_drop]
theorem lay_at (cs : List Value) (off : Nat) (vs : List Value) (k : Nat) (h : off + vs.length ≤ cs.length) (hk : k < vs.length) : (lay cs off vs)[off + k]? = vs[k]? := by
  have hl : (cs.take off).length = off := by rw [List.length_take]; omega
  rw [lay, List.append_assoc, List.getElem?_append_right (by omega), hl, Nat.add_sub_cancel_left, List.getElem?_append_left hk]
theorem lay_out (cs : List Value) (off : Nat) (vs : List Value) (j : Nat) (h : off + vs.length ≤ cs.length) (hj : j < off ∨ off + vs.length ≤ j) : (lay cs off vs)[j]? = cs[j]? := by
  have hl : (cs.take off).length = off := by rw [List.length_take]; omega
  rw [lay, List.append_assoc]
  rcases hj with hj | hj
  · rw [List.getElem?_append_left (by omega), List.getElem?_take, if_pos hj]
  · rw [List.getElem?_append_right (by omega), hl, List.getElem?_append_right (by omega), List.getElem?_drop]
    congr 1
    omega
theorem SH.block {w : World} {g : Nat} {t : TypeId} {cs : List Value} (h : VA w g t cs) : SH (fun k => k = g) w w [.blk g t cs] :=
  ⟨Chg.refl _ w, fun o ho => by rw [List.mem_singleton.mp ho]; exact h, fun o ho b hb => by rw [List.mem_singleton.mp ho] at hb; exact .inl hb, List.pairwise_singleton _ _⟩
theorem addr_add (g off k : Nat) : (⟨g, off, none⟩ : Addr).add k = ⟨g, off + k, none⟩ := Addr.add_mid g off k

/-- The first k of l are turned by h. -/
def turnK (h : UInt8 → UInt8) (l : List UInt8) (k : Nat) : List UInt8 := (l.take k).map h ++ l.drop k
theorem turnK_len (h : UInt8 → UInt8) (l : List UInt8) (k : Nat) (hk : k ≤ l.length) : (turnK h l k).length = l.length := by simp [turnK]; omega
theorem turnK_at (h : UInt8 → UInt8) (l : List UInt8) (k : Nat) (hk : k < l.length) : (turnK h l k)[k]? = some (l.getD k 0) := by
  rw [turnK, List.getElem?_append_right (by simp; omega), List.length_map, List.length_take, Nat.min_eq_left (by omega), Nat.sub_self, List.getElem?_drop, Nat.add_zero, List.getD_eq_getElem?_getD, List.getElem?_eq_getElem hk]; rfl
theorem turnK_succ (h : UInt8 → UInt8) (l : List UInt8) (k : Nat) (hk : k < l.length) : (turnK h l k).set k (h (l.getD k 0)) = turnK h l (k + 1) := by
  have e : l.drop k = l.getD k 0 :: l.drop (k + 1) := by rw [List.drop_eq_getElem_cons hk, List.getD_eq_getElem?_getD, List.getElem?_eq_getElem hk]; rfl
  have e2 : l.take (k + 1) = l.take k ++ [l.getD k 0] := by rw [List.take_succ_eq_append_getElem hk, List.getD_eq_getElem?_getD, List.getElem?_eq_getElem hk]; rfl
  have hl : ((l.take k).map h).length = k := by simp; omega
  rw [turnK, turnK, e, e2, List.set_append_right _ _ (by omega), hl, Nat.sub_self, List.set_cons_zero, List.map_append, List.append_assoc]; rfl
theorem turnK_all (h : UInt8 → UInt8) (l : List UInt8) : turnK h l l.length = l.map h := by simp [turnK]
theorem turnK_zero (h : UInt8 → UInt8) (l : List UInt8) : turnK h l 0 = l := by simp [turnK]
theorem row_fits {cs : List Value} {off : Nat} {l : List UInt8} (h : (cs.drop off).take l.length = l.map cb) (hp : 0 < l.length) : off + l.length ≤ cs.length := by
  have := congrArg List.length h
  rw [List.length_take, List.length_drop, List.length_map] at this
  omega
set_option maxHeartbeats 800000 in
set_option maxRecDepth 100000 in
theorem scale_any (g off cp : Nat) (t : TypeId) (cs : List Value) (l : List UInt8) (f : UInt8) (w : World) (hv : VA w g t cs) (hcs : (cs.drop off).take l.length = l.map cb) (hp : 0 < l.length) (hn : l.length ≤ 1000) :
    Calls Try.prog 77 #[.slice (some ⟨g, off, none⟩) l.length cp, .int .u8 (f.toNat : Int)] w fun e w' => e = .returned (.tuple #[]) ∧ SH (fun k => k = g) w w' [.blk g t (lay cs off ((l.map fun x => fmul x f).map cb))] := by
  have hlen := row_fits hcs hp
  have H := SH.block hv
  have h0 : lay cs off ((turnK (fun x => fmul x f) l 0).map cb) = cs := by rw [turnK_zero]; exact lay_same cs off _ (by rw [List.length_map]; exact hcs)
  rw [← h0] at H
  have hadd := addr_add g off
  clear h0 hcs hv
  go_enter Try.func77, Try.ntmps77
  go_wp2
  have HA := Lib.hid hadd
  clear hadd
  go_loopw [8] (fun v8 wr => ∃ k : Nat, v8 = .int .i64 (k : Int) ∧ k ≤ l.length ∧ SH (fun k => k = g) w wr [.blk g t (lay cs off ((turnK (fun x => fmul x f) l k).map cb))]) (fun v _ => l.length - (intOf v).toNat)
  case atStart => exact ⟨0, rfl, by omega, H⟩
  case round =>
    obtain ⟨k, rfl, hk, HS⟩ := hrel
    clear H
    by_cases hkn : k < l.length
    · have hki : (k : Int) < (l.length : Int) := by omega
      have hll : ((turnK (fun x => fmul x f) l k).map cb).length = l.length := by rw [List.length_map, turnK_len _ _ _ hk]
      have hcell : wr.cell? ⟨g, off + k, none⟩ = some (.int .u8 ((l.getD k 0).toNat : Int)) := by
        rw [(HS.va 0 rfl).cell, lay_at _ _ _ _ (by omega) (by omega), List.getElem?_map, turnK_at _ _ _ hkn]; rfl
      have hnew : lay (lay cs off ((turnK (fun x => fmul x f) l k).map cb)) (off + k) [cb (fmul (l.getD k 0) f)] = lay cs off ((turnK (fun x => fmul x f) l (k + 1)).map cb) := by
        rw [lay_lay1 _ _ _ _ _ (by omega) (by omega), ← turnK_succ _ _ _ hkn, List.map_set]
      have hadd := HA.out k
      have hlo : off + k + 1 ≤ (lay cs off ((turnK (fun x => fmul x f) l k).map cb)).length := by rw [lay_length _ _ _ (by omega)]; omega
      generalize l.getD k 0 = x at hcell hnew
      have cM := fun W => FMul_any x f W
      generalize fmul x f = y at cM hnew
      have HN := Lib.hid hnew
      have HLO := Lib.hid hlo
      clear hnew hlo hll
      go_wp2_with (first
        | (go_at_call 81; (with_reducible refine (cM _).mono ?_); rintro e w2 ⟨rfl, rfl⟩)
        | ((with_reducible refine gStore ?_); refine wCell 5 (cb y) (by kernel_rfl) rfl rfl HS 0 (off := off + k) rfl HLO.out _ HN.out _ _ rfl rfl rfl rfl ?_; clear HS; intro w3 H3))
      go_roundw
      case rel => exact ⟨k + 1, by go_num, by omega, H3⟩
      case measure => simp [intOf] <;> omega
    · obtain rfl : k = l.length := by omega
      rw [turnK_all] at HS
      go_wp2
      go_end0
      exact ⟨rfl, HS⟩
/-- The first k of a, each joined to that of l. -/
theorem add_step (h : UInt8 → UInt8 → UInt8) (a l : List UInt8) (k : Nat) (ha : a.length = l.length) (hk : k < l.length) :
    ((List.zipWith h (a.take k) (l.take k)) ++ a.drop k).set k (h (a.getD k 0) (l.getD k 0)) = (List.zipWith h (a.take (k + 1)) (l.take (k + 1))) ++ a.drop (k + 1) := by
  have e : a.drop k = a.getD k 0 :: a.drop (k + 1) := by rw [List.drop_eq_getElem_cons (by omega), List.getD_eq_getElem?_getD, List.getElem?_eq_getElem (by omega)]; rfl
  have e2 : ∀ (b : List UInt8), k < b.length → b.take (k + 1) = b.take k ++ [b.getD k 0] := fun b hb => by rw [List.take_succ_eq_append_getElem hb, List.getD_eq_getElem?_getD, List.getElem?_eq_getElem hb]; rfl
  have hl : (List.zipWith h (a.take k) (l.take k)).length = k := by simp; omega
  rw [e, e2 a (by omega), e2 l hk, List.set_append_right _ _ (by omega), hl, Nat.sub_self, List.set_cons_zero, List.zipWith_append (by simp; omega), List.append_assoc]; rfl
def addK (h : UInt8 → UInt8 → UInt8) (a l : List UInt8) (k : Nat) : List UInt8 := (List.zipWith h (a.take k) (l.take k)) ++ a.drop k
theorem addK_len (h : UInt8 → UInt8 → UInt8) (a l : List UInt8) (k : Nat) (ha : a.length = l.length) (hk : k ≤ l.length) : (addK h a l k).length = l.length := by simp [addK]; omega
theorem addK_at (h : UInt8 → UInt8 → UInt8) (a l : List UInt8) (k : Nat) (ha : a.length = l.length) (hk : k < l.length) : (addK h a l k)[k]? = some (a.getD k 0) := by
  have hz : (List.zipWith h (a.take k) (l.take k)).length = k := by simp; omega
  rw [addK, List.getElem?_append_right (by omega), hz, Nat.sub_self, List.getElem?_drop, Nat.add_zero, List.getD_eq_getElem?_getD, List.getElem?_eq_getElem (by omega)]; rfl
def addF (f x y : UInt8) : UInt8 := x ^^^ fmul y f
set_option maxHeartbeats 800000 in
set_option maxRecDepth 100000 in
theorem add_any (g o1 o2 c1 c2 : Nat) (t : TypeId) (cs : List Value) (a l : List UInt8) (f : UInt8) (w : World) (hv : VA w g t cs) (ha : a.length = l.length) (hc1 : (cs.drop o1).take a.length = a.map cb) (hc2 : (cs.drop o2).take l.length = l.map cb) (hp : 0 < l.length) (hn : l.length ≤ 1000) (hap : o1 + l.length ≤ o2 ∨ o2 + l.length ≤ o1) :
    Calls Try.prog 78 #[.slice (some ⟨g, o1, none⟩) l.length c1, .slice (some ⟨g, o2, none⟩) l.length c2, .int .u8 (f.toNat : Int)] w fun e w' => e = .returned (.tuple #[]) ∧ SH (fun k => k = g) w w' [.blk g t (lay cs o1 ((List.zipWith (addF f) a l).map cb))] := by
  have hlen1 := row_fits hc1 (by omega)
  have hlen2 := row_fits hc2 hp
  have H := SH.block hv
  have h0 : lay cs o1 ((addK (addF f) a l 0).map cb) = cs := by
    have e : addK (addF f) a l 0 = a := by simp [addK]
    rw [e]; exact lay_same cs o1 _ (by rw [List.length_map]; exact hc1)
  rw [← h0] at H
  have hat2 : ∀ k, k < l.length → cs[o2 + k]? = some (cb (l.getD k 0)) := fun k hk => by
    have := congrArg (fun x => x[k]?) hc2
    simp only [List.getElem?_take, if_pos hk, List.getElem?_drop, List.getElem?_map] at this
    rw [this, List.getD_eq_getElem?_getD, List.getElem?_eq_getElem hk]; rfl
  have HA := Lib.hid (addr_add g)
  have HAL := Lib.hid ha
  have H2 := Lib.hid hat2
  clear h0 hc1 hc2 hv hat2 ha
  go_enter Try.func78, Try.ntmps78
  go_wp2
  go_loopw [10] (fun v10 wr => ∃ k : Nat, v10 = .int .i64 (k : Int) ∧ k ≤ l.length ∧ SH (fun k => k = g) w wr [.blk g t (lay cs o1 ((addK (addF f) a l k).map cb))]) (fun v _ => l.length - (intOf v).toNat)
  case atStart => exact ⟨0, rfl, by omega, H⟩
  case round =>
    obtain ⟨k, rfl, hk, HS⟩ := hrel
    clear H
    by_cases hkn : k < l.length
    · have hki : (k : Int) < (l.length : Int) := by omega
      have ha := HAL.out
      have hll : ((addK (addF f) a l k).map cb).length = l.length := by rw [List.length_map, addK_len _ _ _ _ ha hk]
      have hcell : wr.cell? ⟨g, o2 + k, none⟩ = some (.int .u8 ((l.getD k 0).toNat : Int)) := by
        rw [(HS.va 0 rfl).cell, lay_out _ _ _ _ (by omega) (by omega)]; exact H2.out k hkn
      have hcell1 : wr.cell? ⟨g, o1 + k, none⟩ = some (.int .u8 ((a.getD k 0).toNat : Int)) := by
        rw [(HS.va 0 rfl).cell, lay_at _ _ _ _ (by omega) (by omega), List.getElem?_map, addK_at _ _ _ _ ha hkn]; rfl
      have hnew : lay (lay cs o1 ((addK (addF f) a l k).map cb)) (o1 + k) [cb (addF f (a.getD k 0) (l.getD k 0))] = lay cs o1 ((addK (addF f) a l (k + 1)).map cb) := by
        rw [lay_lay1 _ _ _ _ _ (by omega) (by omega), addK, addK, ← add_step _ _ _ _ ha hkn, List.map_set]
      have hadd1 := HA.out o1 k
      have hadd2 := HA.out o2 k
      have hlo : o1 + k + 1 ≤ (lay cs o1 ((addK (addF f) a l k).map cb)).length := by rw [lay_length _ _ _ (by omega)]; omega
      generalize l.getD k 0 = x at hcell hnew
      generalize a.getD k 0 = y at hcell1 hnew
      have hq : addF f y x = y ^^^ fmul x f := rfl
      rw [hq] at hnew
      have cM := fun W => FMul_any x f W
      generalize fmul x f = z at cM hnew
      have hxr := xor8 y z
      generalize y ^^^ z = q at hxr hnew
      have HN := Lib.hid hnew
      have HLO := Lib.hid hlo
      have HD := HS.drew
      have HS0 : wr.drew.cell? ⟨g, o1 + k, none⟩ = some (.int .u8 (y.toNat : Int)) := hcell1
      clear hnew hlo hll HS hcell1 ha
      go_wp2
      refine startL (fun w' => w'.cell? ⟨g, o1 + k, none⟩ = some (.int .u8 (y.toNat : Int))) (fun i => i == 9) (by kernel_rfl) ?_
      refine takeP 0 rfl (by kernel_rfl) (by kernel_rfl) (by kernel_rfl) (by kernel_rfl) (fun _ _ _ h => h) rfl (v := ?_) ?_ ?_
      rotate_left
      · intro w'; go_simp; (try with_reducible rfl)
      (try simp only [Act.put, List.setIfInBounds_toArray, List.set_cons_zero, List.set_cons_succ])
      refine takeP 1 rfl (by kernel_rfl) (by kernel_rfl) (by kernel_rfl) (by kernel_rfl) (fun _ _ _ h => h) rfl (v := ?_) ?_ ?_
      rotate_left
      · intro w'; go_simp; (try with_reducible rfl)
      (try simp only [Act.put, List.setIfInBounds_toArray, List.set_cons_zero, List.set_cons_succ])
      refine takeP 2 rfl (by kernel_rfl) (by kernel_rfl) (by kernel_rfl) (by kernel_rfl) (fun _ _ _ h => h) rfl (v := ?_) ?_ ?_
      rotate_left
      · intro w'; go_simp; (try with_reducible rfl)
      (try simp only [Act.put, List.setIfInBounds_toArray, List.set_cons_zero, List.set_cons_succ])
      refine takeL 3 HS0 rfl (by kernel_rfl) (by kernel_rfl) (by kernel_rfl) (by kernel_rfl) (by kernel_rfl) (fun _ _ _ h => h) rfl (v := ?_) ?_ ?_
      rotate_left
      · intro w' hw'; have kq := hw'; clear hw'; go_simp; (try with_reducible rfl)
      (try simp only [Act.put, List.setIfInBounds_toArray, List.set_cons_zero, List.set_cons_succ])
      refine takeP 4 rfl (by kernel_rfl) (by kernel_rfl) (by kernel_rfl) (by kernel_rfl) (fun _ _ _ h => h) rfl (v := ?_) ?_ ?_
      rotate_left
      · intro w'; go_simp; (try with_reducible rfl)
      (try simp only [Act.put, List.setIfInBounds_toArray, List.set_cons_zero, List.set_cons_succ])
      refine takeP 5 rfl (by kernel_rfl) (by kernel_rfl) (by kernel_rfl) (by kernel_rfl) (fun _ _ _ h => h) rfl (v := ?_) ?_ ?_
      rotate_left
      · intro w'; go_simp; (try with_reducible rfl)
      (try simp only [Act.put, List.setIfInBounds_toArray, List.set_cons_zero, List.set_cons_succ])
      refine stepL 6 rfl (by kernel_rfl) rfl (fun K hK => ?_)
      (go_simp; (with_reducible refine (cM _).mono ?_); rintro e w5 ⟨rfl, rfl⟩; refine hK.out _ _ (fun _ _ => HS0) ?_; clear K hK)
      (try simp only [Act.put, List.setIfInBounds_toArray, List.set_cons_zero, List.set_cons_succ])
      refine takeP 7 rfl (by kernel_rfl) (by kernel_rfl) (by kernel_rfl) (by kernel_rfl) (fun _ _ _ h => h) rfl (v := ?_) ?_ ?_
      rotate_left
      · intro w'; go_simp; (try with_reducible rfl)
      (try simp only [Act.put, List.setIfInBounds_toArray, List.set_cons_zero, List.set_cons_succ])
      refine takeP 8 rfl (by kernel_rfl) (by kernel_rfl) (by kernel_rfl) (by kernel_rfl) (fun _ _ _ h => h) rfl (v := ?_) ?_ ?_
      rotate_left
      · intro w'; go_simp; (try with_reducible rfl)
      (try simp only [Act.put, List.setIfInBounds_toArray, List.set_cons_zero, List.set_cons_succ])
      refine stepL 9 rfl (by kernel_rfl) rfl (fun K hK => ?_)
      (refine oCell 5 (cb q) (by kernel_rfl) rfl rfl HD 0 (off := o1 + k) rfl HLO.out _ HN.out _ _ rfl rfl rfl ?_; clear HD; intro w7 HD; refine hK.out _ _ (fun h => by cases h) ?_; clear K hK HS0)
      (try simp only [Act.put, List.setIfInBounds_toArray, List.set_cons_zero, List.set_cons_succ])
      refine doneL (by kernel_rfl) ?_
      go_wp2
      go_roundw
      case rel => exact ⟨k + 1, by go_num, by omega, HD⟩
      case measure => simp [intOf] <;> omega
    · obtain rfl : k = l.length := by omega
      have ha := HAL.out
      have e : addK (addF f) a l l.length = List.zipWith (addF f) a l := by rw [addK, List.take_of_length_le (by omega), List.take_of_length_le (Nat.le_refl _), List.drop_of_length_le (by omega), List.append_nil]
      rw [e] at HS
      clear e ha
      go_wp2
      go_end0
      exact ⟨rfl, HS⟩
end Go.Proofs.Ytfnneneaalaagaa

namespace Go.Proofs.Ytfnneneaalaagaa
set_option maxRecDepth 100000
open Go.RowKit
set_option linter.unusedSimpArgs false
set_option linter.unusedVariables false

def mcells (M : List (List UInt8)) (tail : List Value) : List Value := M.flatten.map cb ++ tail
/-- r rows of c. -/
structure Mat (M : List (List UInt8)) (r c : Nat) : Prop where
  len : M.length = r
  row : ∀ l ∈ M, l.length = c
theorem flat_len {c : Nat} : ∀ (M : List (List UInt8)), (∀ l ∈ M, l.length = c) → M.flatten.length = M.length * c
  | [], _ => by simp
  | l :: M, h => by rw [List.flatten_cons, List.length_append, h l (by simp), flat_len M (fun x hx => h x (by simp [hx])), List.length_cons, Nat.succ_mul, Nat.add_comm]
theorem Mat.flat {M : List (List UInt8)} {r c : Nat} (h : Mat M r c) : M.flatten.length = r * c := by rw [flat_len M h.row, h.len]
theorem Mat.cells {M : List (List UInt8)} {r c : Nat} (h : Mat M r c) (tail : List Value) : (mcells M tail).length = r * c + tail.length := by rw [mcells, List.length_append, List.length_map, h.flat]
theorem Mat.get {M : List (List UInt8)} {r c i : Nat} (h : Mat M r c) (hi : i < r) : (M.getD i []).length = c := by
  rw [List.getD_eq_getElem?_getD, List.getElem?_eq_getElem (by rw [h.len]; exact hi)]
  exact h.row _ (List.getElem_mem _)
theorem Mat.set {M : List (List UInt8)} {r c : Nat} (h : Mat M r c) (i : Nat) (l : List UInt8) (hl : l.length = c) : Mat (M.set i l) r c :=
  ⟨by rw [List.length_set]; exact h.len, fun x hx => by
    rcases List.mem_or_eq_of_mem_set hx with hx | rfl
    · exact h.row x hx
    · exact hl⟩
theorem Mat.split {M : List (List UInt8)} {r c i : Nat} (h : Mat M r c) (hi : i < r) (tail : List Value) (l : List UInt8) :
    mcells (M.set i l) tail = (M.take i).flatten.map cb ++ (l.map cb ++ ((M.drop (i + 1)).flatten.map cb ++ tail)) ∧ ((M.take i).flatten.map cb).length = i * c := by
  have hl : i < M.length := by rw [h.len]; exact hi
  refine ⟨?_, ?_⟩
  · rw [mcells, List.set_eq_take_append_cons_drop, if_pos hl, List.flatten_append, List.flatten_cons, List.map_append, List.map_append]
    simp only [List.append_assoc]
  · rw [List.length_map, flat_len (c := c) _ (fun x hx => h.row x (List.mem_of_mem_take hx)), List.length_take, Nat.min_eq_left (by omega)]
theorem set_getD (M : List (List UInt8)) (i : Nat) : M.set i (M.getD i []) = M := by
  rcases Nat.lt_or_ge i M.length with h | h
  · rw [List.getD_eq_getElem?_getD, List.getElem?_eq_getElem h]; exact List.set_getElem_self h
  · exact List.set_eq_of_length_le h
theorem Mat.self {M : List (List UInt8)} {r c i : Nat} (h : Mat M r c) (hi : i < r) (tail : List Value) :
    mcells M tail = (M.take i).flatten.map cb ++ ((M.getD i []).map cb ++ ((M.drop (i + 1)).flatten.map cb ++ tail)) ∧ ((M.take i).flatten.map cb).length = i * c := by
  have := h.split hi tail (M.getD i [])
  rw [set_getD] at this
  exact this
theorem Mat.lay {M : List (List UInt8)} {r c i : Nat} (h : Mat M r c) (hi : i < r) (tail : List Value) (l : List UInt8) (hl : l.length = c) : lay (mcells M tail) (i * c) (l.map cb) = mcells (M.set i l) tail := by
  obtain ⟨e1, e2⟩ := h.self hi tail
  obtain ⟨e3, _⟩ := h.split hi tail l
  rw [e1, e3, Go.Proofs.Ytfnneneaalaagaa.lay, List.take_left' e2, List.length_map, hl, ← List.drop_drop, List.drop_left' e2, List.drop_left' (by rw [List.length_map, h.get hi]), List.append_assoc]
theorem Mat.rowAt {M : List (List UInt8)} {r c i : Nat} (h : Mat M r c) (hi : i < r) (tail : List Value) : ((mcells M tail).drop (i * c)).take c = (M.getD i []).map cb := by
  obtain ⟨e1, e2⟩ := h.self hi tail
  rw [e1, List.drop_left' e2, List.take_left' (by rw [List.length_map, h.get hi])]
theorem Mat.at_ {M : List (List UInt8)} {r c i k : Nat} (h : Mat M r c) (hi : i < r) (hk : k < c) (tail : List Value) : (mcells M tail)[i * c + k]? = some (cb ((M.getD i []).getD k 0)) := by
  obtain ⟨e1, e2⟩ := h.self hi tail
  have hl := h.get hi
  rw [e1, List.getElem?_append_right (by omega), e2, Nat.add_sub_cancel_left, List.getElem?_append_left (by rw [List.length_map, hl]; exact hk), List.getElem?_map, List.getD_eq_getElem?_getD (l := M.getD i []), List.getElem?_eq_getElem (by omega)]; rfl
theorem Mat.fits {M : List (List UInt8)} {r c i : Nat} (h : Mat M r c) (hi : i < r) (tail : List Value) : i * c + c ≤ (mcells M tail).length := by
  have h2 := Nat.mul_le_mul_right c (show i + 1 ≤ r from hi)
  rw [Nat.add_mul, Nat.one_mul] at h2
  rw [h.cells]
  omega
theorem Mat.set1 {M : List (List UInt8)} {r c i k : Nat} (h : Mat M r c) (hi : i < r) (hk : k < c) (tail : List Value) (x : UInt8) : Go.Proofs.Ytfnneneaalaagaa.lay (mcells M tail) (i * c + k) [cb x] = mcells (M.set i ((M.getD i []).set k x)) tail := by
  have hl := h.get hi
  have e := h.lay hi tail (M.getD i []) hl
  rw [set_getD] at e
  have f := h.fits hi tail
  rw [← h.lay hi tail ((M.getD i []).set k x) (by rw [List.length_set]; exact hl), List.map_set, ← lay_lay1 _ _ _ _ _ (by rw [List.length_map, hl]; exact f) (by rw [List.length_map, hl]; exact hk), e]
/-- The rows that m's elements are. -/
theorem getD_set_self (M : List (List UInt8)) (i : Nat) (l : List UInt8) (h : i < M.length) : (M.set i l).getD i [] = l := by
  rw [List.getD_eq_getElem?_getD, List.getElem?_set_self h]; rfl
theorem getD_set_ne' (M : List (List UInt8)) (i j : Nat) (l : List UInt8) (h : i ≠ j) : (M.set i l).getD j [] = M.getD j [] := by
  rw [List.getD_eq_getElem?_getD, List.getElem?_set_ne h, ← List.getD_eq_getElem?_getD]
def swapK (M : List (List UInt8)) (i j k : Nat) : List (List UInt8) := (M.set i ((M.getD j []).take k ++ (M.getD i []).drop k)).set j ((M.getD i []).take k ++ (M.getD j []).drop k)
theorem take_getD' (b : List UInt8) (k : Nat) (h : k < b.length) : b.take (k + 1) = b.take k ++ [b.getD k 0] := by
  rw [List.take_succ_eq_append_getElem h, List.getD_eq_getElem?_getD, List.getElem?_eq_getElem h]; rfl
theorem mix_set (a b : List UInt8) (k : Nat) (ha : k < a.length) (hab : a.length = b.length) : (a.take k ++ b.drop k).set k (a.getD k 0) = a.take (k + 1) ++ b.drop (k + 1) := by
  have hl : (a.take k).length = k := by rw [List.length_take]; omega
  have e : b.drop k = b.getD k 0 :: b.drop (k + 1) := by rw [List.drop_eq_getElem_cons (by omega), List.getD_eq_getElem?_getD, List.getElem?_eq_getElem (by omega)]; rfl
  rw [e, List.set_append_right _ _ (by omega), hl, Nat.sub_self, List.set_cons_zero, take_getD' a k ha, List.append_assoc]; rfl

theorem set4 {α : Type} (M : List α) (i j : Nat) (hij : i ≠ j) (X Y X' Y' : α) : (((M.set i X).set j Y).set i X').set j Y' = (M.set i X').set j Y' := by
  rw [List.set_comm Y X' (Ne.symm hij), List.set_set, List.set_set]
theorem swapK_step {M : List (List UInt8)} {r c i j k : Nat} (h : Mat M r c) (hi : i < r) (hj : j < r) (hk : k < c) (hij : i ≠ j) :
    Mat (swapK M i j k) r c ∧ ((swapK M i j k).getD i []).getD k 0 = (M.getD i []).getD k 0 ∧ ((swapK M i j k).getD j []).getD k 0 = (M.getD j []).getD k 0 ∧
      ((swapK M i j k).set i (((swapK M i j k).getD i []).set k ((M.getD j []).getD k 0))).set j ((((swapK M i j k).set i (((swapK M i j k).getD i []).set k ((M.getD j []).getD k 0))).getD j []).set k ((M.getD i []).getD k 0)) = swapK M i j (k + 1) := by
  have hli := h.get hi
  have hlj := h.get hj
  obtain ⟨a, ha⟩ : ∃ a, a = M.getD i [] := ⟨_, rfl⟩
  obtain ⟨b, hb⟩ : ∃ b, b = M.getD j [] := ⟨_, rfl⟩
  rw [← ha] at hli
  rw [← hb] at hlj
  have hM : Mat (swapK M i j k) r c := by
    unfold swapK
    rw [← ha, ← hb]
    exact (h.set i _ (by rw [List.length_append, List.length_take, List.length_drop]; omega)).set j _ (by rw [List.length_append, List.length_take, List.length_drop]; omega)
  have ei : (swapK M i j k).getD i [] = b.take k ++ a.drop k := by
    rw [swapK, getD_set_ne' _ _ _ _ (Ne.symm hij), getD_set_self _ _ _ (by rw [h.len]; exact hi), ← ha, ← hb]
  have ej : (swapK M i j k).getD j [] = a.take k ++ b.drop k := by
    rw [swapK, getD_set_self _ _ _ (by rw [List.length_set, h.len]; exact hj), ← ha, ← hb]
  have at_ : ∀ (x y : List UInt8), x.length = c → y.length = c → (x.take k ++ y.drop k).getD k 0 = y.getD k 0 := fun x y hx hy => by
    rw [List.getD_eq_getElem?_getD, List.getElem?_append_right (by rw [List.length_take]; omega), List.length_take, Nat.min_eq_left (by omega), Nat.sub_self, List.getElem?_drop, Nat.add_zero, ← List.getD_eq_getElem?_getD]
  refine ⟨hM, by rw [ei, at_ b a hlj hli, ha], by rw [ej, at_ a b hli hlj, hb], ?_⟩
  rw [getD_set_ne' _ _ _ _ hij, ei, ej, ← ha, ← hb, mix_set b a k (by omega) (by omega), mix_set a b k (by omega) (by omega), swapK, swapK, ← ha, ← hb, set4 _ _ _ hij]
theorem swapK_zero (M : List (List UInt8)) (i j : Nat) : swapK M i j 0 = M := by
  rw [swapK, List.take_zero, List.take_zero, List.nil_append, List.nil_append, List.drop_zero, List.drop_zero, set_getD]
  rcases Nat.lt_or_ge j M.length with h | h
  · exact set_getD M j
  · exact List.set_eq_of_length_le h
def swapM (M : List (List UInt8)) (i j : Nat) : List (List UInt8) := (M.set i (M.getD j [])).set j (M.getD i [])
theorem swapK_all {M : List (List UInt8)} {r c i j : Nat} (h : Mat M r c) (hi : i < r) (hj : j < r) : swapK M i j c = swapM M i j := by
  have hli := h.get hi
  have hlj := h.get hj
  rw [swapK, swapM, List.take_of_length_le (by omega), List.take_of_length_le (by omega), List.drop_of_length_le (by omega), List.drop_of_length_le (by omega), List.append_nil, List.append_nil]
theorem swapM_self (M : List (List UInt8)) (i : Nat) : swapM M i i = M := by rw [swapM, List.set_set, set_getD]
end Go.Proofs.Ytfnneneaalaagaa

namespace Go.Proofs.Ytfnneneaalaagaa
set_option maxRecDepth 100000
open Go.RowKit
set_option linter.unusedSimpArgs false
set_option linter.unusedVariables false

/-- m.row(i) of a matrix whose elements begin a block. -/
theorem row_blk (r : Int) (c i g n cp : Nat) (w : World) (hc : 0 < c) (hn : (i + 1) * c ≤ n) (hcp : n ≤ cp) (hb : n ≤ 1000000) :
    Calls Try.prog 51 #[.agg (mxT.enc (r, (c : Int), some ⟨g, 0, none⟩, n, cp)).toArray, .int .i64 (i : Int)] w fun e w' => e = .returned (.slice (some ⟨g, i * c, none⟩) c c) ∧ Below w.heap.size w w' :=
  (row_any r c i ⟨g, 0, none⟩ n cp w hc hn hcp hb).mono fun e w' ⟨h1, h2⟩ => ⟨by rw [h1, addr_add, Nat.zero_add], h2⟩
theorem row_in {r c i : Nat} (hi : i < r) : (i + 1) * c ≤ r * c := Nat.mul_le_mul_right c hi
set_option maxHeartbeats 1600000 in
set_option maxRecDepth 100000 in
theorem swap_any (M : List (List UInt8)) (tail : List Value) (r c i j g cp : Nat) (t : TypeId) (w : World) (hM : Mat M r c) (hv : VA w g t (mcells M tail)) (hi : i < r) (hj : j < r) (hc : 0 < c) (hr : r ≤ 64) (hc2 : c ≤ 64) (hcp : r * c ≤ cp) :
    Calls Try.prog 76 #[.agg (mxT.enc ((r : Int), (c : Int), some ⟨g, 0, none⟩, r * c, cp)).toArray, .int .i64 (i : Int), .int .i64 (j : Int)] w fun e w' => e = .returned (.tuple #[]) ∧ SH (fun k => k = g) w w' [.blk g t (mcells (swapM M i j) tail)] := by
  have H0 := SH.block hv
  obtain ⟨n, hn⟩ : ∃ n, n = r * c := ⟨_, rfl⟩
  have hn2 : n ≤ 64 * 64 := by rw [hn]; exact Nat.mul_le_mul hr hc2
  have cR := fun (W : World) (q : Nat) (hq : q < r) => row_blk (r : Int) c q g n cp W hc (by rw [hn]; exact row_in hq) (by omega) (by omega)
  rw [← hn]
  have c1 := fun W => cR W i hi
  have c2 := fun W => cR W j hj
  have HM := Lib.hid hM
  have C1 := Lib.hid c1
  have C2 := Lib.hid c2
  have HA := Lib.hid (addr_add g)
  have hci : (c : Int) ≤ 64 := by omega
  clear cR c1 c2 hv hn hcp hM
  go_enter Try.func76, Try.ntmps76
  go_wp2_with (first
    | ((with_reducible refine gBox ?_); refine wBox mxT ((r : Int), (c : Int), some ⟨g, 0, none⟩, n, cp) H0 _ rfl rfl rfl ?_; clear H0; intro w1 H1))
  have H := H1.drew
  clear H1
  refine startE (none) (by kernel_rfl) ?_
  refine takeE 0 rfl (by kernel_rfl) (by kernel_rfl) (by kernel_rfl) (fun _ _ _ h => h) rfl (v := ?_) ?_ ?_
  rotate_left
  · intro w' hw'; refine Eq.trans (exec_load 32 _ rfl w.heap.size 0 rfl (mxT.enc ((r : Int), (c : Int), some ⟨g, 0, none⟩, n, cp)) _ (VA.all ((H.va 0 rfl).below (grown_none hw'))) Try.underlying32 rfl (mxT.sz _)) ?_; with_reducible rfl
  (try simp only [Act.put, List.setIfInBounds_toArray, List.set_cons_zero, List.set_cons_succ])
  refine takeE 1 rfl (by kernel_rfl) (by kernel_rfl) (by kernel_rfl) (fun _ _ _ h => h) rfl (v := ?_) ?_ ?_
  rotate_left
  · intro w' hw'; clear hw'; go_simp; (try with_reducible rfl)
  (try simp only [Act.put, List.setIfInBounds_toArray, List.set_cons_zero, List.set_cons_succ])
  refine takeE 3 rfl (by kernel_rfl) (by kernel_rfl) (by kernel_rfl) (fun _ _ _ h => h) rfl (v := ?_) ?_ ?_
  rotate_left
  · intro w' hw'; refine Eq.trans (exec_load 32 _ rfl w.heap.size 0 rfl (mxT.enc ((r : Int), (c : Int), some ⟨g, 0, none⟩, n, cp)) _ (VA.all ((H.va 0 rfl).below (grown_none hw'))) Try.underlying32 rfl (mxT.sz _)) ?_; with_reducible rfl
  (try simp only [Act.put, List.setIfInBounds_toArray, List.set_cons_zero, List.set_cons_succ])
  refine takeE 4 rfl (by kernel_rfl) (by kernel_rfl) (by kernel_rfl) (fun _ _ _ h => h) rfl (v := ?_) ?_ ?_
  rotate_left
  · intro w' hw'; clear hw'; go_simp; (try with_reducible rfl)
  (try simp only [Act.put, List.setIfInBounds_toArray, List.set_cons_zero, List.set_cons_succ])
  refine stepE 2 rfl (by kernel_rfl) rfl (fun K hK => ?_)
  (go_simp; (with_reducible refine (C1.out _).mono ?_); rintro e w5 ⟨rfl, hb⟩; refine K_out hK hb ?_; clear K hK; replace H := H.step hb; clear hb)
  (try simp only [Act.put, List.setIfInBounds_toArray, List.set_cons_zero, List.set_cons_succ])
  refine stepE 5 rfl (by kernel_rfl) rfl (fun K hK => ?_)
  (go_simp; (with_reducible refine (C2.out _).mono ?_); rintro e w5 ⟨rfl, hb⟩; refine K_out hK hb ?_; clear K hK; replace H := H.step hb; clear hb)
  (try simp only [Act.put, List.setIfInBounds_toArray, List.set_cons_zero, List.set_cons_succ])
  refine takeE 6 rfl (by kernel_rfl) (by kernel_rfl) (by kernel_rfl) (fun _ _ _ h => h) rfl (v := ?_) ?_ ?_
  rotate_left
  · intro w' hw'; clear hw'; go_simp; (try with_reducible rfl)
  (try simp only [Act.put, List.setIfInBounds_toArray, List.set_cons_zero, List.set_cons_succ])
  refine takeE 7 rfl (by kernel_rfl) (by kernel_rfl) (by kernel_rfl) (fun _ _ _ h => h) rfl (v := ?_) ?_ ?_
  rotate_left
  · intro w' hw'; clear hw'; go_simp; (try with_reducible rfl)
  (try simp only [Act.put, List.setIfInBounds_toArray, List.set_cons_zero, List.set_cons_succ])
  refine doneE (by kernel_rfl) ?_
  replace H := H.tail
  go_wp2
  have hfit : ∀ (N : List (List UInt8)) (q k : Nat), Mat N r c → q < r → k < c → q * c + k + 1 ≤ (mcells N tail).length := fun N q k hN hq hk => by have := hN.fits hq tail; omega
  have HF := Lib.hid hfit
  clear hfit
  by_cases hij : i = j
  · subst hij
    go_loopw [17] (fun v17 wr => ∃ k : Nat, v17 = .int .i64 (k : Int) ∧ k ≤ c ∧ SH (fun k => k = g) w wr [.blk g t (mcells M tail)]) (fun v _ => c - (intOf v).toNat)
    case atStart => exact ⟨0, rfl, by omega, H⟩
    case round =>
      obtain ⟨k, rfl, hk, HS⟩ := hrel
      clear H
      by_cases hkn : k < c
      · have hki : (k : Int) < (c : Int) := by omega
        have hM := HM.out
        have hcell : wr.cell? ⟨g, i * c + k, none⟩ = some (.int .u8 (((M.getD i []).getD k 0).toNat : Int)) := by
          rw [(HS.va 0 rfl).cell, hM.at_ hi hkn]
        have hnew := hM.set1 hi hkn tail ((M.getD i []).getD k 0)
        have e : (M.getD i []).set k ((M.getD i []).getD k 0) = M.getD i [] := by
          have hl := hM.get hi
          rw [List.getD_eq_getElem?_getD (l := M.getD i []), List.getElem?_eq_getElem (by omega)]; exact List.set_getElem_self _
        rw [e, set_getD] at hnew
        have hadd := HA.out (i * c) k
        generalize (M.getD i []).getD k 0 = x at hcell hnew
        have HN := Lib.hid hnew
        have HLO := Lib.hid (HF.out M i k hM hi hkn)
        have HD := HS.drew
        have HS0 : wr.drew.cell? ⟨g, i * c + k, none⟩ = some (.int .u8 (x.toNat : Int)) := hcell
        clear hnew HS hcell hM e
        generalize i * c = oi at *
        go_wp2
        refine startL (fun w' => w'.cell? ⟨g, oi + k, none⟩ = some (.int .u8 (x.toNat : Int))) (fun i => i == 13 || i == 15) (by kernel_rfl) ?_
        refine takeP 0 rfl (by kernel_rfl) (by kernel_rfl) (by kernel_rfl) (by kernel_rfl) (fun _ _ _ h => h) rfl (v := ?_) ?_ ?_
        rotate_left
        · intro w'; go_simp; (try with_reducible rfl)
        (try simp only [Act.put, List.setIfInBounds_toArray, List.set_cons_zero, List.set_cons_succ])
        refine takeP 1 rfl (by kernel_rfl) (by kernel_rfl) (by kernel_rfl) (by kernel_rfl) (fun _ _ _ h => h) rfl (v := ?_) ?_ ?_
        rotate_left
        · intro w'; go_simp; (try with_reducible rfl)
        (try simp only [Act.put, List.setIfInBounds_toArray, List.set_cons_zero, List.set_cons_succ])
        refine takeP 2 rfl (by kernel_rfl) (by kernel_rfl) (by kernel_rfl) (by kernel_rfl) (fun _ _ _ h => h) rfl (v := ?_) ?_ ?_
        rotate_left
        · intro w'; go_simp; (try with_reducible rfl)
        (try simp only [Act.put, List.setIfInBounds_toArray, List.set_cons_zero, List.set_cons_succ])
        refine takeP 3 rfl (by kernel_rfl) (by kernel_rfl) (by kernel_rfl) (by kernel_rfl) (fun _ _ _ h => h) rfl (v := ?_) ?_ ?_
        rotate_left
        · intro w'; go_simp; (try with_reducible rfl)
        (try simp only [Act.put, List.setIfInBounds_toArray, List.set_cons_zero, List.set_cons_succ])
        refine takeP 4 rfl (by kernel_rfl) (by kernel_rfl) (by kernel_rfl) (by kernel_rfl) (fun _ _ _ h => h) rfl (v := ?_) ?_ ?_
        rotate_left
        · intro w'; go_simp; (try with_reducible rfl)
        (try simp only [Act.put, List.setIfInBounds_toArray, List.set_cons_zero, List.set_cons_succ])
        refine takeP 5 rfl (by kernel_rfl) (by kernel_rfl) (by kernel_rfl) (by kernel_rfl) (fun _ _ _ h => h) rfl (v := ?_) ?_ ?_
        rotate_left
        · intro w'; go_simp; (try with_reducible rfl)
        (try simp only [Act.put, List.setIfInBounds_toArray, List.set_cons_zero, List.set_cons_succ])
        refine takeP 6 rfl (by kernel_rfl) (by kernel_rfl) (by kernel_rfl) (by kernel_rfl) (fun _ _ _ h => h) rfl (v := ?_) ?_ ?_
        rotate_left
        · intro w'; go_simp; (try with_reducible rfl)
        (try simp only [Act.put, List.setIfInBounds_toArray, List.set_cons_zero, List.set_cons_succ])
        refine takeL 7 HS0 rfl (by kernel_rfl) (by kernel_rfl) (by kernel_rfl) (by kernel_rfl) (by kernel_rfl) (fun _ _ _ h => h) rfl (v := ?_) ?_ ?_
        rotate_left
        · intro w' hw'; have kq := hw'; clear hw'; go_simp; (try with_reducible rfl)
        (try simp only [Act.put, List.setIfInBounds_toArray, List.set_cons_zero, List.set_cons_succ])
        refine takeP 8 rfl (by kernel_rfl) (by kernel_rfl) (by kernel_rfl) (by kernel_rfl) (fun _ _ _ h => h) rfl (v := ?_) ?_ ?_
        rotate_left
        · intro w'; go_simp; (try with_reducible rfl)
        (try simp only [Act.put, List.setIfInBounds_toArray, List.set_cons_zero, List.set_cons_succ])
        refine takeP 9 rfl (by kernel_rfl) (by kernel_rfl) (by kernel_rfl) (by kernel_rfl) (fun _ _ _ h => h) rfl (v := ?_) ?_ ?_
        rotate_left
        · intro w'; go_simp; (try with_reducible rfl)
        (try simp only [Act.put, List.setIfInBounds_toArray, List.set_cons_zero, List.set_cons_succ])
        refine takeP 10 rfl (by kernel_rfl) (by kernel_rfl) (by kernel_rfl) (by kernel_rfl) (fun _ _ _ h => h) rfl (v := ?_) ?_ ?_
        rotate_left
        · intro w'; go_simp; (try with_reducible rfl)
        (try simp only [Act.put, List.setIfInBounds_toArray, List.set_cons_zero, List.set_cons_succ])
        refine takeL 11 HS0 rfl (by kernel_rfl) (by kernel_rfl) (by kernel_rfl) (by kernel_rfl) (by kernel_rfl) (fun _ _ _ h => h) rfl (v := ?_) ?_ ?_
        rotate_left
        · intro w' hw'; have kq := hw'; clear hw'; go_simp; (try with_reducible rfl)
        (try simp only [Act.put, List.setIfInBounds_toArray, List.set_cons_zero, List.set_cons_succ])
        refine takeP 12 rfl (by kernel_rfl) (by kernel_rfl) (by kernel_rfl) (by kernel_rfl) (fun _ _ _ h => h) rfl (v := ?_) ?_ ?_
        rotate_left
        · intro w'; go_simp; (try with_reducible rfl)
        (try simp only [Act.put, List.setIfInBounds_toArray, List.set_cons_zero, List.set_cons_succ])
        refine stepL 13 rfl (by kernel_rfl) rfl (fun K hK => ?_)
        (refine oCell 5 (cb x) (by kernel_rfl) rfl rfl HD 0 (off := oi + k) rfl HLO.out _ HN.out _ _ rfl rfl rfl ?_; clear HD; intro w7 HD; refine hK.out _ _ (fun h => by cases h) ?_; clear K hK HS0)
        (try simp only [Act.put, List.setIfInBounds_toArray, List.set_cons_zero, List.set_cons_succ])
        refine takeP 14 rfl (by kernel_rfl) (by kernel_rfl) (by kernel_rfl) (by kernel_rfl) (fun _ _ _ h => h) rfl (v := ?_) ?_ ?_
        rotate_left
        · intro w'; go_simp; (try with_reducible rfl)
        (try simp only [Act.put, List.setIfInBounds_toArray, List.set_cons_zero, List.set_cons_succ])
        refine stepL 15 rfl (by kernel_rfl) rfl (fun K hK => ?_)
        (refine oCell 5 (cb x) (by kernel_rfl) rfl rfl HD 0 (off := oi + k) rfl HLO.out _ HN.out _ _ rfl rfl rfl ?_; clear HD; intro w8 HD; refine hK.out _ _ (fun h => by cases h) ?_; clear K hK)
        (try simp only [Act.put, List.setIfInBounds_toArray, List.set_cons_zero, List.set_cons_succ])
        refine doneL (by kernel_rfl) ?_
        go_wp2
        go_roundw
        case rel => exact ⟨k + 1, by go_num, by omega, HD⟩
        case measure => simp [intOf] <;> omega
      · obtain rfl : k = c := by omega
        go_wp2
        go_end0
        exact ⟨rfl, by rw [swapM_self]; exact HS⟩
  · rw [← swapK_zero M i j] at H
    go_loopw [17] (fun v17 wr => ∃ k : Nat, v17 = .int .i64 (k : Int) ∧ k ≤ c ∧ SH (fun k => k = g) w wr [.blk g t (mcells (swapK M i j k) tail)]) (fun v _ => c - (intOf v).toNat)
    case atStart => exact ⟨0, rfl, by omega, H⟩
    case round =>
      obtain ⟨k, rfl, hk, HS⟩ := hrel
      clear H
      by_cases hkn : k < c
      · have hki : (k : Int) < (c : Int) := by omega
        have hM := HM.out
        obtain ⟨hN, hx, hy, hst⟩ := swapK_step hM hi hj hkn hij
        have hc1 : wr.cell? ⟨g, i * c + k, none⟩ = some (.int .u8 (((M.getD i []).getD k 0).toNat : Int)) := by
          rw [(HS.va 0 rfl).cell, hN.at_ hi hkn, hx]
        have hc2 : wr.cell? ⟨g, j * c + k, none⟩ = some (.int .u8 (((M.getD j []).getD k 0).toNat : Int)) := by
          rw [(HS.va 0 rfl).cell, hN.at_ hj hkn, hy]
        have hn1 := hN.set1 hi hkn tail ((M.getD j []).getD k 0)
        have hN1 := hN.set i (((swapK M i j k).getD i []).set k ((M.getD j []).getD k 0)) (by rw [List.length_set]; exact hN.get hi)
        have hn2 := hN1.set1 hj hkn tail ((M.getD i []).getD k 0)
        rw [hst] at hn2
        have hadd1 := HA.out (i * c) k
        have hadd2 := HA.out (j * c) k
        generalize (swapK M i j k).set i (((swapK M i j k).getD i []).set k ((M.getD j []).getD k 0)) = N1 at hn1 hN1 hn2 hst
        generalize (M.getD i []).getD k 0 = x at *
        generalize (M.getD j []).getD k 0 = y at *
        have HN1 := Lib.hid hn1
        have HN2 := Lib.hid hn2
        have HLO1 := Lib.hid (HF.out _ i k hN hi hkn)
        have HLO2 := Lib.hid (HF.out _ j k hN1 hj hkn)
        have HD := HS.drew
        have HS0 : wr.drew.cell? ⟨g, i * c + k, none⟩ = some (.int .u8 (x.toNat : Int)) ∧ wr.drew.cell? ⟨g, j * c + k, none⟩ = some (.int .u8 (y.toNat : Int)) := ⟨hc1, hc2⟩
        clear hn1 hn2 HS hc1 hc2 hM hN hN1 hx hy hst
        generalize i * c = oi at *
        generalize j * c = oj at *
        go_wp2
        refine startL (fun w' => w'.cell? ⟨g, oi + k, none⟩ = some (.int .u8 (x.toNat : Int)) ∧ w'.cell? ⟨g, oj + k, none⟩ = some (.int .u8 (y.toNat : Int))) (fun i => i == 13 || i == 15) (by kernel_rfl) ?_
        refine takeP 0 rfl (by kernel_rfl) (by kernel_rfl) (by kernel_rfl) (by kernel_rfl) (fun _ _ _ h => h) rfl (v := ?_) ?_ ?_
        rotate_left
        · intro w'; go_simp; (try with_reducible rfl)
        (try simp only [Act.put, List.setIfInBounds_toArray, List.set_cons_zero, List.set_cons_succ])
        refine takeP 1 rfl (by kernel_rfl) (by kernel_rfl) (by kernel_rfl) (by kernel_rfl) (fun _ _ _ h => h) rfl (v := ?_) ?_ ?_
        rotate_left
        · intro w'; go_simp; (try with_reducible rfl)
        (try simp only [Act.put, List.setIfInBounds_toArray, List.set_cons_zero, List.set_cons_succ])
        refine takeP 2 rfl (by kernel_rfl) (by kernel_rfl) (by kernel_rfl) (by kernel_rfl) (fun _ _ _ h => h) rfl (v := ?_) ?_ ?_
        rotate_left
        · intro w'; go_simp; (try with_reducible rfl)
        (try simp only [Act.put, List.setIfInBounds_toArray, List.set_cons_zero, List.set_cons_succ])
        refine takeP 3 rfl (by kernel_rfl) (by kernel_rfl) (by kernel_rfl) (by kernel_rfl) (fun _ _ _ h => h) rfl (v := ?_) ?_ ?_
        rotate_left
        · intro w'; go_simp; (try with_reducible rfl)
        (try simp only [Act.put, List.setIfInBounds_toArray, List.set_cons_zero, List.set_cons_succ])
        refine takeP 4 rfl (by kernel_rfl) (by kernel_rfl) (by kernel_rfl) (by kernel_rfl) (fun _ _ _ h => h) rfl (v := ?_) ?_ ?_
        rotate_left
        · intro w'; go_simp; (try with_reducible rfl)
        (try simp only [Act.put, List.setIfInBounds_toArray, List.set_cons_zero, List.set_cons_succ])
        refine takeP 5 rfl (by kernel_rfl) (by kernel_rfl) (by kernel_rfl) (by kernel_rfl) (fun _ _ _ h => h) rfl (v := ?_) ?_ ?_
        rotate_left
        · intro w'; go_simp; (try with_reducible rfl)
        (try simp only [Act.put, List.setIfInBounds_toArray, List.set_cons_zero, List.set_cons_succ])
        refine takeP 6 rfl (by kernel_rfl) (by kernel_rfl) (by kernel_rfl) (by kernel_rfl) (fun _ _ _ h => h) rfl (v := ?_) ?_ ?_
        rotate_left
        · intro w'; go_simp; (try with_reducible rfl)
        (try simp only [Act.put, List.setIfInBounds_toArray, List.set_cons_zero, List.set_cons_succ])
        refine takeL 7 HS0 rfl (by kernel_rfl) (by kernel_rfl) (by kernel_rfl) (by kernel_rfl) (by kernel_rfl) (fun _ _ _ h => h) rfl (v := ?_) ?_ ?_
        rotate_left
        · intro w' hw'; have kq := hw'.2; clear hw'; go_simp; (try with_reducible rfl)
        (try simp only [Act.put, List.setIfInBounds_toArray, List.set_cons_zero, List.set_cons_succ])
        refine takeP 8 rfl (by kernel_rfl) (by kernel_rfl) (by kernel_rfl) (by kernel_rfl) (fun _ _ _ h => h) rfl (v := ?_) ?_ ?_
        rotate_left
        · intro w'; go_simp; (try with_reducible rfl)
        (try simp only [Act.put, List.setIfInBounds_toArray, List.set_cons_zero, List.set_cons_succ])
        refine takeP 9 rfl (by kernel_rfl) (by kernel_rfl) (by kernel_rfl) (by kernel_rfl) (fun _ _ _ h => h) rfl (v := ?_) ?_ ?_
        rotate_left
        · intro w'; go_simp; (try with_reducible rfl)
        (try simp only [Act.put, List.setIfInBounds_toArray, List.set_cons_zero, List.set_cons_succ])
        refine takeP 10 rfl (by kernel_rfl) (by kernel_rfl) (by kernel_rfl) (by kernel_rfl) (fun _ _ _ h => h) rfl (v := ?_) ?_ ?_
        rotate_left
        · intro w'; go_simp; (try with_reducible rfl)
        (try simp only [Act.put, List.setIfInBounds_toArray, List.set_cons_zero, List.set_cons_succ])
        refine takeL 11 HS0 rfl (by kernel_rfl) (by kernel_rfl) (by kernel_rfl) (by kernel_rfl) (by kernel_rfl) (fun _ _ _ h => h) rfl (v := ?_) ?_ ?_
        rotate_left
        · intro w' hw'; have kq := hw'.1; clear hw'; go_simp; (try with_reducible rfl)
        (try simp only [Act.put, List.setIfInBounds_toArray, List.set_cons_zero, List.set_cons_succ])
        refine takeP 12 rfl (by kernel_rfl) (by kernel_rfl) (by kernel_rfl) (by kernel_rfl) (fun _ _ _ h => h) rfl (v := ?_) ?_ ?_
        rotate_left
        · intro w'; go_simp; (try with_reducible rfl)
        (try simp only [Act.put, List.setIfInBounds_toArray, List.set_cons_zero, List.set_cons_succ])
        refine stepL 13 rfl (by kernel_rfl) rfl (fun K hK => ?_)
        (refine oCell 5 (cb y) (by kernel_rfl) rfl rfl HD 0 (off := oi + k) rfl HLO1.out _ HN1.out _ _ rfl rfl rfl ?_; clear HD; intro w7 HD; refine hK.out _ _ (fun h => by cases h) ?_; clear K hK HS0)
        (try simp only [Act.put, List.setIfInBounds_toArray, List.set_cons_zero, List.set_cons_succ])
        refine takeP 14 rfl (by kernel_rfl) (by kernel_rfl) (by kernel_rfl) (by kernel_rfl) (fun _ _ _ h => h) rfl (v := ?_) ?_ ?_
        rotate_left
        · intro w'; go_simp; (try with_reducible rfl)
        (try simp only [Act.put, List.setIfInBounds_toArray, List.set_cons_zero, List.set_cons_succ])
        refine stepL 15 rfl (by kernel_rfl) rfl (fun K hK => ?_)
        (refine oCell 5 (cb x) (by kernel_rfl) rfl rfl HD 0 (off := oj + k) rfl HLO2.out _ HN2.out _ _ rfl rfl rfl ?_; clear HD; intro w8 HD; refine hK.out _ _ (fun h => by cases h) ?_; clear K hK)
        (try simp only [Act.put, List.setIfInBounds_toArray, List.set_cons_zero, List.set_cons_succ])
        refine doneL (by kernel_rfl) ?_
        go_wp2
        go_roundw
        case rel => exact ⟨k + 1, by go_num, by omega, HD⟩
        case measure => simp [intOf] <;> omega
      · obtain rfl : k = c := by omega
        rw [swapK_all HM.out hi hj] at HS
        go_wp2
        go_end0
        exact ⟨rfl, HS⟩
end Go.Proofs.Ytfnneneaalaagaa

namespace Go.Proofs.Ytfnneneaalaagaa
set_option maxRecDepth 100000
open Go.RowKit
set_option linter.unusedSimpArgs false
set_option linter.unusedVariables false

theorem addr_add2 (ad : Addr) (p j : Nat) : (ad.add p).add j = ad.add (p + j) := by
  unfold Addr.add
  by_cases h1 : p = 0 <;> by_cases h2 : j = 0 <;> simp [h1, h2, Nat.add_assoc]
def colL (l : List UInt8) (r c j : Nat) : List UInt8 := (List.range r).map fun i => l.getD (i * c + j) 0
theorem colL_len (l : List UInt8) (r c j : Nat) : (colL l r c j).length = r := by simp [colL]
theorem colL_succ (l : List UInt8) (r c j : Nat) : colL l (r + 1) c j = colL l r c j ++ [l.getD (r * c + j) 0] := by simp [colL, List.range_succ]
def relC (l : List UInt8) (r c j : Nat) (m : MX) (w : World) (bm : Nat) (v12 v5 : Value) (wr : World) : Prop := ∃ (i : Nat), v12 = .int .i64 (i : Int) ∧ i ≤ r ∧ SH Nil w wr [.row B8 v5 (colL l i c j), .blk bm 32 (mxC m)]
set_option maxHeartbeats 1600000 in
set_option maxRecDepth 100000 in
theorem column_any (l : List UInt8) (r c j : Nat) (ad : Addr) (cp : Nat) (w : World) (hv : RB w (.slice (some ad) (r * c) cp) l) (hl : l.length = r * c) (hr : r ≤ 64) (hc : c ≤ 64) (hj : j < c) (hcp : r * c ≤ cp) :
    Calls Try.prog 66 #[.agg (mxT.enc ((r : Int), (c : Int), some ad, r * c, cp)).toArray, .int .i64 (j : Int)] w fun e w' => ∃ v, e = .returned v ∧ OB w' w.heap.size v (colL l r c j) ∧ Below w.heap.size w w' := by
  have H0 := SH.start Nil w
  obtain ⟨n, hn⟩ : ∃ n, n = r * c := ⟨_, rfl⟩
  have hn2 : n ≤ 64 * 64 := by rw [hn]; exact Nat.mul_le_mul hr hc
  rw [← hn] at hv hl hcp ⊢
  have cR := fun (W : World) (q : Nat) (hq : q < r) => row_any (r : Int) c q ad n cp W (by omega) (by rw [hn]; exact row_in hq) (by omega) (by omega)
  have hcell : ∀ k, k < n → w.cell? (ad.add k) = some (.int .u8 ((l.getD k 0).toNat : Int)) := fun k hk => by
    obtain ⟨A2, c2, e, _, _, h3⟩ := hv
    injection e with e1 e2 e3
    subst e1
    obtain ⟨ad', e4, hcc⟩ := h3 (by omega)
    injection e4 with e4
    subst e4
    refine hcc k _ ?_
    rw [U8_all, List.getElem?_map, List.getD_eq_getElem?_getD, List.getElem?_eq_getElem (by omega)]
    rfl
  have hq : ∀ i, i < r → i * c + j < n := fun i hi => by
    have := row_in (c := c) hi
    rw [Nat.add_mul, Nat.one_mul] at this
    omega
  have CR := Lib.hid cR
  have HC := Lib.hid hcell
  have HQ := Lib.hid hq
  have HA := Lib.hid (addr_add2 ad)
  have hji : (j : Int) < (c : Int) := by omega
  have hri : (r : Int) ≤ 64 := by omega
  have hci : (c : Int) ≤ 64 := by omega
  clear cR hcell hq hv hl hcp hn
  go_enter Try.func66, Try.ntmps66
  go_wp2_with (first
    | ((with_reducible refine gBox ?_); refine wBox mxT ((r : Int), (c : Int), some ad, n, cp) H0 _ rfl rfl rfl ?_; clear H0; intro w1 H1; have k0 : w1.cell? ⟨w.heap.size, 0, none⟩ = some (.int .i64 (r : Int)) := (H1.va 0 rfl).cell 0)
    | ((with_reducible refine gMake ?_); refine wMake0 r (by omega) H1 _ _ rfl rfl rfl rfl ?_; clear H1; intro w2 H2; have k1 : w2.cell? ⟨w.heap.size, 0, none⟩ = some (.int .i64 (r : Int)) := (H2.va 1 rfl).cell 0))
  clear k0
  have K1 := Lib.hid k1
  clear k1
  go_loopw [12, 5] (fun v12 v5 wr => relC l r c j ((r : Int), (c : Int), some ad, n, cp) w w.heap.size v12 v5 wr) (fun v _ _ => r - (intOf v).toNat)
  case atStart => exact ⟨0, rfl, by omega, H2⟩
  case round =>
    obtain ⟨i, rfl, hi, HS⟩ := hrel
    clear H2
    by_cases hir : i < r
    · have hii : (i : Int) < (r : Int) := by omega
      have c1 := fun W => CR.out W i hir
      have hcl := cell_below HS.below (HC.out (i * c + j) (HQ.out i hir))
      have hadd := HA.out (i * c) j
      have hs := colL_succ l i c j
      have hln : (colL l i c j).length ≤ 64 := by rw [colL_len]; omega
      generalize l.getD (i * c + j) 0 = x at hcl hs
      have HSS := Lib.hid hs
      have HLN := Lib.hid hln
      have HCL := Lib.hid hcl
      clear hs hln hcl
      go_wp2_with (first
        | ((with_reducible refine gLoad ?_); refine wLoad mxT ((r : Int), (c : Int), some ad, n, cp) HS 1 rfl rfl _ rfl rfl rfl ?_)
        | (go_at_call 51; (with_reducible refine (c1 _).mono ?_); rintro e w5 ⟨rfl, hb⟩; have H5 := HS.step hb; have hcl := cell_below hb HCL.out; clear HS hb)
        | (at_builtin; refine wAppLit sB [x] #[.int .u8 (x.toNat : Int)] rfl (by simp) 1 rfl H5 0 rfl (by have := HLN.out; show (_ + 1) * 1 ≤ _; omega) _ _ rfl rfl rfl rfl ?_; clear H5; intro v6 w6 H6; rw [← HSS.out] at H6))
      go_roundw
      case rel => first | exact ⟨i + 1, by go_num, by omega, H6⟩ | exact ⟨_, _, ⟨i + 1, by go_num, by omega, H6⟩, rfl, rfl⟩
      case measure => simp [intOf] <;> omega
    · obtain rfl : i = r := by omega
      go_wp2
      go_ret
      exact ⟨_, rfl, HS.orow 0 rfl, HS.below⟩
def nzR : List UInt8 → Nat → Int
  | [], _ => -1
  | x :: r, k => if x = 0 then nzR r (k + 1) else (k : Int)
/-- The place of the first that is not 0; -1: there is none. -/
def nzI (l : List UInt8) : Int := nzR l 0
theorem nzR_range : ∀ (l : List UInt8) (k : Nat), nzR l k = -1 ∨ ((k : Int) ≤ nzR l k ∧ nzR l k < (k : Int) + (l.length : Int))
  | [], k => .inl rfl
  | x :: r, k => by
    rw [nzR]
    split
    · rcases nzR_range r (k + 1) with h | h
      · exact .inl h
      · right; rw [List.length_cons]; push_cast at h ⊢; omega
    · right; rw [List.length_cons]; push_cast; omega
theorem nzI_range (l : List UInt8) : nzI l = -1 ∨ (0 ≤ nzI l ∧ nzI l < (l.length : Int)) := by
  have := nzR_range l 0
  unfold nzI
  omega
theorem nz1_any (x : UInt8) (w : World) : Calls Try.prog 75 #[.int .u8 (x.toNat : Int)] w fun e w' => e = .returned (.bool (x != 0)) ∧ w = w' := by
  have h := u8_eqI x 0
  rw [show ((0 : UInt8).toNat : Int) = 0 from rfl] at h
  have h2 : ((x.toNat : Int) != 0) = (x != 0) := by rw [bne, bne, h]
  generalize (x != 0) = b at h2
  clear h
  go_enter Try.func75, Try.ntmps75
  go_wp2
  go_ret
  exact ⟨by simp [h2], rfl⟩

set_option maxHeartbeats 800000 in
set_option maxRecDepth 100000 in
theorem idx_any (v : Value) (l : List UInt8) (w : World) (hv : RB w v l) (hl : l.length ≤ 1000000) :
    Calls Try.prog 74 #[v, fnV 75 #[]] w fun e w' => e = .returned (.int .i64 (nzI l)) ∧ w = w' := by
  obtain ⟨A, c, rfl, hc⟩ := id hv.len
  have hcell : ∀ k, k < l.length → ∃ ad, A = some ad ∧ w.cell? (ad.add k) = some (.int .u8 ((l.getD k 0).toNat : Int)) := fun k hk => by
    obtain ⟨ad, rfl, h⟩ := RB.byte hv (by omega)
    exact ⟨ad, rfl, h k hk⟩
  obtain ⟨r, hr⟩ : ∃ r, r = nzI l := ⟨_, rfl⟩
  rw [← hr]
  have HC := Lib.hid hcell
  have HR := Lib.hid hr
  clear hcell hv hr
  go_enter Try.func74, Try.ntmps74
  go_wp2
  go_loop [8] (fun v8 => ∃ k : Nat, v8 = .int .i64 (k : Int) ∧ k ≤ l.length ∧ Hid (nzR (l.drop k) k = r)) (fun v => l.length - (intOf v).toNat)
  case atStart => exact ⟨0, rfl, by omega, HR.out.symm⟩
  case round =>
    obtain ⟨k, rfl, hk, HK⟩ := hrel
    by_cases hkn : k < l.length
    · have hki : (k : Int) < (l.length : Int) := by omega
      obtain ⟨ad, rfl, hcl⟩ := HC.out k hkn
      have e : l.drop k = l.getD k 0 :: l.drop (k + 1) := by rw [List.drop_eq_getElem_cons hkn, List.getD_eq_getElem?_getD, List.getElem?_eq_getElem hkn]; rfl
      have hh := HK.out
      rw [e, nzR] at hh
      generalize l.getD k 0 = x at hcl hh
      have cN := fun W => nz1_any x W
      by_cases hx : x = 0
      · have hb : (x != 0) = false := by simpa using hx
        rw [hb] at cN
        rw [if_pos hx] at hh
        have HH := Lib.hid hh
        clear hh e hx hb
        go_wp2_with (first
          | (go_at_call 75; (with_reducible refine (cN _).mono ?_); rintro e w2 ⟨rfl, rfl⟩))
        go_round
        case rel => exact ⟨k + 1, by go_num, by omega, HH⟩
        case measure => simp [intOf] <;> omega
      · have hb : (x != 0) = true := by simpa using hx
        rw [hb] at cN
        rw [if_neg hx] at hh
        have HH := Lib.hid hh
        clear hh e hx hb
        go_wp2_with (first
          | (go_at_call 75; (with_reducible refine (cN _).mono ?_); rintro e w2 ⟨rfl, rfl⟩))
        go_ret
        exact ⟨by rw [← HH.out]; rfl, rfl⟩
    · have hh := HK.out
      rw [List.drop_of_length_le (by omega), nzR] at hh
      have HH := Lib.hid hh
      clear hh
      go_wp2
      go_ret
      exact ⟨by rw [← HH.out]; rfl, rfl⟩
end Go.Proofs.Ytfnneneaalaagaa

namespace Go.Proofs.Ytfnneneaalaagaa
set_option maxRecDepth 100000
open Go.RowKit
set_option linter.unusedSimpArgs false
set_option linter.unusedVariables false

set_option maxHeartbeats 1600000 in
set_option maxRecDepth 100000 in
theorem rMay_any (r c : Int) (A : Option Addr) (n cp : Nat) (w : World) : Calls Try.prog 38 #[.agg (rxT.enc (r, c, A, n, cp)).toArray] w fun e w' => e = .returned (.bool (mayB r c n)) ∧ Below w.heap.size w w' := by
  have H0 := SH.start Nil w
  have hd : (decide (1 ≤ r) = false ∧ mayB r c n = false) ∨ (decide (1 ≤ r) = true ∧ decide (r ≤ 32) = false ∧ mayB r c n = false) ∨ (decide (1 ≤ r) = true ∧ decide (r ≤ 32) = true ∧ decide (1 ≤ c) = false ∧ mayB r c n = false) ∨ (decide (1 ≤ r) = true ∧ decide (r ≤ 32) = true ∧ decide (1 ≤ c) = true ∧ decide (c ≤ 32) = false ∧ mayB r c n = false) ∨ (decide (1 ≤ r) = true ∧ decide (r ≤ 32) = true ∧ decide (1 ≤ c) = true ∧ decide (c ≤ 32) = true ∧ 0 ≤ r * c ∧ r * c ≤ 32 * 32 ∧ mayB r c n = ((n : Int) == r * c)) := by
    unfold mayB sizeB
    by_cases a1 : 1 ≤ r <;> by_cases a2 : r ≤ 32 <;> by_cases a3 : 1 ≤ c <;> by_cases a4 : c ≤ 32 <;> simp [a1, a2, a3, a4]
    exact ⟨Int.mul_nonneg (by omega) (by omega), Int.mul_le_mul a2 a4 (by omega) (by omega)⟩
  rcases hd with ⟨d1, hm⟩ | ⟨d1, d2, hm⟩ | ⟨d1, d2, d3, hm⟩ | ⟨d1, d2, d3, d4, hm⟩ | ⟨d1, d2, d3, d4, hlo, hhi, hm⟩
  all_goals
    rw [hm]
    clear hm
    go_enter Try.func38, Try.ntmps38
    go_wp2_with (first
      | ((with_reducible refine gBox ?_); refine wBox rxT (r, c, A, n, cp) H0 _ rfl rfl rfl ?_; clear H0; intro w1 H; have k0 : w1.cell? ⟨w.heap.size, 0, none⟩ = some (.int .i64 r) := (H.va 0 rfl).cell 0; have k1 : w1.cell? ⟨w.heap.size, 1, none⟩ = some (.int .i64 c) := (H.va 0 rfl).cell 1; have k2 : w1.cell? ⟨w.heap.size, 2, none⟩ = some (.slice A n cp) := (H.va 0 rfl).cell 2))
    go_ret
    exact ⟨rfl, H.below⟩

set_option maxHeartbeats 1600000 in
set_option maxRecDepth 100000 in
theorem rat_any (l : List UInt8) (r : Int) (c i j : Nat) (A : Option Addr) (n cp : Nat) (w : World) (hv : RB w (.slice A n cp) l) (hl : l.length = n) (hn : n ≤ 1000000) (hc : c ≤ 1000) (hi : i ≤ 1000) (hj : j ≤ 1000) (hq : i * c + j < n) :
    Calls Try.prog 52 #[.agg (rxT.enc (r, (c : Int), A, n, cp)).toArray, .int .i64 (i : Int), .int .i64 (j : Int)] w fun e w' => e = .returned (.int .u8 ((l.getD (i * c + j) 0).toNat : Int)) ∧ Below w.heap.size w w' := by
  have H0 := SH.start Nil w
  obtain ⟨ad, rfl, hcc⟩ := hv.byte (by omega)
  have hcell := hcc (i * c + j) (by omega)
  clear hcc
  obtain ⟨p, hp⟩ : ∃ p, p = i * c := ⟨_, rfl⟩
  have hpI : (i : Int) * (c : Int) = (p : Int) := by rw [hp]; push_cast; rfl
  rw [← hp] at hq hcell ⊢
  obtain ⟨q, hqe⟩ : ∃ q, q = p + j := ⟨_, rfl⟩
  have hqI : (p : Int) + (j : Int) = (q : Int) := by rw [hqe]; push_cast; rfl
  rw [← hqe] at hq hcell ⊢
  have hpb : (p : Int) ≤ 1000000 := by omega
  have hqb : (q : Int) ≤ 1000000 := by omega
  have hqn : (q : Int) < (n : Int) := by omega
  clear hp hqe hl
  generalize l.getD q 0 = x at *
  have HC := Lib.hid hcell
  clear hcell hv
  go_enter Try.func52, Try.ntmps52
  go_wp2_with (first
    | ((with_reducible refine gBox ?_); refine wBox rxT (r, (c : Int), some ad, n, cp) H0 _ rfl rfl rfl ?_; clear H0; intro w1 H; have k1 : w1.cell? ⟨w.heap.size, 1, none⟩ = some (.int .i64 (c : Int)) := (H.va 0 rfl).cell 1; have k2 : w1.cell? ⟨w.heap.size, 2, none⟩ = some (.slice (some ad) n cp) := (H.va 0 rfl).cell 2; have hcl := cell_below H.below HC.out))
  go_ret
  exact ⟨rfl, H.below⟩

/-- Does a number name none of r rows? -/
def badRow (r x : Int) : Bool := decide (x < 0) || decide (r ≤ x)
theorem Pick1_any (r x : Int) (b : Nat) (w : World) (hr : w.cell? ⟨b, 0, none⟩ = some (.int .i64 r)) : Calls Try.prog 48 #[.int .i64 x, .pointer (some ⟨b, 0, none⟩)] w fun e w' => e = .returned (.bool (badRow r x)) ∧ w = w' := by
  unfold badRow
  by_cases h : x < 0
  · have h1 : decide (x < 0) = true := by simpa using h
    rw [h1]
    go_enter Try.func48, Try.ntmps48
    go_wp2
    go_ret
    exact ⟨by simp, rfl⟩
  · have h1 : decide (x < 0) = false := by simpa using h
    rw [h1]
    go_enter Try.func48, Try.ntmps48
    go_wp2
    go_ret
    exact ⟨by simp, rfl⟩
theorem enter_pick1 : ∀ args W, (callFunc 48 args).run Try.prog W = .ok (.enter 48 args) W := fun args W => Go.MuLone.run_callFunc_enter Try.func48 (by kernel_rfl) rfl args W
end Go.Proofs.Ytfnneneaalaagaa

namespace Go.Proofs.Ytfnneneaalaagaa
set_option maxRecDepth 100000
open Go.RowKit
set_option linter.unusedSimpArgs false
set_option linter.unusedVariables false

def I64T : Ty Int where
  id := 3
  sz := 1
  bytes := 8
  zero := .int .i64 0
  enc := fun x => [.int .i64 x]
  hlen := fun _ => rfl
  hone := fun x u hu => by rw [List.mem_singleton] at hu; subst hu; rfl
  hsz := by decide
  hby := by decide
abbrev RI (w : World) (v : Value) (xs : List Int) : Prop := RR I64T w v xs
theorem RI.byte {w : World} {A : Option Addr} {n c : Nat} {xs : List Int} (h : RI w (.slice A n c) xs) (k : Nat) (hk : k < xs.length) : ∃ ad, A = some ad ∧ w.cell? (ad.add k) = some (.int .i64 (xs.getD k 0)) := by
  obtain ⟨ad, e, hc⟩ := h.at_ k hk
  refine ⟨ad, e, ?_⟩
  have := hc 0 (.int .i64 xs[k]) rfl
  rw [show k * I64T.sz + 0 = k from by show k * 1 + 0 = k; omega] at this
  rw [this, List.getD_eq_getElem?_getD, List.getElem?_eq_getElem hk]
  rfl
/-- The place of the first that names no row. -/
def badR (r : Int) : List Int → Nat → Int
  | [], _ => -1
  | x :: t, k => if badRow r x = true then (k : Int) else badR r t (k + 1)
theorem badR_any (r : Int) : ∀ (l : List Int) (k : Nat), decide (0 ≤ badR r l k) = l.any (badRow r)
  | [], k => rfl
  | x :: t, k => by
    rw [badR, List.any_cons]
    cases h : badRow r x with
    | true => simp
    | false => simp [badR_any r t (k + 1)]
theorem badR_range (r : Int) : ∀ (l : List Int) (k : Nat), -1 ≤ badR r l k ∧ badR r l k ≤ (k : Int) + (l.length : Int)
  | [], k => by rw [badR]; simp
  | x :: t, k => by
    rw [badR]
    split
    · rw [List.length_cons]; omega
    · have := badR_range r t (k + 1)
      rw [List.length_cons]; push_cast at this ⊢; omega
set_option maxHeartbeats 800000 in
set_option maxRecDepth 100000 in
theorem idx2_any (r : Int) (b : Nat) (v : Value) (l : List Int) (w : World) (hb : w.cell? ⟨b, 0, none⟩ = some (.int .i64 r)) (hv : RI w v l) (hl : l.length ≤ 1000000) :
    Calls Try.prog 72 #[v, fnV 48 #[.pointer (some ⟨b, 0, none⟩)]] w fun e w' => e = .returned (.int .i64 (badR r l 0)) ∧ w = w' := by
  obtain ⟨A, c, rfl, hc⟩ := id hv.len
  have hcell : ∀ k, k < l.length → ∃ ad, A = some ad ∧ w.cell? (ad.add k) = some (.int .i64 (l.getD k 0)) := fun k hk => RI.byte hv k hk
  obtain ⟨q, hq⟩ : ∃ q, q = badR r l 0 := ⟨_, rfl⟩
  rw [← hq]
  have HC := Lib.hid hcell
  have HR := Lib.hid hq
  have CN := Lib.hid (fun x => Pick1_any r x b w hb)
  clear hcell hv hq hb
  go_enter Try.func72, Try.ntmps72
  go_wp2
  go_loop [8] (fun v8 => ∃ k : Nat, v8 = .int .i64 (k : Int) ∧ k ≤ l.length ∧ Hid (badR r (l.drop k) k = q)) (fun v => l.length - (intOf v).toNat)
  case atStart => exact ⟨0, rfl, by omega, HR.out.symm⟩
  case round =>
    obtain ⟨k, rfl, hk, HK⟩ := hrel
    by_cases hkn : k < l.length
    · have hki : (k : Int) < (l.length : Int) := by omega
      obtain ⟨ad, rfl, hcl⟩ := HC.out k hkn
      have e : l.drop k = l.getD k 0 :: l.drop (k + 1) := by rw [List.drop_eq_getElem_cons hkn, List.getD_eq_getElem?_getD, List.getElem?_eq_getElem hkn]; rfl
      have hh := HK.out
      rw [e, badR] at hh
      have cN := CN.out (l.getD k 0)
      generalize l.getD k 0 = x at hcl hh cN
      cases hb : badRow r x with
      | false =>
        rw [hb] at cN
        rw [if_neg (by rw [hb]; simp)] at hh
        have HH := Lib.hid hh
        clear hh e hb
        go_wp2_with (first
          | (go_at_call 48; (with_reducible refine cN.mono ?_); rintro e w2 ⟨rfl, rfl⟩))
        go_round
        case rel => exact ⟨k + 1, by go_num, by omega, HH⟩
        case measure => simp [intOf] <;> omega
      | true =>
        rw [hb] at cN
        rw [if_pos hb] at hh
        have HH := Lib.hid hh
        clear hh e hb
        go_wp2_with (first
          | (go_at_call 48; (with_reducible refine cN.mono ?_); rintro e w2 ⟨rfl, rfl⟩))
        go_ret
        exact ⟨by rw [← HH.out]; rfl, rfl⟩
    · have hh := HK.out
      rw [List.drop_of_length_le (by omega), badR] at hh
      have HH := Lib.hid hh
      clear hh
      go_wp2
      go_ret
      exact ⟨by rw [← HH.out]; rfl, rfl⟩
theorem contains_any (r : Int) (b : Nat) (v : Value) (l : List Int) (w : World) (hb : w.cell? ⟨b, 0, none⟩ = some (.int .i64 r)) (hv : RI w v l) (hl : l.length ≤ 1000000) :
    Calls Try.prog 50 #[v, fnV 48 #[.pointer (some ⟨b, 0, none⟩)]] w fun e w' => e = .returned (.bool (l.any (badRow r))) ∧ w = w' := by
  have cI := idx2_any r b v l w hb hv hl
  have ha := badR_any r l 0
  obtain ⟨A, c, rfl, hc⟩ := id hv.len
  generalize l.any (badRow r) = z at *
  generalize badR r l 0 = q at *
  clear hv hb
  go_enter Try.func50, Try.ntmps50
  go_wp2_with (first
    | (go_at_call 72; (with_reducible refine cI.mono ?_); rintro e w2 ⟨rfl, rfl⟩))
  go_ret
  exact ⟨by simp [ha], rfl⟩
end Go.Proofs.Ytfnneneaalaagaa

namespace Go.Proofs.Ytfnneneaalaagaa
set_option maxRecDepth 100000
open Go.RowKit
set_option linter.unusedSimpArgs false
set_option linter.unusedVariables false

def rowq (l : List UInt8) (c q : Nat) : List UInt8 := (l.drop (q * c)).take c
theorem rowq_len {l : List UInt8} {c q : Nat} (h : (q + 1) * c ≤ l.length) : (rowq l c q).length = c := by
  rw [Nat.add_mul, Nat.one_mul] at h
  rw [rowq, List.length_take, List.length_drop]; omega
theorem RB.rowq {w : World} {ad : Addr} {n cp : Nat} {l : List UInt8} {c q : Nat} (hv : RB w (.slice (some ad) n cp) l) (hq : (q + 1) * c ≤ l.length) (hc : 0 < c) : RB w (.slice (some (ad.add (q * c))) c c) (rowq l c q) := by
  have hl := rowq_len hq
  rw [Nat.add_mul, Nat.one_mul] at hq
  obtain ⟨A2, c2, e, h1, h2, h3⟩ := hv
  obtain ⟨ad2, rfl, hcc⟩ := h3 (by omega)
  injection e with e1 e2 e3
  injection e1 with e1
  subst e1
  refine ⟨_, c, by rw [hl], Nat.le_of_eq hl, by rw [hl]; omega, fun _ => ⟨_, rfl, fun j u hj => ?_⟩⟩
  rw [addr_add2]
  refine hcc _ _ ?_
  rw [U8_all, List.getElem?_map] at hj ⊢
  rw [Go.Proofs.Ytfnneneaalaagaa.rowq, List.getElem?_take] at hj
  split at hj
  · rw [List.getElem?_drop] at hj; exact hj
  · cases hj
def pickL (l : List UInt8) (c : Nat) (rs : List Int) : List UInt8 := rs.flatMap fun q => rowq l c q.toNat
theorem pickL_take (l : List UInt8) (c : Nat) (rs : List Int) (i : Nat) (h : i < rs.length) : pickL l c (rs.take (i + 1)) = pickL l c (rs.take i) ++ rowq l c (rs.getD i 0).toNat := by
  rw [pickL, List.take_add_one, List.flatMap_append, List.getElem?_eq_getElem h, List.getD_eq_getElem?_getD, List.getElem?_eq_getElem h]
  simp [pickL]
theorem pickL_len (l : List UInt8) (c r : Nat) (hl : l.length = r * c) : ∀ (rs : List Int), rs.any (badRow r) = false → (pickL l c rs).length = rs.length * c
  | [], _ => by simp [pickL]
  | x :: t, h => by
    rw [List.any_cons, Bool.or_eq_false_iff] at h
    have hx := h.1
    simp only [badRow, Bool.or_eq_false_iff, decide_eq_false_iff_not] at hx
    have hq : (x.toNat + 1) * c ≤ l.length := by rw [hl]; exact Nat.mul_le_mul_right c (by omega)
    have := pickL_len l c r hl t h.2
    rw [pickL, List.flatMap_cons, List.length_append, rowq_len hq, List.length_cons, Nat.add_mul, Nat.one_mul]
    rw [pickL] at this
    omega
def relP (l : List UInt8) (rs : List Int) (c : Nat) (m : MX) (w : World) (bm br b0 : Nat) (v33 : Value) (wr : World) : Prop := ∃ (i : Nat) (cur : List UInt8) (A : Option Addr) (cp : Nat), v33 = .int .i64 (i : Int) ∧ i ≤ rs.length ∧ Hid (cur = pickL l c (rs.take i)) ∧ SH Nil w wr [.row B8 (.slice A cur.length cp) cur, .blk bm 32 (mxC ((rs.length : Int), (c : Int), A, cur.length, cp)), .blk br 32 (mxC (0, 0, none, 0, 0)), .blk b0 32 (mxC m)]
set_option maxHeartbeats 3200000 in
set_option maxRecDepth 100000 in
theorem Pick_ok (l : List UInt8) (r c n : Nat) (A0 : Option Addr) (cp0 : Nat) (vr : Value) (rs : List Int) (w : World) (hr1 : 1 ≤ r) (hr2 : r ≤ 32) (hc1 : 1 ≤ c) (hc2 : c ≤ 32) (hn : n = r * c) (hl : l.length = n) (hv : RB w (.slice A0 n cp0) l) (hcp : n ≤ cp0)
    (hvr : RI w vr rs) (hs1 : 1 ≤ rs.length) (hs2 : rs.length ≤ 32) (hbad : rs.any (badRow (r : Int)) = false) :
    Calls Try.prog 21 #[.agg (mxT.enc ((r : Int), (c : Int), A0, n, cp0)).toArray, vr] w fun e w' => GivesMx mxT w rs.length c (pickL l c rs) 0 e w' := by
  have H0 := SH.start Nil w
  have hnc : n ≤ 32 * 32 := by rw [hn]; exact Nat.mul_le_mul hr2 hc2
  have hpos : 0 < n := by rw [hn]; exact Nat.mul_pos (by omega) (by omega)
  obtain ⟨ad, rfl, -⟩ := id (hv.byte (by omega))
  have hmay : mayB (r : Int) (c : Int) n = true := by
    rw [mayB, if_pos ((sizeB_iff _).2 (by omega)), if_pos ((sizeB_iff _).2 (by omega)), hn]
    exact beq_iff_eq.mpr (by push_cast; rfl)
  have hsz : sizeB (rs.length : Int) = true := (sizeB_iff _).2 (by omega)
  have cM : ∀ W, Calls Try.prog 37 #[.agg (mxT.enc ((r : Int), (c : Int), some ad, n, cp0)).toArray] W fun e w' => e = .returned (.bool true) ∧ Below W.heap.size W w' := fun W => by rw [← hmay]; exact MMay_any _ _ _ _ _ W
  have cS : ∀ W, Calls Try.prog 49 #[.int .i64 (rs.length : Int)] W fun e w' => e = .returned (.bool true) ∧ W = w' := fun W => by rw [← hsz]; exact isSize_any _ W
  have cC : ∀ W b, W.cell? ⟨b, 0, none⟩ = some (.int .i64 (r : Int)) → RI W vr rs → Calls Try.prog 50 #[vr, fnV 48 #[.pointer (some ⟨b, 0, none⟩)]] W fun e w' => e = .returned (.bool false) ∧ W = w' := fun W b hb hW => by rw [← hbad]; exact contains_any _ b vr rs W hb hW (by omega)
  have cR := fun (W : World) (q : Nat) (hq : q < r) => row_any (r : Int) c q ad n cp0 W (by omega) (by rw [hn]; exact Nat.mul_le_mul_right c hq) hcp (by omega)
  have hrow : ∀ q, q < r → RB w (.slice (some (ad.add (q * c))) c c) (rowq l c q) ∧ (rowq l c q).length = c := fun q hq => by
    have h : (q + 1) * c ≤ l.length := by rw [hl, hn]; exact Nat.mul_le_mul_right c hq
    exact ⟨hv.rowq h (by omega), rowq_len h⟩
  have hel : ∀ i, i < rs.length → ∃ (q : Nat) (adr : Addr) , rs.getD i 0 = (q : Int) ∧ q < r ∧ w.cell? (adr.add i) = some (.int .i64 (q : Int)) ∧ ∃ cr, vr = .slice (some adr) rs.length cr := fun i hi => by
    obtain ⟨A2, c2, e, _⟩ := id hvr
    subst e
    obtain ⟨adr, rfl, hcl⟩ := RI.byte hvr i hi
    have hx : badRow (r : Int) (rs.getD i 0) = false := by
      have := List.any_eq_false.1 hbad (rs.getD i 0) (by rw [List.getD_eq_getElem?_getD, List.getElem?_eq_getElem hi]; exact List.getElem_mem hi)
      simpa using this
    simp only [badRow, Bool.or_eq_false_iff, decide_eq_false_iff_not] at hx
    obtain ⟨q, hq⟩ : ∃ q : Nat, rs.getD i 0 = (q : Int) := ⟨(rs.getD i 0).toNat, by omega⟩
    rw [hq] at hcl hx
    exact ⟨q, adr, hq, by omega, hcl, _, rfl⟩
  have hlen : ∀ i, i ≤ rs.length → (pickL l c (rs.take i)).length ≤ 2000 := fun i hi => by
    have hb : (rs.take i).any (badRow (r : Int)) = false := by
      rw [List.any_eq_false] at hbad ⊢
      exact fun x hx => hbad x (List.mem_of_mem_take hx)
    rw [pickL_len l c r (by rw [hl, hn]) _ hb, List.length_take]
    have := Nat.mul_le_mul (show min i rs.length ≤ 32 by omega) hc2
    omega
  obtain ⟨Ar, cr, hvre, -⟩ := id hvr
  have HC := Lib.hid cC
  have HCR := Lib.hid cR
  have HROW := Lib.hid hrow
  have HEL := Lib.hid hel
  have HLEN := Lib.hid hlen
  have HPT := Lib.hid (pickL_take l c rs)
  have HRI := Lib.hid hvr
  have hsi : (rs.length : Int) ≤ 32 := by omega
  clear cC cR hrow hel hlen hv hvr hbad hmay hsz hn hl
  subst hvre
  go_enter Try.func21, Try.ntmps21
  go_wp2_with (first
    | ((with_reducible refine gAlloc ?_); refine wVar mxT ((rs.length : Int), (c : Int), none, 0, 0) H3 rfl 7 _ rfl rfl rfl rfl rfl ?_; clear H3; intro w4 H4)
    | ((with_reducible refine gBox ?_); refine wBox mxT ((r : Int), (c : Int), some ad, n, cp0) H0 _ rfl rfl rfl ?_; clear H0; intro w1 H1)
    | ((with_reducible refine gAlloc ?_); refine wAlloc mxT H1 rfl rfl ?_; clear H1; intro w2 H2)
    | ((with_reducible refine gLoad ?_); refine wLoad mxT ((r : Int), (c : Int), some ad, n, cp0) H2 1 rfl rfl _ rfl rfl rfl ?_)
    | (go_at_call 37; (with_reducible refine (cM _).mono ?_); rintro e w3 ⟨rfl, hb⟩; have H3 := H2.step hb; clear H2 hb; have k0 : w3.cell? ⟨w.heap.size, 0, none⟩ = some (.int .i64 (r : Int)) := (H3.va 1 rfl).cell 0; have k1 : w3.cell? ⟨w.heap.size, 1, none⟩ = some (.int .i64 (c : Int)) := (H3.va 1 rfl).cell 1)
    | (go_at_call 49; (with_reducible refine (cS _).mono ?_); rintro e w5 ⟨rfl, rfl⟩)
    | (go_at_call 50; (with_reducible refine (HC.out _ _ k0 (HRI.out.below H3.below)).mono ?_); rintro e w5 ⟨rfl, rfl⟩))
  clear k0 k1
  go_loopw [33] (fun v33 wr => relP l rs c ((r : Int), (c : Int), some ad, n, cp0) w w3.heap.size w1.heap.size w.heap.size v33 wr) (fun v _ => rs.length - (intOf v).toNat)
  case atStart => exact ⟨0, [], none, 0, rfl, by omega, by rfl, H4.nilRow B8⟩
  case round =>
    obtain ⟨i, cur, A, cp, rfl, hi, HCU, HS⟩ := hrel
    clear H4
    by_cases him : i < rs.length
    · have hii : (i : Int) < (rs.length : Int) := by omega
      obtain ⟨q, adr, hq, hqr, hcl, cr', hvre⟩ := HEL.out i him
      injection hvre with hv1 hv2 hv3
      subst hv1
      have hcl := cell_below HS.below hcl
      have hst := HPT.out i him
      rw [hq, Int.toNat_natCast, ← HCU.out] at hst
      obtain ⟨hrb, hrl⟩ := HROW.out q hqr
      have hcul : cur.length ≤ 2000 := by rw [HCU.out]; exact HLEN.out i hi
      have cRq := fun W => HCR.out W q hqr
      generalize rowq l c q = y at hst hrb hrl
      have HST := Lib.hid hst
      have HRB := Lib.hid hrb
      have HRL := Lib.hid hrl
      have HCUL := Lib.hid hcul
      clear hst hrb hrl hcul hq hv3
      have H := HS.drew
      have HS0 := And.intro (H.va 1 rfl) (H.va 3 rfl)
      clear HS
      go_wp2
      refine startL (fun w' => VA w' w3.heap.size 32 (mxC ((rs.length : Int), (c : Int), A, cur.length, cp)) ∧ VA w' w.heap.size 32 (mxC ((r : Int), (c : Int), some ad, n, cp0))) (fun i => i == 7) (by kernel_rfl) ?_
      refine takeP 0 rfl (by kernel_rfl) (by kernel_rfl) (by kernel_rfl) (by kernel_rfl) (fun _ _ _ h => h) rfl (v := ?_) ?_ ?_
      rotate_left
      · intro w'; go_simp; (try with_reducible rfl)
      (try simp only [Act.put, List.setIfInBounds_toArray, List.set_cons_zero, List.set_cons_succ])
      refine takeL 1 HS0 rfl (by kernel_rfl) (by kernel_rfl) (by kernel_rfl) (by kernel_rfl) (by kernel_rfl) (fun _ _ _ h => h) rfl (v := ?_) ?_ ?_
      rotate_left
      · intro w' hw'; have k2 : w'.cell? ⟨w3.heap.size, 2, none⟩ = some (.slice A cur.length cp) := VA.cell hw'.1 2; clear hw'; go_simp; (try with_reducible rfl)
      (try simp only [Act.put, List.setIfInBounds_toArray, List.set_cons_zero, List.set_cons_succ])
      refine takeL 2 HS0 rfl (by kernel_rfl) (by kernel_rfl) (by kernel_rfl) (by kernel_rfl) (by kernel_rfl) (fun _ _ _ h => h) rfl (v := ?_) ?_ ?_
      rotate_left
      · intro w' hw'; refine Eq.trans (exec_load 32 _ rfl w.heap.size 0 rfl (mxC ((r : Int), (c : Int), some ad, n, cp0)) mxT.d (VA.all hw'.2) mxT.under mxT.row (mxT.sz _)) ?_; with_reducible rfl
      (try simp only [Act.put, List.setIfInBounds_toArray, List.set_cons_zero, List.set_cons_succ])
      refine takeP 3 rfl (by kernel_rfl) (by kernel_rfl) (by kernel_rfl) (by kernel_rfl) (fun _ _ _ h => h) rfl (v := ?_) ?_ ?_
      rotate_left
      · intro w'; go_simp; (try with_reducible rfl)
      (try simp only [Act.put, List.setIfInBounds_toArray, List.set_cons_zero, List.set_cons_succ])
      refine stepL 4 rfl (by kernel_rfl) rfl (fun K hK => ?_)
      (go_simp; refine (cRq _).mono ?_; rintro e w5 ⟨rfl, hb5⟩; replace H := H.step hb5; clear hb5; have HS1 := And.intro (H.va 1 rfl) (H.va 3 rfl); refine hK.out _ _ (fun _ _ => HS1) ?_; clear K hK HS0; have HS0 := HS1; clear HS1)
      (try simp only [Act.put, List.setIfInBounds_toArray, List.set_cons_zero, List.set_cons_succ])
      refine stepL 5 rfl (by kernel_rfl) rfl (fun K hK => ?_)
      (refine oAppend sB H 0 rfl _ y (HRB.out.below H.below) (by have := HCUL.out; have := HRL.out; show (cur.length + y.length) * 1 ≤ _; omega) _ _ rfl rfl rfl ?_; clear H; intro v6 w6 H; obtain ⟨A6, c6, rfl, hc6⟩ := (H.rr 0 rfl).len; have HS1 := And.intro (H.va 1 rfl) (H.va 3 rfl); refine hK.out _ _ (fun _ _ => HS1) ?_; clear K hK HS0; have HS0 := HS1; clear HS1)
      (try simp only [Act.put, List.setIfInBounds_toArray, List.set_cons_zero, List.set_cons_succ])
      refine takeP 6 rfl (by kernel_rfl) (by kernel_rfl) (by kernel_rfl) (by kernel_rfl) (fun _ _ _ h => h) rfl (v := ?_) ?_ ?_
      rotate_left
      · intro w'; go_simp; (try with_reducible rfl)
      (try simp only [Act.put, List.setIfInBounds_toArray, List.set_cons_zero, List.set_cons_succ])
      refine stepL 7 rfl (by kernel_rfl) rfl (fun K hK => ?_)
      (refine oCell 22 (.slice A6 (cur ++ y).length c6) (by kernel_rfl) rfl rfl H 1 (off := 2) rfl (Nat.le_refl 3) (mxC ((rs.length : Int), (c : Int), A6, (cur ++ y).length, c6)) rfl _ _ rfl rfl rfl ?_; clear H; intro w7 H; refine hK.out _ _ (fun h => by cases h) ?_; clear K hK HS0)
      (try simp only [Act.put, List.setIfInBounds_toArray, List.set_cons_zero, List.set_cons_succ])
      refine doneL (by kernel_rfl) ?_
      go_wp2
      go_roundw
      case rel => first | exact ⟨i + 1, _, _, _, by go_num, by omega, Lib.hid HST.out.symm, H⟩ | exact ⟨_, ⟨i + 1, _, _, _, by go_num, by omega, Lib.hid HST.out.symm, H⟩, rfl⟩
      case measure => simp [intOf] <;> omega
    · obtain hi2 : i = rs.length := by omega
      have hcur := HCU.out
      rw [hi2, List.take_length] at hcur
      subst hcur
      clear HCU
      subst hi2
      go_wp2_with (first
        | ((with_reducible refine gLoad ?_); refine wLoad mxT ((rs.length : Int), (c : Int), A, (pickL l c rs).length, cp) HS 1 rfl rfl _ rfl rfl rfl ?_)
        | ((with_reducible refine gStore ?_); refine wStore mxT ((rs.length : Int), (c : Int), A, (pickL l c rs).length, cp) HS 2 rfl rfl _ _ rfl rfl rfl rfl ?_; clear HS; intro w5 H))
      refine bodyPost_ret (results_cell_tmp rfl _ (H.va 2 rfl) rfl _ Try.underlying32 rfl (mxT.sz _)) rfl ?_
      exact ⟨A, cp, rfl, H.orow 0 rfl, H.below⟩
end Go.Proofs.Ytfnneneaalaagaa

namespace Go.Proofs.Ytfnneneaalaagaa
set_option maxRecDepth 100000
open Go.RowKit
set_option linter.unusedSimpArgs false
set_option linter.unusedVariables false

theorem rowq_map {l : List UInt8} {c q : Nat} (h : (q + 1) * c ≤ l.length) : rowq l c q = (List.range c).map fun j => l.getD (q * c + j) 0 := by
  refine List.ext_getElem (by rw [rowq_len h, List.length_map, List.length_range]) fun j h1 h2 => ?_
  rw [List.length_map, List.length_range] at h2
  rw [Nat.add_mul, Nat.one_mul] at h
  simp only [rowq, List.getElem_take, List.getElem_drop, List.getElem_map, List.getElem_range]
  rw [List.getD_eq_getElem?_getD, List.getElem?_eq_getElem (by omega)]
  rfl
def PickPost (T : AT Try.prog MX) (w : World) (l : List UInt8) (r c : Nat) (rs : List Int) (e : Ending) (w' : World) : Prop :=
  (rs.any (badRow (r : Int)) = false ∧ GivesMx T w rs.length c (pickL l c rs) 0 e w') ∨ (rs.any (badRow (r : Int)) = true ∧ e = .returned (.tuple #[.agg (T.enc T.zero).toArray, .int .i64 1]) ∧ Below w.heap.size w w')
def relQ (l : List UInt8) (rs : List Int) (r c : Nat) (m : MX) (w : World) (bm br b0 : Nat) (v7 : Value) (wr : World) : Prop := ∃ (i : Nat) (cur : List UInt8) (A : Option Addr) (cp : Nat), v7 = .int .i64 (i : Int) ∧ i ≤ rs.length ∧ Hid (cur = pickL l c (rs.take i)) ∧ Hid ((rs.take i).any (badRow (r : Int)) = false) ∧ SH Nil w wr [.row B8 (.slice A cur.length cp) cur, .blk bm 38 (mxC ((rs.length : Int), (c : Int), A, cur.length, cp)), .blk br 38 (mxC (0, 0, none, 0, 0)), .blk b0 38 (mxC m)]
def relQI (l : List UInt8) (rs : List Int) (i q c : Nat) (m : MX) (w : World) (bm br b0 : Nat) (v8 : Value) (wr : World) : Prop := ∃ (j : Nat) (cur : List UInt8) (A : Option Addr) (cp : Nat), v8 = .int .i64 (j : Int) ∧ j ≤ c ∧ Hid (cur = pickL l c (rs.take i) ++ (List.range j).map fun j => l.getD (q * c + j) 0) ∧ SH Nil w wr [.row B8 (.slice A cur.length cp) cur, .blk bm 38 (mxC ((rs.length : Int), (c : Int), A, cur.length, cp)), .blk br 38 (mxC (0, 0, none, 0, 0)), .blk b0 38 (mxC m)]
def SQ (bm b0 : Nat) (m1 m0 : MX) (a : Addr) (x : Int) (w' : World) : Prop := VA w' bm 38 (mxC m1) ∧ VA w' b0 38 (mxC m0) ∧ w'.cell? a = some (.int .i64 x)
theorem SQ.below {bm b0 : Nat} {m1 m0 : MX} {a : Addr} {x : Int} {w w' : World} (h : SQ bm b0 m1 m0 a x w) (hb : Below w.heap.size w w') : SQ bm b0 m1 m0 a x w' := ⟨VA.below h.1 hb, VA.below h.2.1 hb, cell_below hb h.2.2⟩
set_option maxHeartbeats 3200000 in
set_option maxRecDepth 100000 in
theorem rPick_main (l : List UInt8) (r c n : Nat) (A0 : Option Addr) (cp0 : Nat) (vr : Value) (rs : List Int) (w : World) (hr1 : 1 ≤ r) (hr2 : r ≤ 32) (hc1 : 1 ≤ c) (hc2 : c ≤ 32) (hn : n = r * c) (hl : l.length = n) (hv : RB w (.slice A0 n cp0) l) (hcp : n ≤ cp0)
    (hvr : RI w vr rs) (hs1 : 1 ≤ rs.length) (hs2 : rs.length ≤ 32) :
    Calls Try.prog 22 #[.agg (rxT.enc ((r : Int), (c : Int), A0, n, cp0)).toArray, vr] w fun e w' => PickPost rxT w l r c rs e w' := by
  have H0 := SH.start Nil w
  have hnc : n ≤ 32 * 32 := by rw [hn]; exact Nat.mul_le_mul hr2 hc2
  have hpos : 0 < n := by rw [hn]; exact Nat.mul_pos (by omega) (by omega)
  obtain ⟨ad, rfl, -⟩ := id (hv.byte (by omega))
  have hmay : mayB (r : Int) (c : Int) n = true := by
    rw [mayB, if_pos ((sizeB_iff _).2 (by omega)), if_pos ((sizeB_iff _).2 (by omega)), hn]
    exact beq_iff_eq.mpr (by push_cast; rfl)
  have cM : ∀ W, Calls Try.prog 38 #[.agg (rxT.enc ((r : Int), (c : Int), some ad, n, cp0)).toArray] W fun e w' => e = .returned (.bool true) ∧ Below W.heap.size W w' := fun W => by rw [← hmay]; exact rMay_any _ _ _ _ _ W
  have cA : ∀ W, Below w.heap.size w W → ∀ q j, q < r → j < c → Calls Try.prog 52 #[.agg (rxT.enc ((r : Int), (c : Int), some ad, n, cp0)).toArray, .int .i64 (q : Int), .int .i64 (j : Int)] W fun e w' => e = .returned (.int .u8 ((l.getD (q * c + j) 0).toNat : Int)) ∧ Below W.heap.size W w' := fun W hb q j hq hj => by
    have h1 : (q + 1) * c ≤ r * c := Nat.mul_le_mul_right c hq
    rw [Nat.add_mul, Nat.one_mul] at h1
    exact rat_any l r c q j (some ad) n cp0 W (hv.below hb) hl (by omega) (by omega) (by omega) (by omega) (by omega)
  have hrow : ∀ q, q < r → rowq l c q = (List.range c).map fun j => l.getD (q * c + j) 0 := fun q hq => rowq_map (by rw [hl, hn]; exact Nat.mul_le_mul_right c hq)
  have hel : ∀ i, i < rs.length → ∃ (adr : Addr), w.cell? (adr.add i) = some (.int .i64 (rs.getD i 0)) ∧ ∃ cr, vr = .slice (some adr) rs.length cr := fun i hi => by
    obtain ⟨A2, c2, e, _⟩ := id hvr
    subst e
    obtain ⟨adr, rfl, hcl⟩ := RI.byte hvr i hi
    exact ⟨adr, hcl, _, rfl⟩
  have hany : ∀ i, i < rs.length → (rs.take (i + 1)).any (badRow (r : Int)) = ((rs.take i).any (badRow (r : Int)) || badRow (r : Int) (rs.getD i 0)) := fun i hi => by
    rw [List.take_add_one, List.any_append, List.getElem?_eq_getElem hi, List.getD_eq_getElem?_getD, List.getElem?_eq_getElem hi]
    simp
  have hall : ∀ i, i < rs.length → badRow (r : Int) (rs.getD i 0) = true → rs.any (badRow (r : Int)) = true := fun i hi h => by
    rw [List.any_eq_true]
    exact ⟨_, by rw [List.getD_eq_getElem?_getD, List.getElem?_eq_getElem hi]; exact List.getElem_mem hi, h⟩
  have hlen : ∀ i, i ≤ rs.length → (rs.take i).any (badRow (r : Int)) = false → (pickL l c (rs.take i)).length ≤ 2000 := fun i hi hb => by
    rw [pickL_len l c r (by rw [hl, hn]) _ hb, List.length_take]
    have := Nat.mul_le_mul (show min i rs.length ≤ 32 by omega) hc2
    omega
  obtain ⟨Ar, cr, hvre, -⟩ := id hvr
  have HA := Lib.hid cA
  have HROW := Lib.hid hrow
  have HEL := Lib.hid hel
  have HLEN := Lib.hid hlen
  have HANY := Lib.hid hany
  have HALL := Lib.hid hall
  have HPT := Lib.hid (pickL_take l c rs)
  have hsi : (rs.length : Int) ≤ 32 := by omega
  have d1 : decide ((rs.length : Int) < 1) = false := by simp; omega
  have d2 : decide ((32 : Int) < (rs.length : Int)) = false := by simp; omega
  clear cA hrow hel hlen hany hall hv hvr hmay hn hl
  subst hvre
  go_enter Try.func22, Try.ntmps22
  go_wp2_with (first
    | ((with_reducible refine gAlloc ?_); refine wVar rxT ((rs.length : Int), (c : Int), none, 0, 0) H3 rfl 6 _ rfl rfl rfl rfl rfl ?_; clear H3; intro w4 H4)
    | ((with_reducible refine gBox ?_); refine wBox rxT ((r : Int), (c : Int), some ad, n, cp0) H0 _ rfl rfl rfl ?_; clear H0; intro w1 H1)
    | ((with_reducible refine gAlloc ?_); refine wAlloc rxT H1 rfl rfl ?_; clear H1; intro w2 H2)
    | ((with_reducible refine gLoad ?_); refine wLoad rxT ((r : Int), (c : Int), some ad, n, cp0) H2 1 rfl rfl _ rfl rfl rfl ?_)
    | (go_at_call 38; (with_reducible refine (cM _).mono ?_); rintro e w3 ⟨rfl, hb⟩; have H3 := H2.step hb; clear H2 hb; have k1 : w3.cell? ⟨w.heap.size, 1, none⟩ = some (.int .i64 (c : Int)) := (H3.va 1 rfl).cell 1))
  clear k1
  go_loopw [7] (fun v7 wr => relQ l rs r c ((r : Int), (c : Int), some ad, n, cp0) w w3.heap.size w1.heap.size w.heap.size v7 wr) (fun v _ => rs.length - (intOf v).toNat)
  case atStart => exact ⟨0, [], none, 0, rfl, by omega, by rfl, by rfl, H4.nilRow B8⟩
  case round =>
    obtain ⟨i, cur, A, cp, rfl, hi, HCU, HB, HS⟩ := hrel
    clear H4
    by_cases him : i < rs.length
    · have hii : (i : Int) < (rs.length : Int) := by omega
      obtain ⟨adr, hcl, cr', hvre⟩ := HEL.out i him
      injection hvre with hv1 hv2 hv3
      subst hv1
      subst hv3
      have HALLi := HALL.out i him
      have HANYi := HANY.out i him
      have hst := HPT.out i him
      have hcul := HLEN.out i hi HB.out
      have HCL := Lib.hid (cell_below HS.below hcl)
      have HCW := Lib.hid hcl
      generalize rs.getD i 0 = x at HCL HCW HALLi HANYi hst
      by_cases hx0 : x < 0
      · have e1 : decide (x < 0) = true := by simpa using hx0
        have HALL2 := HALLi (by simp [badRow, e1])
        have H := HS.drew
        have HS0 : SQ w3.heap.size w.heap.size ((rs.length : Int), (c : Int), A, cur.length, cp) ((r : Int), (c : Int), some ad, n, cp0) (adr.add i) x wr.drew := ⟨H.va 1 rfl, H.va 3 rfl, HCL.out⟩
        clear hcl HS
        go_wp2
        refine startS (SQ w3.heap.size w.heap.size ((rs.length : Int), (c : Int), A, cur.length, cp) ((r : Int), (c : Int), some ad, n, cp0) (adr.add i) x) (by kernel_rfl) HS0 ?_
        refine takeS 0 HS0 rfl (by kernel_rfl) (by kernel_rfl) (by kernel_rfl) (fun _ _ _ h => h) rfl (v := ?_) ?_ ?_
        rotate_left
        · intro w' hw'; clear hw'; go_simp; (try with_reducible rfl)
        (try simp only [Act.put, List.setIfInBounds_toArray, List.set_cons_zero, List.set_cons_succ])
        refine takeS 1 HS0 rfl (by kernel_rfl) (by kernel_rfl) (by kernel_rfl) (fun _ _ _ h => h) rfl (v := ?_) ?_ ?_
        rotate_left
        · intro w' hw'; clear hw'; go_simp; (try with_reducible rfl)
        (try simp only [Act.put, List.setIfInBounds_toArray, List.set_cons_zero, List.set_cons_succ])
        refine takeS 2 HS0 rfl (by kernel_rfl) (by kernel_rfl) (by kernel_rfl) (fun _ _ _ h => h) rfl (v := ?_) ?_ ?_
        rotate_left
        · intro w' hw'; clear hw'; go_simp; (try with_reducible rfl)
        (try simp only [Act.put, List.setIfInBounds_toArray, List.set_cons_zero, List.set_cons_succ])
        refine takeS 3 HS0 rfl (by kernel_rfl) (by kernel_rfl) (by kernel_rfl) (fun _ _ _ h => h) rfl (v := ?_) ?_ ?_
        rotate_left
        · intro w' hw'; have k5 := hw'.2.2; clear hw'; go_simp; (try with_reducible rfl)
        (try simp only [Act.put, List.setIfInBounds_toArray, List.set_cons_zero, List.set_cons_succ])
        refine takeS 4 HS0 rfl (by kernel_rfl) (by kernel_rfl) (by kernel_rfl) (fun _ _ _ h => h) rfl (v := ?_) ?_ ?_
        rotate_left
        · intro w' hw'; clear hw'; go_simp; (try with_reducible rfl)
        (try simp only [Act.put, List.setIfInBounds_toArray, List.set_cons_zero, List.set_cons_succ])
        refine takeS 5 HS0 rfl (by kernel_rfl) (by kernel_rfl) (by kernel_rfl) (fun _ _ _ h => h) rfl (v := ?_) ?_ ?_
        rotate_left
        · intro w' hw'; clear hw'; go_simp; (try with_reducible rfl)
        (try simp only [Act.put, List.setIfInBounds_toArray, List.set_cons_zero, List.set_cons_succ])
        refine skipS 6 HS0 rfl (by kernel_rfl) (by kernel_rfl) (by kernel_rfl) (fun _ _ _ h => h) rfl ?_
        (try simp only [Act.put, List.setIfInBounds_toArray, List.set_cons_zero, List.set_cons_succ])
        refine skipS 7 HS0 rfl (by kernel_rfl) (by kernel_rfl) (by kernel_rfl) (fun _ _ _ h => h) rfl ?_
        (try simp only [Act.put, List.setIfInBounds_toArray, List.set_cons_zero, List.set_cons_succ])
        refine skipS 8 HS0 rfl (by kernel_rfl) (by kernel_rfl) (by kernel_rfl) (fun _ _ _ h => h) rfl ?_
        (try simp only [Act.put, List.setIfInBounds_toArray, List.set_cons_zero, List.set_cons_succ])
        refine skipS 9 HS0 rfl (by kernel_rfl) (by kernel_rfl) (by kernel_rfl) (fun _ _ _ h => h) rfl ?_
        (try simp only [Act.put, List.setIfInBounds_toArray, List.set_cons_zero, List.set_cons_succ])
        refine skipS 10 HS0 rfl (by kernel_rfl) (by kernel_rfl) (by kernel_rfl) (fun _ _ _ h => h) rfl ?_
        (try simp only [Act.put, List.setIfInBounds_toArray, List.set_cons_zero, List.set_cons_succ])
        refine skipS 11 HS0 rfl (by kernel_rfl) (by kernel_rfl) (by kernel_rfl) (fun _ _ _ h => h) rfl ?_
        (try simp only [Act.put, List.setIfInBounds_toArray, List.set_cons_zero, List.set_cons_succ])
        refine skipS 12 HS0 rfl (by kernel_rfl) (by kernel_rfl) (by kernel_rfl) (fun _ _ _ h => h) rfl ?_
        (try simp only [Act.put, List.setIfInBounds_toArray, List.set_cons_zero, List.set_cons_succ])
        refine takeS 13 HS0 rfl (by kernel_rfl) (by kernel_rfl) (by kernel_rfl) (fun _ _ _ h => h) rfl (v := ?_) ?_ ?_
        rotate_left
        · intro w' hw'; clear hw'; go_simp; (try with_reducible rfl)
        (try simp only [Act.put, List.setIfInBounds_toArray, List.set_cons_zero, List.set_cons_succ])
        refine doneS (by kernel_rfl) ?_
        go_wp2_with (first
          | ((with_reducible refine gBuild ?_); refine wZero rxT rfl rfl ?_)
          | ((with_reducible refine gStore ?_); refine wStore rxT rxT.zero H 2 rfl rfl _ _ rfl rfl rfl rfl ?_; clear H; intro w5 H5))
        refine bodyPost_ret (results_cell_tmp rfl _ (H5.va 2 rfl) rfl _ Try.underlying38 rfl (rxT.sz _)) rfl ?_
        exact .inr ⟨HALL2, rfl, H5.below⟩
      · have e1 : decide (x < 0) = false := by simpa using hx0
        by_cases hxr : (r : Int) ≤ x
        · have e2 : decide ((r : Int) ≤ x) = true := by simpa using hxr
          have HALL2 := HALLi (by simp [badRow, e2])
          have H := HS.drew
          have HS0 : SQ w3.heap.size w.heap.size ((rs.length : Int), (c : Int), A, cur.length, cp) ((r : Int), (c : Int), some ad, n, cp0) (adr.add i) x wr.drew := ⟨H.va 1 rfl, H.va 3 rfl, HCL.out⟩
          clear hcl HS
          go_wp2
          refine startS (SQ w3.heap.size w.heap.size ((rs.length : Int), (c : Int), A, cur.length, cp) ((r : Int), (c : Int), some ad, n, cp0) (adr.add i) x) (by kernel_rfl) HS0 ?_
          refine takeS 0 HS0 rfl (by kernel_rfl) (by kernel_rfl) (by kernel_rfl) (fun _ _ _ h => h) rfl (v := ?_) ?_ ?_
          rotate_left
          · intro w' hw'; clear hw'; go_simp; (try with_reducible rfl)
          (try simp only [Act.put, List.setIfInBounds_toArray, List.set_cons_zero, List.set_cons_succ])
          refine takeS 1 HS0 rfl (by kernel_rfl) (by kernel_rfl) (by kernel_rfl) (fun _ _ _ h => h) rfl (v := ?_) ?_ ?_
          rotate_left
          · intro w' hw'; clear hw'; go_simp; (try with_reducible rfl)
          (try simp only [Act.put, List.setIfInBounds_toArray, List.set_cons_zero, List.set_cons_succ])
          refine takeS 2 HS0 rfl (by kernel_rfl) (by kernel_rfl) (by kernel_rfl) (fun _ _ _ h => h) rfl (v := ?_) ?_ ?_
          rotate_left
          · intro w' hw'; clear hw'; go_simp; (try with_reducible rfl)
          (try simp only [Act.put, List.setIfInBounds_toArray, List.set_cons_zero, List.set_cons_succ])
          refine takeS 3 HS0 rfl (by kernel_rfl) (by kernel_rfl) (by kernel_rfl) (fun _ _ _ h => h) rfl (v := ?_) ?_ ?_
          rotate_left
          · intro w' hw'; have k5 := hw'.2.2; clear hw'; go_simp; (try with_reducible rfl)
          (try simp only [Act.put, List.setIfInBounds_toArray, List.set_cons_zero, List.set_cons_succ])
          refine takeS 4 HS0 rfl (by kernel_rfl) (by kernel_rfl) (by kernel_rfl) (fun _ _ _ h => h) rfl (v := ?_) ?_ ?_
          rotate_left
          · intro w' hw'; clear hw'; go_simp; (try with_reducible rfl)
          (try simp only [Act.put, List.setIfInBounds_toArray, List.set_cons_zero, List.set_cons_succ])
          refine takeS 5 HS0 rfl (by kernel_rfl) (by kernel_rfl) (by kernel_rfl) (fun _ _ _ h => h) rfl (v := ?_) ?_ ?_
          rotate_left
          · intro w' hw'; clear hw'; go_simp; (try with_reducible rfl)
          (try simp only [Act.put, List.setIfInBounds_toArray, List.set_cons_zero, List.set_cons_succ])
          refine takeS 6 HS0 rfl (by kernel_rfl) (by kernel_rfl) (by kernel_rfl) (fun _ _ _ h => h) rfl (v := ?_) ?_ ?_
          rotate_left
          · intro w' hw'; clear hw'; go_simp; (try with_reducible rfl)
          (try simp only [Act.put, List.setIfInBounds_toArray, List.set_cons_zero, List.set_cons_succ])
          refine takeS 7 HS0 rfl (by kernel_rfl) (by kernel_rfl) (by kernel_rfl) (fun _ _ _ h => h) rfl (v := ?_) ?_ ?_
          rotate_left
          · intro w' hw'; clear hw'; go_simp; (try with_reducible rfl)
          (try simp only [Act.put, List.setIfInBounds_toArray, List.set_cons_zero, List.set_cons_succ])
          refine takeS 8 HS0 rfl (by kernel_rfl) (by kernel_rfl) (by kernel_rfl) (fun _ _ _ h => h) rfl (v := ?_) ?_ ?_
          rotate_left
          · intro w' hw'; clear hw'; go_simp; (try with_reducible rfl)
          (try simp only [Act.put, List.setIfInBounds_toArray, List.set_cons_zero, List.set_cons_succ])
          refine takeS 9 HS0 rfl (by kernel_rfl) (by kernel_rfl) (by kernel_rfl) (fun _ _ _ h => h) rfl (v := ?_) ?_ ?_
          rotate_left
          · intro w' hw'; have k5 := hw'.2.2; clear hw'; go_simp; (try with_reducible rfl)
          (try simp only [Act.put, List.setIfInBounds_toArray, List.set_cons_zero, List.set_cons_succ])
          refine takeS 10 HS0 rfl (by kernel_rfl) (by kernel_rfl) (by kernel_rfl) (fun _ _ _ h => h) rfl (v := ?_) ?_ ?_
          rotate_left
          · intro w' hw'; clear hw'; go_simp; (try with_reducible rfl)
          (try simp only [Act.put, List.setIfInBounds_toArray, List.set_cons_zero, List.set_cons_succ])
          refine takeS 11 HS0 rfl (by kernel_rfl) (by kernel_rfl) (by kernel_rfl) (fun _ _ _ h => h) rfl (v := ?_) ?_ ?_
          rotate_left
          · intro w' hw'; have k6 : w'.cell? ⟨w.heap.size, 0, none⟩ = some (.int .i64 (r : Int)) := VA.cell hw'.2.1 0; clear hw'; go_simp; (try with_reducible rfl)
          (try simp only [Act.put, List.setIfInBounds_toArray, List.set_cons_zero, List.set_cons_succ])
          refine takeS 12 HS0 rfl (by kernel_rfl) (by kernel_rfl) (by kernel_rfl) (fun _ _ _ h => h) rfl (v := ?_) ?_ ?_
          rotate_left
          · intro w' hw'; clear hw'; go_simp; (try with_reducible rfl)
          (try simp only [Act.put, List.setIfInBounds_toArray, List.set_cons_zero, List.set_cons_succ])
          refine takeS 13 HS0 rfl (by kernel_rfl) (by kernel_rfl) (by kernel_rfl) (fun _ _ _ h => h) rfl (v := ?_) ?_ ?_
          rotate_left
          · intro w' hw'; clear hw'; go_simp; (try with_reducible rfl)
          (try simp only [Act.put, List.setIfInBounds_toArray, List.set_cons_zero, List.set_cons_succ])
          refine doneS (by kernel_rfl) ?_
          go_wp2_with (first
            | ((with_reducible refine gBuild ?_); refine wZero rxT rfl rfl ?_)
            | ((with_reducible refine gStore ?_); refine wStore rxT rxT.zero H 2 rfl rfl _ _ rfl rfl rfl rfl ?_; clear H; intro w5 H5))
          refine bodyPost_ret (results_cell_tmp rfl _ (H5.va 2 rfl) rfl _ Try.underlying38 rfl (rxT.sz _)) rfl ?_
          exact .inr ⟨HALL2, rfl, H5.below⟩
        · have e2 : decide ((r : Int) ≤ x) = false := by simpa using hxr
          obtain ⟨q, rfl⟩ : ∃ q : Nat, x = (q : Int) := ⟨x.toNat, by omega⟩
          have hqr : q < r := by omega
          have e3 : (r ≤ q) = False := eq_false (by omega)
          rw [HB.out, badRow, e1, e2] at HANYi
          rw [Int.toNat_natCast, HROW.out q hqr, ← HCU.out] at hst
          rw [← HCU.out] at hcul
          have HST := Lib.hid hst
          have HB2 := Lib.hid (show (rs.take (i + 1)).any (badRow (r : Int)) = false from HANYi)
          have HCUL := Lib.hid hcul
          have HCUR := Lib.hid HCU.out
          clear hst hcul HALLi HANYi hcl
          have H := HS.drew
          have HS0 : SQ w3.heap.size w.heap.size ((rs.length : Int), (c : Int), A, cur.length, cp) ((r : Int), (c : Int), some ad, n, cp0) (adr.add i) (q : Int) wr.drew := ⟨H.va 1 rfl, H.va 3 rfl, HCL.out⟩
          clear HS
          go_wp2
          refine startS (SQ w3.heap.size w.heap.size ((rs.length : Int), (c : Int), A, cur.length, cp) ((r : Int), (c : Int), some ad, n, cp0) (adr.add i) (q : Int)) (by kernel_rfl) HS0 ?_
          refine takeS 0 HS0 rfl (by kernel_rfl) (by kernel_rfl) (by kernel_rfl) (fun _ _ _ h => h) rfl (v := ?_) ?_ ?_
          rotate_left
          · intro w' hw'; clear hw'; go_simp; (try with_reducible rfl)
          (try simp only [Act.put, List.setIfInBounds_toArray, List.set_cons_zero, List.set_cons_succ])
          refine takeS 1 HS0 rfl (by kernel_rfl) (by kernel_rfl) (by kernel_rfl) (fun _ _ _ h => h) rfl (v := ?_) ?_ ?_
          rotate_left
          · intro w' hw'; clear hw'; go_simp; (try with_reducible rfl)
          (try simp only [Act.put, List.setIfInBounds_toArray, List.set_cons_zero, List.set_cons_succ])
          refine takeS 2 HS0 rfl (by kernel_rfl) (by kernel_rfl) (by kernel_rfl) (fun _ _ _ h => h) rfl (v := ?_) ?_ ?_
          rotate_left
          · intro w' hw'; clear hw'; go_simp; (try with_reducible rfl)
          (try simp only [Act.put, List.setIfInBounds_toArray, List.set_cons_zero, List.set_cons_succ])
          refine takeS 3 HS0 rfl (by kernel_rfl) (by kernel_rfl) (by kernel_rfl) (fun _ _ _ h => h) rfl (v := ?_) ?_ ?_
          rotate_left
          · intro w' hw'; have k5 := hw'.2.2; clear hw'; go_simp; (try with_reducible rfl)
          (try simp only [Act.put, List.setIfInBounds_toArray, List.set_cons_zero, List.set_cons_succ])
          refine takeS 4 HS0 rfl (by kernel_rfl) (by kernel_rfl) (by kernel_rfl) (fun _ _ _ h => h) rfl (v := ?_) ?_ ?_
          rotate_left
          · intro w' hw'; clear hw'; go_simp; (try with_reducible rfl)
          (try simp only [Act.put, List.setIfInBounds_toArray, List.set_cons_zero, List.set_cons_succ])
          refine takeS 5 HS0 rfl (by kernel_rfl) (by kernel_rfl) (by kernel_rfl) (fun _ _ _ h => h) rfl (v := ?_) ?_ ?_
          rotate_left
          · intro w' hw'; clear hw'; go_simp; (try with_reducible rfl)
          (try simp only [Act.put, List.setIfInBounds_toArray, List.set_cons_zero, List.set_cons_succ])
          refine takeS 6 HS0 rfl (by kernel_rfl) (by kernel_rfl) (by kernel_rfl) (fun _ _ _ h => h) rfl (v := ?_) ?_ ?_
          rotate_left
          · intro w' hw'; clear hw'; go_simp; (try with_reducible rfl)
          (try simp only [Act.put, List.setIfInBounds_toArray, List.set_cons_zero, List.set_cons_succ])
          refine takeS 7 HS0 rfl (by kernel_rfl) (by kernel_rfl) (by kernel_rfl) (fun _ _ _ h => h) rfl (v := ?_) ?_ ?_
          rotate_left
          · intro w' hw'; clear hw'; go_simp; (try with_reducible rfl)
          (try simp only [Act.put, List.setIfInBounds_toArray, List.set_cons_zero, List.set_cons_succ])
          refine takeS 8 HS0 rfl (by kernel_rfl) (by kernel_rfl) (by kernel_rfl) (fun _ _ _ h => h) rfl (v := ?_) ?_ ?_
          rotate_left
          · intro w' hw'; clear hw'; go_simp; (try with_reducible rfl)
          (try simp only [Act.put, List.setIfInBounds_toArray, List.set_cons_zero, List.set_cons_succ])
          refine takeS 9 HS0 rfl (by kernel_rfl) (by kernel_rfl) (by kernel_rfl) (fun _ _ _ h => h) rfl (v := ?_) ?_ ?_
          rotate_left
          · intro w' hw'; have k5 := hw'.2.2; clear hw'; go_simp; (try with_reducible rfl)
          (try simp only [Act.put, List.setIfInBounds_toArray, List.set_cons_zero, List.set_cons_succ])
          refine takeS 10 HS0 rfl (by kernel_rfl) (by kernel_rfl) (by kernel_rfl) (fun _ _ _ h => h) rfl (v := ?_) ?_ ?_
          rotate_left
          · intro w' hw'; clear hw'; go_simp; (try with_reducible rfl)
          (try simp only [Act.put, List.setIfInBounds_toArray, List.set_cons_zero, List.set_cons_succ])
          refine takeS 11 HS0 rfl (by kernel_rfl) (by kernel_rfl) (by kernel_rfl) (fun _ _ _ h => h) rfl (v := ?_) ?_ ?_
          rotate_left
          · intro w' hw'; have k6 : w'.cell? ⟨w.heap.size, 0, none⟩ = some (.int .i64 (r : Int)) := VA.cell hw'.2.1 0; clear hw'; go_simp; (try with_reducible rfl)
          (try simp only [Act.put, List.setIfInBounds_toArray, List.set_cons_zero, List.set_cons_succ])
          refine takeS 12 HS0 rfl (by kernel_rfl) (by kernel_rfl) (by kernel_rfl) (fun _ _ _ h => h) rfl (v := ?_) ?_ ?_
          rotate_left
          · intro w' hw'; clear hw'; go_simp; (try with_reducible rfl)
          (try simp only [Act.put, List.setIfInBounds_toArray, List.set_cons_zero, List.set_cons_succ])
          refine takeS 13 HS0 rfl (by kernel_rfl) (by kernel_rfl) (by kernel_rfl) (fun _ _ _ h => h) rfl (v := ?_) ?_ ?_
          rotate_left
          · intro w' hw'; clear hw'; go_simp; (try with_reducible rfl)
          (try simp only [Act.put, List.setIfInBounds_toArray, List.set_cons_zero, List.set_cons_succ])
          refine doneS (by kernel_rfl) ?_
          go_wp2
          go_loopw [8] (fun v8 wr => relQI l rs i q c ((r : Int), (c : Int), some ad, n, cp0) w w3.heap.size w1.heap.size w.heap.size v8 wr) (fun v _ => c - (intOf v).toNat)
          case atStart => exact ⟨0, cur, A, cp, rfl, by omega, by simp [Hid, HCUR.out], H⟩
          case round =>
            obtain ⟨j, cu2, A2, cp2, rfl, hj, HC2, HS2⟩ := hrel
            have k1 : World.cell? _ ⟨w.heap.size, 1, none⟩ = some (.int .i64 (c : Int)) := (HS2.va 3 rfl).cell 1
            by_cases hjc : j < c
            · have hji : (j : Int) < (c : Int) := by omega
              have hcl2 : cu2.length ≤ 3000 := by
                rw [HC2.out, ← HCUR.out, List.length_append, List.length_map, List.length_range]
                have := HCUL.out
                omega
              have hst2 : cu2 ++ [l.getD (q * c + j) 0] = pickL l c (rs.take i) ++ (List.range (j + 1)).map fun j => l.getD (q * c + j) 0 := by rw [HC2.out, List.range_succ, List.map_append, List.append_assoc]; rfl
              have cT := fun W h => HA.out W h q j hqr hjc
              generalize l.getD (q * c + j) 0 = y at hst2 cT
              have HST2 := Lib.hid hst2
              have HCL2 := Lib.hid hcl2
              clear hst2 hcl2
              have hcw := cell_below HS2.below HCW.out
              have H := HS2.drew
              have HS0 : SQ w3.heap.size w.heap.size ((rs.length : Int), (c : Int), A2, cu2.length, cp2) ((r : Int), (c : Int), some ad, n, cp0) (adr.add i) (q : Int) _ := ⟨H.va 1 rfl, H.va 3 rfl, hcw⟩
              clear HS2 hcw
              go_wp2
              clear k1
              refine startL (SQ w3.heap.size w.heap.size ((rs.length : Int), (c : Int), A2, cu2.length, cp2) ((r : Int), (c : Int), some ad, n, cp0) (adr.add i) (q : Int)) (fun i => i == 12) (by kernel_rfl) ?_
              refine takeP 0 rfl (by kernel_rfl) (by kernel_rfl) (by kernel_rfl) (by kernel_rfl) (fun _ _ _ h => h) rfl (v := ?_) ?_ ?_
              rotate_left
              · intro w'; go_simp; (try with_reducible rfl)
              (try simp only [Act.put, List.setIfInBounds_toArray, List.set_cons_zero, List.set_cons_succ])
              refine takeL 1 HS0 rfl (by kernel_rfl) (by kernel_rfl) (by kernel_rfl) (by kernel_rfl) (by kernel_rfl) (fun _ _ _ h => h) rfl (v := ?_) ?_ ?_
              rotate_left
              · intro w' hw'; have k2 : w'.cell? ⟨w3.heap.size, 2, none⟩ = some (.slice A2 cu2.length cp2) := VA.cell hw'.1 2; clear hw'; go_simp; (try with_reducible rfl)
              (try simp only [Act.put, List.setIfInBounds_toArray, List.set_cons_zero, List.set_cons_succ])
              refine takeL 2 HS0 rfl (by kernel_rfl) (by kernel_rfl) (by kernel_rfl) (by kernel_rfl) (by kernel_rfl) (fun _ _ _ h => h) rfl (v := ?_) ?_ ?_
              rotate_left
              · intro w' hw'; refine Eq.trans (exec_load 38 _ rfl w.heap.size 0 rfl (mxC ((r : Int), (c : Int), some ad, n, cp0)) rxT.d (VA.all hw'.2.1) rxT.under rxT.row (rxT.sz _)) ?_; with_reducible rfl
              (try simp only [Act.put, List.setIfInBounds_toArray, List.set_cons_zero, List.set_cons_succ])
              refine takeP 3 rfl (by kernel_rfl) (by kernel_rfl) (by kernel_rfl) (by kernel_rfl) (fun _ _ _ h => h) rfl (v := ?_) ?_ ?_
              rotate_left
              · intro w'; go_simp; (try with_reducible rfl)
              (try simp only [Act.put, List.setIfInBounds_toArray, List.set_cons_zero, List.set_cons_succ])
              refine takeP 4 rfl (by kernel_rfl) (by kernel_rfl) (by kernel_rfl) (by kernel_rfl) (fun _ _ _ h => h) rfl (v := ?_) ?_ ?_
              rotate_left
              · intro w'; go_simp; (try with_reducible rfl)
              (try simp only [Act.put, List.setIfInBounds_toArray, List.set_cons_zero, List.set_cons_succ])
              refine takeP 5 rfl (by kernel_rfl) (by kernel_rfl) (by kernel_rfl) (by kernel_rfl) (fun _ _ _ h => h) rfl (v := ?_) ?_ ?_
              rotate_left
              · intro w'; go_simp; (try with_reducible rfl)
              (try simp only [Act.put, List.setIfInBounds_toArray, List.set_cons_zero, List.set_cons_succ])
              refine takeL 6 HS0 rfl (by kernel_rfl) (by kernel_rfl) (by kernel_rfl) (by kernel_rfl) (by kernel_rfl) (fun _ _ _ h => h) rfl (v := ?_) ?_ ?_
              rotate_left
              · intro w' hw'; have k5 := hw'.2.2; clear hw'; go_simp; (try with_reducible rfl)
              (try simp only [Act.put, List.setIfInBounds_toArray, List.set_cons_zero, List.set_cons_succ])
              refine takeP 7 rfl (by kernel_rfl) (by kernel_rfl) (by kernel_rfl) (by kernel_rfl) (fun _ _ _ h => h) rfl (v := ?_) ?_ ?_
              rotate_left
              · intro w'; go_simp; (try with_reducible rfl)
              (try simp only [Act.put, List.setIfInBounds_toArray, List.set_cons_zero, List.set_cons_succ])
              refine stepL 8 rfl (by kernel_rfl) rfl (fun K hK => ?_)
              (go_simp; refine (cT _ H.below).mono ?_; rintro e w5 ⟨rfl, hb5⟩; replace H := H.step hb5; have HS1 := SQ.below HS0 hb5; clear hb5; refine hK.out _ _ (fun _ _ => HS1) ?_; clear K hK HS0; have HS0 := HS1; clear HS1)
              (try simp only [Act.put, List.setIfInBounds_toArray, List.set_cons_zero, List.set_cons_succ])
              refine stepL 9 rfl (by kernel_rfl) rfl (fun K hK => ?_)
              (go_simp; have HS1 := SQ.below HS0 (alloc_belowAt _ (.cells #[.int .u8 (y.toNat : Int)] 5)); refine hK.out _ _ (fun _ _ => HS1) ?_; clear K hK HS0; have HS0 := HS1; clear HS1)
              (try simp only [Act.put, List.setIfInBounds_toArray, List.set_cons_zero, List.set_cons_succ])
              refine stepL 10 rfl (by kernel_rfl) rfl (fun K hK => ?_)
              (refine oAppLit sB [y] #[.int .u8 (y.toNat : Int)] rfl (by simp) 1 rfl H 0 rfl (by have := HCL2.out; show (cu2.length + 1) * 1 ≤ _; omega) _ _ rfl rfl rfl ?_; clear H; intro v6 w6 H; obtain ⟨A6, c6, rfl, hc6⟩ := (H.rr 0 rfl).len; have HS1 : SQ w3.heap.size w.heap.size ((rs.length : Int), (c : Int), A2, cu2.length, cp2) ((r : Int), (c : Int), some ad, n, cp0) (adr.add i) (q : Int) w6 := ⟨H.va 1 rfl, H.va 3 rfl, cell_below H.below HCW.out⟩; refine hK.out _ _ (fun _ _ => HS1) ?_; clear K hK HS0; have HS0 := HS1; clear HS1)
              (try simp only [Act.put, List.setIfInBounds_toArray, List.set_cons_zero, List.set_cons_succ])
              refine takeP 11 rfl (by kernel_rfl) (by kernel_rfl) (by kernel_rfl) (by kernel_rfl) (fun _ _ _ h => h) rfl (v := ?_) ?_ ?_
              rotate_left
              · intro w'; go_simp; (try with_reducible rfl)
              (try simp only [Act.put, List.setIfInBounds_toArray, List.set_cons_zero, List.set_cons_succ])
              refine stepL 12 rfl (by kernel_rfl) rfl (fun K hK => ?_)
              (refine oCell 22 (.slice A6 (cu2 ++ [y]).length c6) (by kernel_rfl) rfl rfl H 1 (off := 2) rfl (Nat.le_refl 3) (mxC ((rs.length : Int), (c : Int), A6, (cu2 ++ [y]).length, c6)) rfl _ _ rfl rfl rfl ?_; clear H; intro w7 H; refine hK.out _ _ (fun h => by cases h) ?_; clear K hK HS0)
              (try simp only [Act.put, List.setIfInBounds_toArray, List.set_cons_zero, List.set_cons_succ])
              refine doneL (by kernel_rfl) ?_
              go_wp2
              go_roundw
              case rel => first | exact ⟨j + 1, _, _, _, by go_num, by omega, HST2, H⟩ | exact ⟨_, ⟨j + 1, _, _, _, by go_num, by omega, HST2, H⟩, rfl⟩ | ((repeat (apply Exists.intro)); refine ⟨⟨j + 1, _, _, _, ?_, by omega, HST2, H⟩, rfl⟩; go_num)
              case measure => simp [intOf] <;> omega
            · obtain rfl : j = c := by omega
              have hcur : cu2 = pickL l j (rs.take (i + 1)) := by rw [HC2.out, HST.out, ← HCUR.out]
              have HCU2 := Lib.hid hcur
              clear hcur
              go_wp2
              go_roundw
              case rel => first | exact ⟨i + 1, _, _, _, by go_num, by omega, HCU2, HB2, HS2⟩ | exact ⟨_, ⟨i + 1, _, _, _, by go_num, by omega, HCU2, HB2, HS2⟩, rfl⟩ | ((repeat (apply Exists.intro)); refine ⟨⟨i + 1, _, _, _, ?_, by omega, HCU2, HB2, HS2⟩, rfl⟩; go_num)
              case measure => simp [intOf] <;> omega
    · have hi2 : i = rs.length := by omega
      have hcur := HCU.out
      have hbb := HB.out
      rw [hi2, List.take_length] at hcur hbb
      have HBB := Lib.hid hbb
      clear hbb HB HCU
      subst hcur
      subst hi2
      go_wp2_with (first
        | ((with_reducible refine gLoad ?_); refine wLoad rxT ((rs.length : Int), (c : Int), A, (pickL l c rs).length, cp) HS 1 rfl rfl _ rfl rfl rfl ?_)
        | ((with_reducible refine gStore ?_); refine wStore rxT ((rs.length : Int), (c : Int), A, (pickL l c rs).length, cp) HS 2 rfl rfl _ _ rfl rfl rfl rfl ?_; clear HS; intro w5 H))
      refine bodyPost_ret (results_cell_tmp rfl _ (H.va 2 rfl) rfl _ Try.underlying38 rfl (rxT.sz _)) rfl ?_
      exact .inl ⟨HBB.out, A, cp, rfl, H.orow 0 rfl, H.below⟩
end Go.Proofs.Ytfnneneaalaagaa

namespace Go.Proofs.Ytfnneneaalaagaa
set_option maxRecDepth 100000
open Go.RowKit
set_option linter.unusedSimpArgs false
set_option linter.unusedVariables false

def sumX : Nat → (Nat → UInt8) → UInt8
  | 0, _ => 0
  | n + 1, f => sumX n f ^^^ f n
theorem sumX_cons (n : Nat) (f : Nat → UInt8) : sumX (n + 1) f = f 0 ^^^ sumX n (fun k => f (k + 1)) := by
  induction n with
  | zero => simp [sumX]
  | succ n ih => rw [sumX, ih, UInt8.xor_assoc]; rfl
theorem dotL_map (n : Nat) : ∀ (f g : Nat → UInt8), dotL ((List.range n).map f) ((List.range n).map g) = sumX n (fun k => fmul (f k) (g k)) := by
  induction n with
  | zero => intro f g; rfl
  | succ n ih =>
    intro f g
    rw [List.range_succ_eq_map, List.map_cons, List.map_cons, dotL, sumX_cons, List.map_map, List.map_map, ih]
    rfl
theorem sumX_congr {n : Nat} {f g : Nat → UInt8} (h : ∀ k, k < n → f k = g k) : sumX n f = sumX n g := by
  induction n with
  | zero => rfl
  | succ n ih => rw [sumX, sumX, ih (fun k hk => h k (by omega)), h n (by omega)]
/-- An element of a product. -/
def mulE (la : List UInt8) (ca : Nat) (lb : List UInt8) (cb i j : Nat) : UInt8 := sumX ca fun k => fmul (la.getD (i * ca + k) 0) (lb.getD (k * cb + j) 0)
set_option maxHeartbeats 1600000 in
set_option maxRecDepth 100000 in
theorem Mul1_any (la lb : List UInt8) (ra c cb i j ba bb : Nat) (Aa Ab : Option Addr) (pa pb : Nat) (w : World)
    (RO : HOLD [.blk ba 32 (mxT.enc ((ra : Int), (c : Int), Aa, la.length, pa)), .blk bb 32 (mxT.enc ((c : Int), (cb : Int), Ab, lb.length, pb))] w)
    (ha : RB w (.slice Aa la.length pa) la) (hb : RB w (.slice Ab lb.length pb) lb) (hla : la.length = ra * c) (hlb : lb.length = c * cb) (hpa : la.length ≤ pa) (hpb : lb.length ≤ pb) (hra : ra ≤ 64) (hc0 : 0 < c) (hc : c ≤ 64) (hcb : cb ≤ 64) (hi : i < ra) (hj : j < cb) :
    Calls Try.prog 64 #[.int .i64 (i : Int), .int .i64 (j : Int), .pointer (some ⟨ba, 0, none⟩), .pointer (some ⟨bb, 0, none⟩)] w fun e w' => e = .returned (.int .u8 ((mulE la c lb cb i j).toNat : Int)) ∧ Below w.heap.size w w' := by
  have H := SH.start Nil w
  have hn : la.length ≤ 64 * 64 := by rw [hla]; exact Nat.mul_le_mul hra hc
  have hn2 : lb.length ≤ 64 * 64 := by rw [hlb]; exact Nat.mul_le_mul hc hcb
  have hin := row_in (c := c) hi
  rw [← hla] at hin
  have hpos : 0 < la.length := by
    have : 1 * c ≤ (i + 1) * c := Nat.mul_le_mul_right c (by omega)
    omega
  have hpos2 : 0 < lb.length := by rw [hlb]; exact Nat.mul_pos hc0 (by omega)
  obtain ⟨ad, rfl, -⟩ := ha.byte hpos
  obtain ⟨ad2, rfl, -⟩ := hb.byte hpos2
  have cR := fun W => row_any (ra : Int) c i ad la.length pa W hc0 (by omega) hpa (by omega)
  have cC := fun W h => column_any lb c cb j ad2 pb W (by rw [← hlb]; exact h) hlb hc hcb hj (by omega)
  rw [← hlb] at cC
  have hrow := ha.rowq hin hc0
  have hdot : dotV (rowq la c i) (colL lb c cb j) = mulE la c lb cb i j := by
    rw [dotV, if_pos (by rw [rowq_len hin, colL_len]), rowq_map hin, colL, dotL_map]; rfl
  have hE : dotE (rowq la c i) (colL lb c cb j) = 0 := by rw [dotE, if_pos (by rw [rowq_len hin, colL_len])]
  have cD := fun W v h1 h2 => FDot_any (.slice (some (ad.add (i * c))) c c) v (rowq la c i) (colL lb c cb j) W h1 h2 (by rw [rowq_len hin]; omega)
  rw [hdot, hE] at cD
  generalize mulE la c lb cb i j = x at *
  have HROW := Lib.hid hrow
  have HB := Lib.hid hb
  clear hdot hE hn hn2 hin hpos hpos2 hrow ha hb hla hlb hi hj hpa hpb
  go_enter Try.func64, Try.ntmps64
  go_wp2
  refine startA (fun i => false) (by kernel_rfl) (fun wS hS => ?_)
  replace H := H.drew
  rw [← hS] at H
  have HH := H.hold
  have HR := H.old RO
  have HS0 : Below wS.heap.size wS wS := Below.refl _ _
  clear hS
  refine takeL 0 HS0 rfl (by kernel_rfl) (by kernel_rfl) (by kernel_rfl) (by kernel_rfl) (by kernel_rfl) (fun _ _ _ h => h) rfl (v := ?_) ?_ ?_
  rotate_left
  · intro w' hw'; first | (refine Eq.trans (xLoad (HR.below hw') _ rfl rfl (by first | exact part_all (by first | rfl | simp []) | (simp only [List.drop_succ_cons, List.drop_zero, List.take_succ_cons, List.take_zero]; rfl) | (simp [List.drop_append, List.take_append]; rfl)) (by first | rfl | simp [])) ?_; with_reducible rfl) | (refine Eq.trans (xLoad (HH.below hw') _ rfl rfl (by first | exact part_all (by first | rfl | simp []) | (simp only [List.drop_succ_cons, List.drop_zero, List.take_succ_cons, List.take_zero]; rfl) | (simp [List.drop_append, List.take_append]; rfl)) (by first | rfl | simp [])) ?_; with_reducible rfl)
  (try simp only [Act.put, List.setIfInBounds_toArray, List.set_cons_zero, List.set_cons_succ])
  refine takeP 1 rfl (by kernel_rfl) (by kernel_rfl) (by kernel_rfl) (by kernel_rfl) (fun _ _ _ h => h) rfl (v := ?_) ?_ ?_
  rotate_left
  · intro w'; go_simp; (try with_reducible rfl)
  (try simp only [Act.put, List.setIfInBounds_toArray, List.set_cons_zero, List.set_cons_succ])
  refine takeL 3 HS0 rfl (by kernel_rfl) (by kernel_rfl) (by kernel_rfl) (by kernel_rfl) (by kernel_rfl) (fun _ _ _ h => h) rfl (v := ?_) ?_ ?_
  rotate_left
  · intro w' hw'; first | (refine Eq.trans (xLoad (HR.below hw') _ rfl rfl (by first | exact part_all (by first | rfl | simp []) | (simp only [List.drop_succ_cons, List.drop_zero, List.take_succ_cons, List.take_zero]; rfl) | (simp [List.drop_append, List.take_append]; rfl)) (by first | rfl | simp [])) ?_; with_reducible rfl) | (refine Eq.trans (xLoad (HH.below hw') _ rfl rfl (by first | exact part_all (by first | rfl | simp []) | (simp only [List.drop_succ_cons, List.drop_zero, List.take_succ_cons, List.take_zero]; rfl) | (simp [List.drop_append, List.take_append]; rfl)) (by first | rfl | simp [])) ?_; with_reducible rfl)
  (try simp only [Act.put, List.setIfInBounds_toArray, List.set_cons_zero, List.set_cons_succ])
  refine takeP 4 rfl (by kernel_rfl) (by kernel_rfl) (by kernel_rfl) (by kernel_rfl) (fun _ _ _ h => h) rfl (v := ?_) ?_ ?_
  rotate_left
  · intro w'; go_simp; (try with_reducible rfl)
  (try simp only [Act.put, List.setIfInBounds_toArray, List.set_cons_zero, List.set_cons_succ])
  refine stepL 2 rfl (by kernel_rfl) rfl (fun K hK => ?_)
  (go_simp; (with_reducible refine (cR _).mono ?_); rintro e w' ⟨rfl, hb⟩; replace H := H.step hb; replace HS0 := below_two HS0 HS0.size hb; clear hb; refine hK.out _ _ (fun _ _ => HS0) ?_; clear K hK)
  (try simp only [Act.put, List.setIfInBounds_toArray, List.set_cons_zero, List.set_cons_succ])
  refine stepL 5 rfl (by kernel_rfl) rfl (fun K hK => ?_)
  (go_simp; (with_reducible refine (cC _ (HB.out.below H.below)).mono ?_); rintro e w' ⟨v5, rfl, ho, hb⟩; replace H := H.pushRow hb ho; clear ho; replace HS0 := below_two HS0 HS0.size hb; clear hb; refine hK.out _ _ (fun _ _ => HS0) ?_; clear K hK)
  (try simp only [Act.put, List.setIfInBounds_toArray, List.set_cons_zero, List.set_cons_succ])
  refine stepL 6 rfl (by kernel_rfl) rfl (fun K hK => ?_)
  (go_simp; (with_reducible refine (cD _ _ (HROW.out.below H.below) (H.hold.rr v5)).mono ?_); rintro e w' ⟨rfl, hb⟩; replace H := H.step hb; replace HS0 := below_two HS0 HS0.size hb; clear hb; refine hK.out _ _ (fun _ _ => HS0) ?_; clear K hK)
  (try simp only [Act.put, List.setIfInBounds_toArray, List.set_cons_zero, List.set_cons_succ])
  refine takeP 7 rfl (by kernel_rfl) (by kernel_rfl) (by kernel_rfl) (by kernel_rfl) (fun _ _ _ h => h) rfl (v := ?_) ?_ ?_
  rotate_left
  · intro w'; go_simp; (try with_reducible rfl)
  (try simp only [Act.put, List.setIfInBounds_toArray, List.set_cons_zero, List.set_cons_succ])
  refine takeP 8 rfl (by kernel_rfl) (by kernel_rfl) (by kernel_rfl) (by kernel_rfl) (fun _ _ _ h => h) rfl (v := ?_) ?_ ?_
  rotate_left
  · intro w'; go_simp; (try with_reducible rfl)
  (try simp only [Act.put, List.setIfInBounds_toArray, List.set_cons_zero, List.set_cons_succ])
  refine takeP 9 rfl (by kernel_rfl) (by kernel_rfl) (by kernel_rfl) (by kernel_rfl) (fun _ _ _ h => h) rfl (v := ?_) ?_ ?_
  rotate_left
  · intro w'; go_simp; (try with_reducible rfl)
  (try simp only [Act.put, List.setIfInBounds_toArray, List.set_cons_zero, List.set_cons_succ])
  refine takeP 10 rfl (by kernel_rfl) (by kernel_rfl) (by kernel_rfl) (by kernel_rfl) (fun _ _ _ h => h) rfl (v := ?_) ?_ ?_
  rotate_left
  · intro w'; go_simp; (try with_reducible rfl)
  (try simp only [Act.put, List.setIfInBounds_toArray, List.set_cons_zero, List.set_cons_succ])
  refine takeP 11 rfl (by kernel_rfl) (by kernel_rfl) (by kernel_rfl) (by kernel_rfl) (fun _ _ _ h => h) rfl (v := ?_) ?_ ?_
  rotate_left
  · intro w'; go_simp; (try with_reducible rfl)
  (try simp only [Act.put, List.setIfInBounds_toArray, List.set_cons_zero, List.set_cons_succ])
  refine doneL (by kernel_rfl) ?_
  go_wp2
  go_ret
  exact ⟨rfl, H.below⟩
end Go.Proofs.Ytfnneneaalaagaa
