/- The field of 256 elements. Plain. -/
namespace Go.Proofs.Ytfnneneaalaagaa

theorem u8_all {p : UInt8 → Prop} (h : ∀ n, n < 256 → p (UInt8.ofNat n)) (a : UInt8) : p a := by
  have := h a.toNat a.toNat_lt
  simpa using this

/-- A product with x. -/
def dbl (a : UInt8) : UInt8 := UInt8.ofNat ((2 * a.toNat) % 256 ^^^ 29 * (a.toNat / 128))
def mulF : Nat → UInt8 → UInt8 → UInt8
  | 0, _, _ => 0
  | k + 1, a, b => (if b.toNat % 2 = 1 then a else 0) ^^^ mulF k (dbl a) (UInt8.ofNat (b.toNat / 2))
/-- The product. -/
def fmul (a b : UInt8) : UInt8 := mulF 8 a b

def Additive (f : UInt8 → UInt8) : Prop := ∀ x y, f (x ^^^ y) = f x ^^^ f y
theorem Additive.zero {f : UInt8 → UInt8} (h : Additive f) : f 0 = 0 := by
  have := h 0 0
  simpa using this
theorem xor_parts (x : UInt8) : x = (x &&& 1) ^^^ ((x &&& 2) ^^^ ((x &&& 4) ^^^ ((x &&& 8) ^^^ ((x &&& 16) ^^^ ((x &&& 32) ^^^ ((x &&& 64) ^^^ (x &&& 128))))))) := by
  revert x
  apply u8_all
  decide +kernel
theorem bit_of (x : UInt8) : (x &&& 1 = 0 ∨ x &&& 1 = 1) ∧ (x &&& 2 = 0 ∨ x &&& 2 = 2) ∧ (x &&& 4 = 0 ∨ x &&& 4 = 4) ∧ (x &&& 8 = 0 ∨ x &&& 8 = 8) ∧ (x &&& 16 = 0 ∨ x &&& 16 = 16) ∧ (x &&& 32 = 0 ∨ x &&& 32 = 32) ∧ (x &&& 64 = 0 ∨ x &&& 64 = 64) ∧ (x &&& 128 = 0 ∨ x &&& 128 = 128) := by
  revert x
  apply u8_all
  decide +kernel
theorem add_ext {f g : UInt8 → UInt8} (hf : Additive f) (hg : Additive g) (h1 : f 1 = g 1) (h2 : f 2 = g 2) (h4 : f 4 = g 4) (h8 : f 8 = g 8) (h16 : f 16 = g 16) (h32 : f 32 = g 32) (h64 : f 64 = g 64) (h128 : f 128 = g 128) (x : UInt8) : f x = g x := by
  have z : f 0 = g 0 := by rw [hf.zero, hg.zero]
  obtain ⟨b1, b2, b4, b8, b16, b32, b64, b128⟩ := bit_of x
  rw [xor_parts x]
  simp only [hf _ _, hg _ _]
  congr 1
  · rcases b1 with e | e <;> rw [e] <;> assumption
  congr 1
  · rcases b2 with e | e <;> rw [e] <;> assumption
  congr 1
  · rcases b4 with e | e <;> rw [e] <;> assumption
  congr 1
  · rcases b8 with e | e <;> rw [e] <;> assumption
  congr 1
  · rcases b16 with e | e <;> rw [e] <;> assumption
  congr 1
  · rcases b32 with e | e <;> rw [e] <;> assumption
  congr 1
  · rcases b64 with e | e <;> rw [e] <;> assumption
  · rcases b128 with e | e <;> rw [e] <;> assumption

theorem xor4 (a b c d : UInt8) : (a ^^^ b) ^^^ (c ^^^ d) = (a ^^^ c) ^^^ (b ^^^ d) := by
  rw [UInt8.xor_assoc, UInt8.xor_assoc, ← UInt8.xor_assoc b, UInt8.xor_comm b c, UInt8.xor_assoc c]

theorem dbl_add : Additive dbl := by
  intro x y
  have h2 : 2 * (x.toNat ^^^ y.toNat) = 2 * x.toNat ^^^ 2 * y.toNat := by
    have := @Nat.shiftLeft_xor_distrib 1 x.toNat y.toNat
    simpa [Nat.shiftLeft_eq, Nat.mul_comm] using this
  have hd : (x.toNat ^^^ y.toNat) / 128 = x.toNat / 128 ^^^ y.toNat / 128 := @Nat.xor_div_two_pow x.toNat y.toNat 7
  have hm : (2 * x.toNat ^^^ 2 * y.toNat) % 256 = 2 * x.toNat % 256 ^^^ 2 * y.toNat % 256 := @Nat.xor_mod_two_pow (2 * x.toNat) (2 * y.toNat) 8
  have hx : x.toNat / 128 = 0 ∨ x.toNat / 128 = 1 := by have := x.toNat_lt; omega
  have hy : y.toNat / 128 = 0 ∨ y.toNat / 128 = 1 := by have := y.toNat_lt; omega
  have h29 : 29 * (x.toNat / 128 ^^^ y.toNat / 128) = 29 * (x.toNat / 128) ^^^ 29 * (y.toNat / 128) := by
    rcases hx with e | e <;> rcases hy with e2 | e2 <;> rw [e, e2] <;> rfl
  unfold dbl
  rw [UInt8.toNat_xor, h2, hm, hd, h29, ← UInt8.ofNat_xor]
  congr 1
  rw [Nat.xor_assoc, Nat.xor_assoc]
  congr 1
  rw [← Nat.xor_assoc, ← Nat.xor_assoc, Nat.xor_comm (2 * y.toNat % 256)]

theorem mulF_add_left (k : Nat) : ∀ b, Additive (fun a => mulF k a b) := by
  induction k with
  | zero => intro b x y; simp [mulF]
  | succ k ih =>
    intro b x y
    simp only [mulF]
    have e : mulF k (dbl x ^^^ dbl y) (UInt8.ofNat (b.toNat / 2)) = mulF k (dbl x) (UInt8.ofNat (b.toNat / 2)) ^^^ mulF k (dbl y) (UInt8.ofNat (b.toNat / 2)) := ih _ _ _
    rw [dbl_add x y, e, xor4]
    congr 1
    split <;> simp
theorem mulF_add_right (k : Nat) : ∀ a, Additive (fun b => mulF k a b) := by
  induction k with
  | zero => intro b x y; simp [mulF]
  | succ k ih =>
    intro a x y
    simp only [mulF]
    have hd : UInt8.ofNat ((x ^^^ y).toNat / 2) = UInt8.ofNat (x.toNat / 2) ^^^ UInt8.ofNat (y.toNat / 2) := by
      rw [UInt8.toNat_xor, Nat.xor_div_two, UInt8.ofNat_xor]
    have e : mulF k (dbl a) (UInt8.ofNat (x.toNat / 2) ^^^ UInt8.ofNat (y.toNat / 2)) = mulF k (dbl a) (UInt8.ofNat (x.toNat / 2)) ^^^ mulF k (dbl a) (UInt8.ofNat (y.toNat / 2)) := ih _ _ _
    rw [hd, e, xor4]
    congr 1
    rw [UInt8.toNat_xor]
    by_cases hx : x.toNat % 2 = 1 <;> by_cases hy : y.toNat % 2 = 1 <;> simp [hx, hy]
theorem fmul_add_left (b : UInt8) : Additive (fun a => fmul a b) := mulF_add_left 8 b
theorem fmul_add_right (a : UInt8) : Additive (fun b => fmul a b) := mulF_add_right 8 a
theorem fmul_xor (a b c : UInt8) : fmul a (b ^^^ c) = fmul a b ^^^ fmul a c := fmul_add_right a b c
theorem xor_fmul (a b c : UInt8) : fmul (a ^^^ b) c = fmul a c ^^^ fmul b c := fmul_add_left c a b

def pow2s : List UInt8 := [1, 2, 4, 8, 16, 32, 64, 128]
theorem add_ext' {f g : UInt8 → UInt8} (hf : Additive f) (hg : Additive g) (h : ∀ p ∈ pow2s, f p = g p) (x : UInt8) : f x = g x := by
  simp only [pow2s, List.mem_cons, List.not_mem_nil, or_false, forall_eq_or_imp, forall_eq] at h
  obtain ⟨h1, h2, h4, h8, h16, h32, h64, h128⟩ := h
  exact add_ext hf hg h1 h2 h4 h8 h16 h32 h64 h128 x

theorem fmul_comm (a b : UInt8) : fmul a b = fmul b a := by
  refine add_ext' (f := fun a => fmul a b) (g := fun a => fmul b a) (fmul_add_left b) (fmul_add_right b) (fun p hp => ?_) a
  refine add_ext' (f := fun b => fmul p b) (g := fun b => fmul b p) (fmul_add_right p) (fmul_add_left p) (fun q hq => ?_) b
  have : ∀ p ∈ pow2s, ∀ q ∈ pow2s, fmul p q = fmul q p := by decide +kernel
  exact this p hp q hq
theorem Additive.comp {f g : UInt8 → UInt8} (hf : Additive f) (hg : Additive g) : Additive (fun x => f (g x)) := fun x y => by
  show f (g (x ^^^ y)) = _
  rw [hg x y, hf _ _]
theorem fmul_assoc (a b c : UInt8) : fmul (fmul a b) c = fmul a (fmul b c) := by
  refine add_ext' (f := fun a => fmul (fmul a b) c) (g := fun a => fmul a (fmul b c)) ((fmul_add_left c).comp (fmul_add_left b)) (fmul_add_left _) (fun p hp => ?_) a
  refine add_ext' (f := fun b => fmul (fmul p b) c) (g := fun b => fmul p (fmul b c)) ((fmul_add_left c).comp (fmul_add_right p)) ((fmul_add_right p).comp (fmul_add_left c)) (fun q hq => ?_) b
  refine add_ext' (f := fun c => fmul (fmul p q) c) (g := fun c => fmul p (fmul q c)) (fmul_add_right _) ((fmul_add_right p).comp (fmul_add_right q)) (fun r hr => ?_) c
  have : ∀ p ∈ pow2s, ∀ q ∈ pow2s, ∀ r ∈ pow2s, fmul (fmul p q) r = fmul p (fmul q r) := by decide +kernel
  exact this p hp q hq r hr
theorem one_fmul (a : UInt8) : fmul 1 a = a := by
  refine add_ext' (f := fun a => fmul 1 a) (g := fun a => a) (fmul_add_right 1) (fun x y => rfl) (fun p hp => ?_) a
  have : ∀ p ∈ pow2s, fmul 1 p = p := by decide +kernel
  exact this p hp
theorem fmul_one (a : UInt8) : fmul a 1 = a := by rw [fmul_comm, one_fmul]
theorem zero_fmul (a : UInt8) : fmul 0 a = 0 := (fmul_add_left a).zero
theorem fmul_zero (a : UInt8) : fmul a 0 = 0 := (fmul_add_right a).zero

/-- A power. -/
def fpow (a : UInt8) : Nat → UInt8
  | 0 => 1
  | n + 1 => fmul (fpow a n) a
theorem fpow_add (a : UInt8) (m n : Nat) : fpow a (m + n) = fmul (fpow a m) (fpow a n) := by
  induction n with
  | zero => rw [Nat.add_zero, fpow, fmul_one]
  | succ n ih => rw [← Nat.add_assoc, fpow, ih, fpow, fmul_assoc]
theorem fpow_mul (a : UInt8) (m n : Nat) : fpow a (m * n) = fpow (fpow a m) n := by
  induction n with
  | zero => rfl
  | succ n ih => rw [Nat.mul_succ, fpow_add, ih, fpow]
theorem fpow_one (a : UInt8) : fpow a 1 = a := by rw [fpow, fpow, one_fmul]
theorem fpow_two (a : UInt8) : fpow a 2 = fmul a a := by rw [fpow, fpow_one]
theorem one_fpow (n : Nat) : fpow 1 n = 1 := by
  induction n with
  | zero => rfl
  | succ n ih => rw [fpow, ih, one_fmul]
theorem zero_fpow (n : Nat) (h : n ≠ 0) : fpow 0 n = 0 := by
  cases n with
  | zero => exact absurd rfl h
  | succ n => rw [fpow, fmul_zero]
theorem fpow_255 (a : UInt8) (h : a ≠ 0) : fpow a 255 = 1 := by
  have key : ∀ n, n < 256 → UInt8.ofNat n = 0 ∨ (let a := UInt8.ofNat n; let a2 := fmul a a; let a3 := fmul a2 a; let a12 := fmul (fmul a3 a3) (fmul a3 a3); let a15 := fmul a12 a3; let a30 := fmul a15 a15; let a60 := fmul a30 a30; let a120 := fmul a60 a60; let a240 := fmul a120 a120; fmul a240 a15 = 1) := by decide +kernel
  have := key a.toNat a.toNat_lt
  rw [UInt8.ofNat_toNat] at this
  rcases this with e | e
  · exact absurd e h
  · simp only at e
    have h2 : fpow a 2 = fmul a a := fpow_two a
    have h3 : fpow a 3 = fmul (fmul a a) a := by rw [fpow, h2]
    have h6 : fpow a 6 = fmul (fpow a 3) (fpow a 3) := fpow_add a 3 3
    have h12 : fpow a 12 = fmul (fpow a 6) (fpow a 6) := fpow_add a 6 6
    have h15 : fpow a 15 = fmul (fpow a 12) (fpow a 3) := fpow_add a 12 3
    have h30 : fpow a 30 = fmul (fpow a 15) (fpow a 15) := fpow_add a 15 15
    have h60 : fpow a 60 = fmul (fpow a 30) (fpow a 30) := fpow_add a 30 30
    have h120 : fpow a 120 = fmul (fpow a 60) (fpow a 60) := fpow_add a 60 60
    have h240 : fpow a 240 = fmul (fpow a 120) (fpow a 120) := fpow_add a 120 120
    have h255 : fpow a 255 = fmul (fpow a 240) (fpow a 15) := fpow_add a 240 15
    rw [h255, h240, h120, h60, h30, h15, h12, h6, h3]
    exact e
theorem fpow_mod (a : UInt8) (h : a ≠ 0) (n : Nat) : fpow a (n % 255) = fpow a n := by
  conv => rhs; rw [← Nat.div_add_mod n 255]
  rw [fpow_add, fpow_mul, fpow_255 a h, one_fpow, one_fmul]
/-- What undoes a product. -/
def finv (a : UInt8) : UInt8 := fpow a 254
theorem fmul_finv (a : UInt8) (h : a ≠ 0) : fmul a (finv a) = 1 := by
  rw [fmul_comm]
  exact fpow_255 a h
theorem finv_fmul (a : UInt8) (h : a ≠ 0) : fmul (finv a) a = 1 := fpow_255 a h
theorem finv_unique (a b : UInt8) (h : fmul a b = 1) : b = finv a := by
  have ha : a ≠ 0 := fun e => by rw [e, zero_fmul] at h; exact absurd h (by decide)
  rw [← one_fmul b, ← finv_fmul a ha, fmul_assoc, h, fmul_one]
theorem finv_ne (a : UInt8) (h : a ≠ 0) : finv a ≠ 0 := fun e => by
  have := fmul_finv a h
  rw [e, fmul_zero] at this
  exact absurd this (by decide)
theorem fmul_eq_zero (a b : UInt8) : fmul a b = 0 ↔ a = 0 ∨ b = 0 := by
  constructor
  · intro h
    by_cases ha : a = 0
    · exact .inl ha
    · right
      rw [← one_fmul b, ← finv_fmul a ha, fmul_assoc, h, fmul_zero]
  · rintro (rfl | rfl)
    · exact zero_fmul b
    · exact fmul_zero a
end Go.Proofs.Ytfnneneaalaagaa
