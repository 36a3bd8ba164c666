/- Numbers written in sevens: what is put, what is taken. Plain lists. -/
namespace Go.Proofs.Ytfnneneaalaagaa

/-- The bytes of a short number. -/
def putL (n : Nat) : List UInt8 := if n < 128 then [UInt8.ofNat n] else UInt8.ofNat (n % 128 + 128) :: putL (n / 128)
termination_by n
def W64 (n : Nat) : Prop := n < 18446744073709551616
theorem putL_len (k : Nat) : ∀ n, n < 128 ^ (k + 1) → (putL n).length ≤ k + 1 := by
  induction k with
  | zero => intro n h; rw [putL, if_pos (by omega)]; simp
  | succ k ih =>
    intro n h
    rw [putL]
    split
    · simp
    · have := ih (n / 128) (by rw [Nat.div_lt_iff_lt_mul (by omega), ← Nat.pow_succ]; exact h)
      simp; omega
theorem putL_len64 (n : Nat) (h : W64 n) : (putL n).length ≤ 10 := putL_len 9 n (by unfold W64 at h; omega)
theorem putL_pos (n : Nat) : 0 < (putL n).length := by
  rw [putL]
  split <;> simp

/-- May the i-th byte, c, be the last one? -/
def shortB (i : Nat) (c : UInt8) : Bool := i == 0 || (c != 0 && (decide (i < 9) || c == 1))

/-- error, number, bytes taken -/
def tkGo : Nat → Nat → Nat → List UInt8 → Nat × Nat × Nat
  | 0, _, _, _ => (3, 0, 0)
  | _ + 1, _, _, [] => (2, 0, 0)
  | f + 1, i, acc, c :: r =>
    if c.toNat < 128 then (if shortB i c then (0, acc + c.toNat * 128 ^ i, i + 1) else (3, 0, 0))
    else tkGo f (i + 1) (acc + (c.toNat % 128) * 128 ^ i) r
def tk (b : List UInt8) : Nat × Nat × Nat := tkGo 10 0 0 b
def tkE (b : List UInt8) : Nat := (tk b).1
def tkN (b : List UInt8) : Nat := (tk b).2.1
def tkR (b : List UInt8) : List UInt8 := if tkE b = 0 then b.drop (tk b).2.2 else []

theorem tkGo_ok (f : Nat) : ∀ i acc b n k, tkGo f i acc b = (0, n, k) → f + i = 10 → acc < 128 ^ i →
    ∃ p r m, b = p ++ r ∧ k = i + p.length ∧ n = acc + m * 128 ^ i ∧ p = putL m ∧ W64 n ∧ (i ≠ 0 → m ≠ 0) := by
  induction f with
  | zero => intro i acc b n k h; simp [tkGo] at h
  | succ f ih =>
    intro i acc b n k h hf ha
    cases b with
    | nil => simp [tkGo] at h
    | cons c r =>
      rw [tkGo] at h
      split at h
      · rename_i hc
        split at h
        · rename_i hs
          simp only [Prod.mk.injEq, true_and] at h
          refine ⟨[c], r, c.toNat, rfl, by simp; omega, by omega, ?_, ?_, ?_⟩
          · rw [putL, if_pos hc]; simp
          · rw [← h.1]
            unfold shortB at hs
            unfold W64
            rcases Nat.lt_or_ge i 9 with h9 | h9
            · have h1 : 128 ^ i ≤ 128 ^ 8 := Nat.pow_le_pow_right (by omega) (by omega)
              have h2 : c.toNat * 128 ^ i ≤ 127 * 128 ^ i := Nat.mul_le_mul_right _ (by omega)
              omega
            · obtain rfl : i = 9 := by omega
              simp at hs
              obtain ⟨_, rfl⟩ := hs
              have : (1 : UInt8).toNat = 1 := rfl
              rw [this]
              omega
          · intro h0
            unfold shortB at hs
            simp [h0] at hs
            intro hz
            exact hs.1 (UInt8.toNat_inj.1 (by simpa using hz))
        · simp at h
      · rename_i hc
        have ha' : acc + c.toNat % 128 * 128 ^ i < 128 ^ (i + 1) := by
          rw [Nat.pow_succ]
          have h2 : c.toNat % 128 * 128 ^ i ≤ 127 * 128 ^ i := Nat.mul_le_mul_right _ (by omega)
          omega
        obtain ⟨p, r', m, rfl, hk, hn, hp, hw, hm⟩ := ih (i + 1) _ r n k h (by omega) ha'
        have hm0 := hm (by omega)
        have hc2 := c.toNat_lt
        refine ⟨c :: p, r', c.toNat % 128 + 128 * m, rfl, by simp; omega, ?_, ?_, hw, fun _ => by omega⟩
        · rw [hn, Nat.pow_succ, Nat.add_mul, Nat.mul_assoc 128 m, Nat.mul_comm 128 (m * 128 ^ i), ← Nat.mul_assoc]; omega
        · rw [putL, if_neg (by omega), hp]
          have e1 : (c.toNat % 128 + 128 * m) / 128 = m := by omega
          have e2 : (c.toNat % 128 + 128 * m) % 128 + 128 = c.toNat := by omega
          rw [e1, e2]
          simp

theorem tk_ok (b : List UInt8) (h : tkE b = 0) : b = putL (tkN b) ++ tkR b ∧ W64 (tkN b) ∧ (tk b).2.2 = (putL (tkN b)).length := by
  have hh : tkGo 10 0 0 b = (0, tkN b, (tk b).2.2) := by
    have : tk b = (tkE b, tkN b, (tk b).2.2) := rfl
    rw [h] at this
    exact this
  obtain ⟨p, r, m, hb, hk, hn, hp, hw, _⟩ := tkGo_ok 10 0 0 b _ _ hh rfl (by simp)
  simp at hn hk
  have hr : tkR b = r := by
    unfold tkR
    rw [if_pos h, hk, hb, List.drop_left]
  rw [hr, hn, ← hp]
  exact ⟨hb, by rw [← hn]; exact hw, hk⟩

theorem tkGo_put (f : Nat) : ∀ i acc m r, f + i = 10 → (i ≠ 0 → m ≠ 0) → acc < 128 ^ i → W64 (acc + m * 128 ^ i) → tkGo f i acc (putL m ++ r) = (0, acc + m * 128 ^ i, i + (putL m).length) := by
  induction f with
  | zero =>
    intro i acc m r hf hm ha hw
    obtain rfl : i = 10 := by omega
    have := hm (by omega)
    unfold W64 at hw
    have h1 : 1 * 128 ^ 10 ≤ m * 128 ^ 10 := Nat.mul_le_mul_right _ (by omega)
    omega
  | succ f ih =>
    intro i acc m r hf hm ha hw
    rw [putL]
    split
    · rename_i h
      have e : (UInt8.ofNat m).toNat = m := by rw [UInt8.toNat_ofNat', Nat.mod_eq_of_lt (by omega)]
      rw [List.cons_append, tkGo, if_pos (by omega), e, if_pos]
      · simp
      · unfold shortB
        by_cases h0 : i = 0
        · simp [h0]
        · have hm0 := hm h0
          have hne : (UInt8.ofNat m != 0) = true := by
            rw [bne_iff_ne]; intro hz; have := congrArg UInt8.toNat hz; rw [e] at this; exact hm0 (by simpa using this)
          by_cases h9 : i < 9
          · simp [h9, hne]
          · obtain rfl : i = 9 := by omega
            have : m = 1 := by
              unfold W64 at hw
              rcases Nat.lt_or_ge m 2 with h2 | h2
              · omega
              · have : 2 * 128 ^ 9 ≤ m * 128 ^ 9 := Nat.mul_le_mul_right _ h2
                omega
            subst this
            simp
    · rename_i h
      have e : (UInt8.ofNat (m % 128 + 128)).toNat = m % 128 + 128 := by rw [UInt8.toNat_ofNat', Nat.mod_eq_of_lt (by omega)]
      have e2 : (m % 128 + 128) % 128 = m % 128 := by omega
      have e3 : acc + m % 128 * 128 ^ i + m / 128 * 128 ^ (i + 1) = acc + m * 128 ^ i := by
        rw [Nat.pow_succ, Nat.mul_comm (128 ^ i) 128, ← Nat.mul_assoc, Nat.add_assoc, ← Nat.add_mul]
        congr 2
        omega
      rw [List.cons_append, tkGo, if_neg (by omega), e, e2, ih (i + 1) _ (m / 128) r (by omega) (fun _ => by omega) ?_ (by rw [e3]; exact hw), e3]
      · simp; omega
      · rw [Nat.pow_succ]
        have h2 : m % 128 * 128 ^ i ≤ 127 * 128 ^ i := Nat.mul_le_mul_right _ (by omega)
        omega

theorem tk_put (n : Nat) (r : List UInt8) (h : W64 n) : tk (putL n ++ r) = (0, n, (putL n).length) := by
  have := tkGo_put 10 0 0 n r rfl (fun h => absurd rfl h) (by simp) (by simpa using h)
  simpa [tk] using this
theorem tk_put_E (n : Nat) (r : List UInt8) (h : W64 n) : tkE (putL n ++ r) = 0 := by unfold tkE; rw [tk_put n r h]
theorem tk_put_N (n : Nat) (r : List UInt8) (h : W64 n) : tkN (putL n ++ r) = n := by unfold tkN; rw [tk_put n r h]
theorem tk_put_R (n : Nat) (r : List UInt8) (h : W64 n) : tkR (putL n ++ r) = r := by unfold tkR; rw [if_pos (tk_put_E n r h), tk_put n r h, List.drop_left]
theorem tk_bad (b : List UInt8) (h : tkE b ≠ 0) : tkN b = 0 ∧ tkR b = [] := by
  refine ⟨?_, by unfold tkR; rw [if_neg h]⟩
  have key : ∀ f i acc b, (tkGo f i acc b).1 ≠ 0 → (tkGo f i acc b).2.1 = 0 := by
    intro f
    induction f with
    | zero => intro i acc b _; rfl
    | succ f ih =>
      intro i acc b hb
      cases b with
      | nil => rfl
      | cons c r =>
        rw [tkGo] at hb ⊢
        split
        · rename_i hc
          rw [if_pos hc] at hb
          split
          · rename_i hs; rw [if_pos hs] at hb; simp at hb
          · rfl
        · rename_i hc
          rw [if_neg hc] at hb
          exact ih _ _ _ hb
  exact key 10 0 0 b h

/-- The bytes of a whole number. -/
def put32L (n : Nat) : List UInt8 := [UInt8.ofNat n, UInt8.ofNat (n / 256), UInt8.ofNat (n / 65536), UInt8.ofNat (n / 16777216)]
/-- Four bytes as a whole number. -/
def get32 (b : List UInt8) : Nat := (b.getD 0 0).toNat + (b.getD 1 0).toNat * 256 + (b.getD 2 0).toNat * 65536 + (b.getD 3 0).toNat * 16777216
theorem get32_lt (b : List UInt8) : get32 b < 4294967296 := by
  unfold get32
  have h0 := (b.getD 0 0).toNat_lt
  have h1 := (b.getD 1 0).toNat_lt
  have h2 := (b.getD 2 0).toNat_lt
  have h3 := (b.getD 3 0).toNat_lt
  omega
theorem get32_put (n : Nat) (r : List UInt8) (h : n < 4294967296) : get32 (put32L n ++ r) = n := by
  simp [get32, put32L, UInt8.toNat_ofNat']
  omega
theorem put32_get (b : List UInt8) (h : 4 ≤ b.length) : put32L (get32 b) ++ b.drop 4 = b := by
  match b, h with
  | a :: c :: d :: e :: r, _ =>
    have ha := a.toNat_lt
    have hc := c.toNat_lt
    have hd := d.toNat_lt
    have he := e.toNat_lt
    simp only [put32L, get32, List.getD_cons_zero, List.getD_cons_succ, List.drop_succ_cons, List.drop_zero, List.cons_append, List.nil_append, List.cons.injEq, and_true]
    refine ⟨?_, ?_, ?_, ?_⟩ <;> apply UInt8.toNat_inj.1 <;> rw [UInt8.toNat_ofNat'] <;> omega
/-- A string taken: the error, the string, what is left. -/
def tsE (b : List UInt8) (most : Int) : Nat := if tkE b ≠ 0 then tkE b else if most < 0 ∨ most < (tkN b : Int) then 4 else if tkN b ≤ (tkR b).length then 0 else 2
def tsS (b : List UInt8) (most : Int) : List UInt8 := if tsE b most = 0 then (tkR b).take (tkN b) else []
def tsR (b : List UInt8) (most : Int) : List UInt8 := if tsE b most = 0 then (tkR b).drop (tkN b) else []
theorem ts_ok (b : List UInt8) (most : Int) (h : tsE b most = 0) : putL (tsS b most).length ++ tsS b most ++ tsR b most = b := by
  unfold tsS tsR
  rw [if_pos h, if_pos h]
  unfold tsE at h
  by_cases h1 : tkE b = 0
  · rw [if_neg (by simp [h1])] at h
    split at h
    · cases h
    · split at h
      · rename_i h3
        rw [List.length_take, Nat.min_eq_left h3, List.append_assoc, List.take_append_drop]
        exact (tk_ok b h1).1.symm
      · cases h
  · rw [if_pos h1] at h
    exact absurd h h1
theorem ts_put (s r : List UInt8) (most : Int) (h : (s.length : Int) ≤ most) (hw : W64 s.length) : tsE (putL s.length ++ (s ++ r)) most = 0 ∧ tsS (putL s.length ++ (s ++ r)) most = s ∧ tsR (putL s.length ++ (s ++ r)) most = r := by
  have hE : tsE (putL s.length ++ (s ++ r)) most = 0 := by
    unfold tsE
    rw [tk_put_E _ _ hw, tk_put_N _ _ hw, tk_put_R _ _ hw, if_neg (by simp), if_neg (by omega), if_pos (by simp)]
  refine ⟨hE, ?_, ?_⟩
  · unfold tsS; rw [if_pos hE, tk_put_N _ _ hw, tk_put_R _ _ hw, List.take_left]
  · unfold tsR; rw [if_pos hE, tk_put_N _ _ hw, tk_put_R _ _ hw, List.drop_left]
end Go.Proofs.Ytfnneneaalaagaa
