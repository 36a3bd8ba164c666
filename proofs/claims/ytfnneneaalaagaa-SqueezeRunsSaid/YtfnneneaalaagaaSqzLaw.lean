/- Layer 28: there and back; how long; runs. Plain lists. -/
import Derived.Test.YtfnneneaalaagaaSqz6
namespace Go.Proofs.Ytfnneneaalaagaa
set_option linter.unusedSimpArgs false
set_option linter.unusedVariables false

/-- Signs, one behind the other, that lead from out to out'. -/
inductive Dec : List UInt8 → List UInt8 → List UInt8 → Prop
  | nil (out : List UInt8) : Dec [] out out
  | plain (l s out out' : List UInt8) : 1 ≤ l.length → l.length ≤ 128 → Dec s (out ++ l) out' → Dec (UInt8.ofNat (l.length - 1) :: (l ++ s)) out out'
  | like (m d : Nat) (s out out' : List UInt8) : 4 ≤ m → m ≤ 131 → 1 ≤ d → d ≤ 255 → d ≤ out.length → Dec s (backL d m out) out' → Dec (UInt8.ofNat (m + 124) :: UInt8.ofNat d :: s) out out'
theorem Dec.len {s out out' : List UInt8} (h : Dec s out out') : out.length ≤ out'.length ∧ (s ≠ [] → out.length < out'.length) := by
  induction h with
  | nil => exact ⟨Nat.le_refl _, fun h => absurd rfl h⟩
  | plain l s out out' h1 h2 _ ih => rw [List.length_append] at ih; exact ⟨by omega, fun _ => by omega⟩
  | like m d s out out' h1 h2 h3 h4 h5 _ ih => rw [backL_len] at ih; exact ⟨by omega, fun _ => by omega⟩
theorem Dec.append {s1 s2 out mid out' : List UInt8} (h : Dec s1 out mid) (k : Dec s2 mid out') : Dec (s1 ++ s2) out out' := by
  induction h with
  | nil => exact k
  | plain l s out mid h1 h2 _ ih => rw [List.cons_append, List.append_assoc]; exact .plain l _ _ _ h1 h2 (ih k)
  | like m d s out mid h1 h2 h3 h4 h5 _ ih => rw [List.cons_append, List.cons_append]; exact .like m d _ _ _ h1 h2 h3 h4 h5 (ih k)
theorem nat8 (n : Nat) (h : n ≤ 255) : (UInt8.ofNat n).toNat = n := by rw [UInt8.toNat_ofNat', Nat.mod_eq_of_lt (by omega)]
theorem sg_plain (l s out : List UInt8) (h1 : 1 ≤ l.length) (h2 : l.length ≤ 128) : sgE out (UInt8.ofNat (l.length - 1) :: (l ++ s)) = 0 ∧ sgO out (UInt8.ofNat (l.length - 1) :: (l ++ s)) = out ++ l ∧ sgR (UInt8.ofNat (l.length - 1) :: (l ++ s)) = s := by
  have e := nat8 (l.length - 1) (by omega)
  refine ⟨?_, ?_, ?_⟩
  · rw [sgE, List.getD_cons_zero, e, if_pos (by omega), if_neg (by simp; omega)]
  · rw [sgO, List.getD_cons_zero, e, if_pos (by omega), List.drop_succ_cons, List.drop_zero, List.take_left' (by omega)]
  · rw [sgR, List.getD_cons_zero, e, if_pos (by omega), show l.length - 1 + 2 = l.length + 1 by omega, List.drop_succ_cons, List.drop_left]
theorem sg_like (m d : Nat) (s out : List UInt8) (h1 : 4 ≤ m) (h2 : m ≤ 131) (h3 : 1 ≤ d) (h4 : d ≤ 255) (h5 : d ≤ out.length) : sgE out (UInt8.ofNat (m + 124) :: UInt8.ofNat d :: s) = 0 ∧ sgO out (UInt8.ofNat (m + 124) :: UInt8.ofNat d :: s) = backL d m out ∧ sgR (UInt8.ofNat (m + 124) :: UInt8.ofNat d :: s) = s := by
  have e := nat8 (m + 124) (by omega)
  have e2 := nat8 d (by omega)
  refine ⟨?_, ?_, ?_⟩
  · rw [sgE, List.getD_cons_zero, List.getD_cons_succ, List.getD_cons_zero, e, e2, if_neg (by omega), if_neg (by simp), if_neg (by omega)]
  · rw [sgO, List.getD_cons_zero, List.getD_cons_succ, List.getD_cons_zero, e, e2, if_neg (by omega), Nat.add_sub_cancel]
  · rw [sgR, List.getD_cons_zero, e, if_neg (by omega)]; rfl
theorem Dec.ex {s out out' : List UInt8} (h : Dec s out out') : exG out'.length s out = (0, out') := by
  induction h with
  | nil => rw [exG_end, if_neg (by omega)]
  | plain l s out out' h1 h2 hd ih =>
    obtain ⟨e1, e2, e3⟩ := sg_plain l s out h1 h2
    have := hd.len.1
    rw [exG_next _ _ _ (by simp) e1 (by rw [e2]; omega), e2, e3, ih]
  | like m d s out out' h1 h2 h3 h4 h5 hd ih =>
    obtain ⟨e1, e2, e3⟩ := sg_like m d s out h1 h2 h3 h4 h5
    have := hd.len.1
    rw [exG_next _ _ _ (by simp) e1 (by rw [e2]; omega), e2, e3, ih]
theorem Dec.cut {s out out' : List UInt8} (h : Dec s out out') : ∀ k, k < s.length → exG out'.length (s.take k) out = (2, []) := by
  induction h with
  | nil => intro k hk; simp at hk
  | plain l s out out' h1 h2 hd ih =>
    intro k hk
    have hl := (Dec.plain l s out out' h1 h2 hd).len.2 (by simp)
    have e := nat8 (l.length - 1) (by omega)
    cases k with
    | zero => rw [List.take_zero, exG_end, if_pos hl]
    | succ k =>
      rw [List.take_succ_cons]
      by_cases hc : k < l.length
      · rw [exG_bad _ _ _ (by simp) (by rw [sgE, List.getD_cons_zero, e, if_pos (by omega), if_pos (by simp; omega)]; omega), sgE, List.getD_cons_zero, e, if_pos (by omega), if_pos (by simp; omega)]
      · have et : (l ++ s).take k = l ++ s.take (k - l.length) := by rw [List.take_append, List.take_of_length_le (by omega)]
        rw [et]
        obtain ⟨e1, e2, e3⟩ := sg_plain l (s.take (k - l.length)) out h1 h2
        have := hd.len.1
        rw [exG_next _ _ _ (by simp) e1 (by rw [e2]; omega), e2, e3]
        exact ih _ (by simp at hk; omega)
  | like m d s out out' h1 h2 h3 h4 h5 hd ih =>
    intro k hk
    have hl := (Dec.like m d s out out' h1 h2 h3 h4 h5 hd).len.2 (by simp)
    have e := nat8 (m + 124) (by omega)
    match k with
    | 0 => rw [List.take_zero, exG_end, if_pos hl]
    | 1 =>
      rw [List.take_succ_cons, List.take_zero]
      rw [exG_bad _ _ _ (by simp) (by rw [sgE, List.getD_cons_zero, e, if_neg (by omega), if_pos (by simp)]; omega), sgE, List.getD_cons_zero, e, if_neg (by omega), if_pos (by simp)]
    | k + 2 =>
      rw [List.take_succ_cons, List.take_succ_cons]
      obtain ⟨e1, e2, e3⟩ := sg_like m d (s.take k) out h1 h2 h3 h4 h5
      have := hd.len.1
      rw [exG_next _ _ _ (by simp) e1 (by rw [e2]; omega), e2, e3]
      exact ih k (by simpa using hk)
theorem Dec.plainL : ∀ (n : Nat) (l out : List UInt8), l.length = n → Dec (plainL l) out (out ++ l) := by
  intro n
  induction n using Nat.strongRecOn with
  | _ n ih =>
    intro l out hn
    rcases Nat.eq_zero_or_pos n with h0 | h0
    · have := List.eq_nil_of_length_eq_zero (hn.trans h0); subst this
      rw [plainL_nil, List.append_nil]; exact .nil out
    · obtain ⟨m, hm⟩ : ∃ m, m = min l.length 128 := ⟨_, rfl⟩
      have hl : (l.take m).length = m := by rw [List.length_take]; omega
      rw [plainL_step l m (by omega) hm, List.singleton_append]
      have h := Dec.plain (l.take m) (Go.Proofs.Ytfnneneaalaagaa.plainL (l.drop m)) out (out ++ l) (by omega) (by omega) (by
        have := ih (l.drop m).length (by rw [List.length_drop]; omega) (l.drop m) (out ++ l.take m) rfl
        rw [List.append_assoc, List.take_append_drop] at this
        exact this)
      rw [hl] at h
      exact h
theorem likeG_same (b : List UInt8) (i d : Nat) : ∀ f n, (∀ k, k < n → b.getD (i + k) 0 = b.getD (i + k - d) 0) → ∀ k, k < likeG b i d f n → b.getD (i + k) 0 = b.getD (i + k - d) 0
  | 0, n, h => h
  | f + 1, n, h => by
    rw [likeG]
    split
    · rename_i hc
      exact likeG_same b i d f (n + 1) fun k hk => by
        rcases Nat.lt_or_ge k n with h1 | h1
        · exact h k h1
        · obtain rfl : k = n := by omega
          exact hc.2
    · exact h
theorem take_getD (b : List UInt8) (k : Nat) (h : k < b.length) : b.take (k + 1) = b.take k ++ [b.getD k 0] := by
  rw [List.take_succ_eq_append_getElem h, List.getD_eq_getElem?_getD, List.getElem?_eq_getElem h]; rfl
theorem backL_take (b : List UInt8) (d : Nat) (hd : 1 ≤ d) : ∀ m i, d ≤ i → i + m ≤ b.length → (∀ k, k < m → b.getD (i + k) 0 = b.getD (i + k - d) 0) → backL d m (b.take i) = b.take (i + m)
  | 0, i, _, _, _ => rfl
  | m + 1, i, h1, h2, h3 => by
    have hl : (b.take i).length = i := by rw [List.length_take]; omega
    have e : (b.take i).getD ((b.take i).length - d) 0 = b.getD i 0 := by
      have := h3 0 (by omega)
      rw [Nat.add_zero] at this
      rw [this, hl, List.getD_eq_getElem?_getD, List.getD_eq_getElem?_getD, List.getElem?_take, if_pos (by omega)]
    rw [backL, e, ← take_getD b i (by omega), backL_take b d hd m (i + 1) (by omega) (by omega) (fun k hk => by
      have := h3 (k + 1) (by omega)
      rw [show i + (k + 1) = i + 1 + k by omega] at this
      exact this)]
    congr 1; omega
theorem mt_is (b : List UInt8) (i : Nat) : ∀ d, (mt b i d).1 = 0 ∨ (mt b i d).1 = like b i (mt b i d).2
  | 0 => .inl rfl
  | d + 1 => by
    rw [mt]
    split
    · exact .inr rfl
    · exact mt_is b i d
theorem matchR_same (b : List UInt8) (i : Nat) : ∀ k, k < (matchR b i).1 → b.getD (i + k) 0 = b.getD (i + k - (matchR b i).2) 0 := by
  intro k hk
  unfold matchR at hk ⊢
  split at hk
  · simp at hk
  · rename_i h4
    rw [if_neg h4]
    rcases mt_is b i (min i 255) with h | h
    · omega
    · rw [h] at hk
      exact likeG_same b i _ 131 0 (fun k hk => by omega) k hk
theorem Dec.sq : ∀ (n : Nat) (b : List UInt8) (fr i : Nat), b.length - i = n → fr ≤ i → i ≤ b.length → Dec (sqG b fr i) (b.take fr) b := by
  intro n
  induction n using Nat.strongRecOn with
  | _ n ih =>
    intro b fr i hn hf hi
    by_cases hp : i < b.length
    · have hmr := matchR_le b i (by omega)
      by_cases h0 : (matchR b i).1 = 0
      · rw [sqG_next b fr i hp h0]
        exact ih _ (by omega) b fr (i + 1) rfl (by omega) (by omega)
      · rw [sqG_like b fr i hp h0, List.append_assoc]
        have e1 : b.take fr ++ (b.take i).drop fr = b.take i := by
          have : b.take fr = (b.take i).take fr := by rw [List.take_take, Nat.min_eq_left hf]
          rw [this, List.take_append_drop]
        have h1 := Dec.plainL _ ((b.take i).drop fr) (b.take fr) rfl
        rw [e1] at h1
        refine h1.append ?_
        have h2 := ih _ (by omega) b (i + (matchR b i).1) (i + (matchR b i).1) rfl (by omega) (by omega)
        refine Dec.like _ _ _ _ _ (by omega) (by omega) (by omega) (by omega) (by rw [List.length_take]; omega) ?_
        rw [backL_take b _ (by omega) _ i (by omega) (by omega) (matchR_same b i)]
        exact h2
    · rw [sqG_end b fr i hp]
      have h := Dec.plainL _ (b.drop fr) (b.take fr) rfl
      rw [List.take_append_drop] at h
      exact h
theorem ex_sq (b : List UInt8) (h : b.length ≤ 5000) : exP (sqL b) = (0, b) := by
  have hw : W64 b.length := by unfold W64; omega
  have e : sqL b = putL b.length ++ sqG b 0 0 := by rw [sqL, if_neg (by omega)]
  rw [e, exP, tk_put_E _ _ hw, if_neg (by simp), tk_put_N _ _ hw, if_neg (by omega), tk_put_R _ _ hw]
  exact (Dec.sq _ b 0 0 rfl (by omega) (by omega)).ex
theorem tk_cut : ∀ f m k i acc, (putL m).length ≤ f → k < (putL m).length → (tkGo f i acc ((putL m).take k)).1 = 2
  | 0, m, k, i, acc, h, hk => by omega
  | f + 1, m, k, i, acc, h, hk => by
    cases k with
    | zero => rw [List.take_zero]; rfl
    | succ k =>
      rw [putL] at h hk ⊢
      split at h
      · rename_i h1; rw [if_pos h1] at hk; simp at hk
      · rename_i h1
        rw [if_neg h1] at hk ⊢
        have e := nat8 (m % 128 + 128) (by omega)
        rw [List.take_succ_cons, tkGo, e, if_neg (by omega)]
        exact tk_cut f _ _ _ _ (by simpa using h) (by simpa using hk)
theorem ex_cut (b : List UInt8) (h : b.length ≤ 5000) (k : Nat) (hk : k < (sqL b).length) : exP ((sqL b).take k) = (2, []) := by
  have hw : W64 b.length := by unfold W64; omega
  rw [sqL, if_neg (by omega)] at hk ⊢
  rcases Nat.lt_or_ge k (putL b.length).length with h1 | h1
  · have h2 := tk_cut 10 b.length k 0 0 (putL_len64 _ hw) h1
    have h3 : tkE ((putL b.length ++ sqG b 0 0).take k) = 2 := by
      rw [List.take_append_of_le_length (by omega)]; exact h2
    rw [exP, h3, if_pos (by decide)]
  · rw [List.take_append, List.take_of_length_le h1, exP, tk_put_E _ _ hw, if_neg (by simp), tk_put_N _ _ hw, if_neg (by omega), tk_put_R _ _ hw]
    exact (Dec.sq _ b 0 0 rfl (by omega) (by omega)).cut _ (by rw [List.length_append] at hk; omega)
theorem plainL_length : ∀ (n : Nat) (l : List UInt8), l.length = n → (plainL l).length = n + (n + 127) / 128 := by
  intro n
  induction n using Nat.strongRecOn with
  | _ n ih =>
    intro l hn
    rcases Nat.eq_zero_or_pos n with h0 | h0
    · have := List.eq_nil_of_length_eq_zero (hn.trans h0); subst this; subst h0; rw [plainL_nil]; rfl
    · rw [plainL_step l (min l.length 128) (by omega) rfl, List.length_append, List.length_append, List.length_singleton, List.length_take, ih (l.drop (min l.length 128)).length (by rw [List.length_drop]; omega) _ rfl, List.length_drop]
      omega
theorem sq_len : ∀ (n : Nat) (b : List UInt8) (fr i : Nat), b.length - i = n → fr ≤ i → i ≤ b.length → (sqG b fr i).length ≤ (b.length - fr) + (b.length - fr + 127) / 128 := by
  intro n
  induction n using Nat.strongRecOn with
  | _ n ih =>
    intro b fr i hn hf hi
    by_cases hp : i < b.length
    · have hmr := matchR_le b i (by omega)
      by_cases h0 : (matchR b i).1 = 0
      · rw [sqG_next b fr i hp h0]
        exact ih _ (by omega) b fr (i + 1) rfl (by omega) (by omega)
      · have h1 := plainL_length _ ((b.take i).drop fr) rfl
        have h2 := ih _ (by omega) b (i + (matchR b i).1) (i + (matchR b i).1) rfl (by omega) (by omega)
        rw [List.length_drop, List.length_take] at h1
        rw [sqG_like b fr i hp h0, List.length_append, List.length_append, h1]
        simp only [List.length_cons, List.length_nil]
        omega
    · rw [sqG_end b fr i hp, plainL_length _ (b.drop fr) rfl, List.length_drop]
      omega
theorem sqL_len (b : List UInt8) (h : b.length ≤ 700) : (sqL b).length ≤ b.length + 2 + (b.length + 127) / 128 ∧ 0 < (sqL b).length := by
  have h1 := sq_len _ b 0 0 rfl (by omega) (by omega)
  have h2 := putL_len 1 b.length (by omega)
  have h3 := putL_pos b.length
  rw [sqL, if_neg (by omega), List.length_append]
  exact ⟨by omega, by omega⟩

/-! Runs. -/
theorem likeG_per (b : List UInt8) (r i : Nat) (per : ∀ j, r ≤ j → j < b.length → b.getD j 0 = b.getD (j - r) 0) (h : r ≤ i) : ∀ f n, i + n ≤ b.length → likeG b i r f n = min (n + f) (b.length - i)
  | 0, n, hn => by rw [likeG]; omega
  | f + 1, n, hn => by
    rw [likeG]
    by_cases hc : i + n < b.length
    · rw [if_pos ⟨hc, per _ (by omega) hc⟩, likeG_per b r i per h f (n + 1) (by omega)]; omega
    · rw [if_neg (fun h => hc h.1)]; omega
theorem mt_mono (b : List UInt8) (i : Nat) : ∀ d e, 1 ≤ e → e ≤ d → like b i e ≤ (mt b i d).1
  | 0, e, h1, h2 => by omega
  | d + 1, e, h1, h2 => by
    rw [mt]
    rcases Nat.lt_or_ge e (d + 1) with h | h
    · have := mt_mono b i d e h1 (by omega)
      split <;> (try simp only) <;> omega
    · obtain rfl : e = d + 1 := by omega
      split
      · exact Nat.le_refl _
      · omega
theorem match_per (b : List UInt8) (r i : Nat) (per : ∀ j, r ≤ j → j < b.length → b.getD j 0 = b.getD (j - r) 0) (h1 : 1 ≤ r) (h2 : r ≤ 255) (h : r ≤ i) (hi : i < b.length) : (matchR b i).1 = if b.length - i < 4 then 0 else min 131 (b.length - i) := by
  have hb := mt_mono b i (min i 255) r h1 (by omega)
  have hk : like b i r = min 131 (b.length - i) := by rw [like, likeG_per b r i per h 131 0 (by omega), Nat.zero_add]
  have hl := mt_le b i (by omega) (min i 255)
  unfold matchR
  split
  · rw [if_pos (by omega)]
  · rw [if_neg (by omega)]; omega
theorem match_short (b : List UInt8) (i : Nat) (hi : i ≤ b.length) (h : b.length - i < 4) : (matchR b i).1 = 0 := by
  have := matchR_le b i hi
  omega
theorem sqG_tail : ∀ (n : Nat) (b : List UInt8) (fr i : Nat), b.length - i = n → i ≤ b.length → n < 4 → sqG b fr i = plainL (b.drop fr)
  | 0, b, fr, i, h, hi, _ => sqG_end b fr i (by omega)
  | n + 1, b, fr, i, h, hi, h4 => by rw [sqG_next b fr i (by omega) (match_short b i hi (by omega)), sqG_tail n b fr (i + 1) (by omega) (by omega) (by omega)]
section
variable (b : List UInt8) (r : Nat) (per : ∀ j, r ≤ j → j < b.length → b.getD j 0 = b.getD (j - r) 0) (h1 : 1 ≤ r) (h2 : r ≤ 60)
include per h1 h2
theorem run_rest : ∀ (n i : Nat), b.length - i = n → r ≤ i → i ≤ b.length → (sqG b i i).length ≤ 2 * ((b.length - i) / 131) + 4 := by
  intro n
  induction n using Nat.strongRecOn with
  | _ n ih =>
    intro i hn hr hi
    rcases Nat.lt_or_ge (b.length - i) 4 with h4 | h4
    · rw [sqG_tail _ b i i rfl hi h4, plainL_length _ (b.drop i) rfl, List.length_drop]; omega
    · have hm := match_per b r i per h1 (by omega) hr (by omega)
      rw [if_neg (by omega)] at hm
      have hp : (plainL ((b.take i).drop i)).length = 0 := by rw [plainL_length _ _ rfl, List.length_drop, List.length_take]; omega
      rw [sqG_like b i i (by omega) (by omega), List.length_append, List.length_append, hp]
      simp only [List.length_cons, List.length_nil]
      rcases Nat.lt_or_ge 131 (b.length - i) with h5 | h5
      · have := ih _ (by omega) (i + (matchR b i).1) rfl (by omega) (by omega)
        omega
      · have he : i + (matchR b i).1 = b.length := by omega
        rw [he, sqG_end b _ _ (by omega), plainL_length _ _ rfl, List.length_drop]
        omega
theorem run_first (hl : r ≤ b.length) : ∀ (n fr i : Nat), r - i = n → fr ≤ i → i ≤ r → (sqG b fr i).length ≤ (r - fr) + 6 + 2 * (b.length / 131) := by
  intro n
  induction n using Nat.strongRecOn with
  | _ n ih =>
    intro fr i hn hf hi
    have hpl : (plainL ((b.take i).drop fr)).length ≤ (i - fr) + 1 := by rw [plainL_length _ _ rfl, List.length_drop, List.length_take]; omega
    rcases Nat.lt_or_ge i r with hir | hir
    · have hmr := matchR_le b i (by omega)
      by_cases h0 : (matchR b i).1 = 0
      · rw [sqG_next b fr i (by omega) h0]
        exact ih _ (by omega) fr (i + 1) rfl (by omega) (by omega)
      · rw [sqG_like b fr i (by omega) h0, List.length_append, List.length_append]
        simp only [List.length_cons, List.length_nil]
        rcases Nat.lt_or_ge r (i + (matchR b i).1) with h5 | h5
        · have := run_rest b r per h1 h2 _ (i + (matchR b i).1) rfl (by omega) (by omega)
          have hd : (b.length - (i + (matchR b i).1)) / 131 ≤ b.length / 131 := Nat.div_le_div_right (by omega)
          omega
        · have := ih (r - (i + (matchR b i).1)) (by omega) (i + (matchR b i).1) (i + (matchR b i).1) rfl (by omega) h5
          omega
    · obtain rfl : i = r := by omega
      rcases Nat.lt_or_ge (b.length - i) 4 with h4 | h4
      · rw [sqG_tail _ b fr i rfl hl h4, plainL_length _ (b.drop fr) rfl, List.length_drop]; omega
      · have hm := match_per b i i per h1 (by omega) (by omega) (by omega)
        rw [if_neg (by omega)] at hm
        rw [sqG_like b fr i (by omega) (by omega), List.length_append, List.length_append]
        simp only [List.length_cons, List.length_nil]
        rcases Nat.lt_or_ge 131 (b.length - i) with h5 | h5
        · have := run_rest b i per h1 h2 _ (i + (matchR b i).1) rfl (by omega) (by omega)
          omega
        · have he : i + (matchR b i).1 = b.length := by omega
          have hz : (sqG b (i + (matchR b i).1) (i + (matchR b i).1)).length = 0 := by
            rw [he, sqG_end b _ _ (by omega), plainL_length _ _ rfl, List.length_drop]; omega
          omega
end
/-- So many rows, one behind the other. -/
def rows (row : List UInt8) : Nat → List UInt8
  | 0 => []
  | k + 1 => rows row k ++ row
theorem rows_len (row : List UInt8) : ∀ k, (rows row k).length = k * row.length
  | 0 => by simp [rows]
  | k + 1 => by rw [rows, List.length_append, rows_len row k, Nat.succ_mul]
theorem rows_at (row : List UInt8) : ∀ k j, j < k * row.length → (rows row k).getD j 0 = row.getD (j % row.length) 0
  | 0, j, h => by simp at h
  | k + 1, j, h => by
    rw [Nat.succ_mul] at h
    rw [rows, List.getD_eq_getElem?_getD]
    rcases Nat.lt_or_ge j (k * row.length) with h1 | h1
    · rw [List.getElem?_append_left (by rw [rows_len]; exact h1), ← List.getD_eq_getElem?_getD, rows_at row k j h1]
    · obtain ⟨t, rfl⟩ : ∃ t, j = k * row.length + t := ⟨j - k * row.length, by omega⟩
      rw [List.getElem?_append_right (by rw [rows_len]; omega), rows_len, Nat.add_sub_cancel_left, Nat.mul_comm, Nat.mul_add_mod, Nat.mod_eq_of_lt (by omega), List.getD_eq_getElem?_getD]
theorem runs_len (row : List UInt8) (k : Nat) (h1 : 1 ≤ row.length) (h2 : row.length ≤ 60) (hk : 1 ≤ k) (hk2 : k ≤ 32) : (sqL (rows row k)).length ≤ row.length + 8 + 2 * ((rows row k).length / 131) := by
  have hl := rows_len row k
  have hle : (rows row k).length ≤ 1920 := by rw [hl]; exact Nat.le_trans (Nat.mul_le_mul hk2 h2) (by decide)
  have hge : row.length ≤ (rows row k).length := by rw [hl]; exact Nat.le_mul_of_pos_left _ hk
  have per : ∀ j, row.length ≤ j → j < (rows row k).length → (rows row k).getD j 0 = (rows row k).getD (j - row.length) 0 := fun j h3 h4 => by
    rw [rows_at row k j (by omega), rows_at row k _ (by omega), ← Nat.mod_eq_sub_mod h3]
  have h3 := run_first (rows row k) row.length per h1 h2 hge _ 0 0 rfl (by omega) (by omega)
  have h4 := putL_len 1 (rows row k).length (by omega)
  rw [sqL, if_neg (by omega), List.length_append]
  omega
end Go.Proofs.Ytfnneneaalaagaa
