/- Ground of the statement MatrixAny, part 4: Gauss, Gauss2, Mx27, RowsSV, Mx28, Mx29, Mx25, Mx26, Mx30. -/
import Derived.Test.YtfnneneaalaagaaBMatrixAny3
namespace Go.Proofs.Ytfnneneaalaagaa
set_option maxRecDepth 100000

theorem sumX_zero (n : Nat) : sumX n (fun _ => 0) = 0 := by
  induction n with
  | zero => rfl
  | succ n ih => rw [sumX, ih]; rfl
theorem sumX_add (n : Nat) (f g : Nat → UInt8) : sumX n (fun k => f k ^^^ g k) = sumX n f ^^^ sumX n g := by
  induction n with
  | zero => simp [sumX]
  | succ n ih => rw [sumX, sumX, sumX, ih, xor4]
theorem sumX_mul (n : Nat) (c : UInt8) (f : Nat → UInt8) : sumX n (fun k => fmul (f k) c) = fmul (sumX n f) c := by
  induction n with
  | zero => rw [sumX, sumX, zero_fmul]
  | succ n ih => rw [sumX, sumX, ih, xor_fmul]
theorem sumX_mul' (n : Nat) (c : UInt8) (f : Nat → UInt8) : sumX n (fun k => fmul c (f k)) = fmul c (sumX n f) := by
  rw [fmul_comm c, ← sumX_mul]
  exact sumX_congr fun k _ => fmul_comm _ _
theorem sumX_one (n a : Nat) (f : Nat → UInt8) (ha : a < n) (h : ∀ k, k < n → k ≠ a → f k = 0) : sumX n f = f a := by
  induction n with
  | zero => omega
  | succ n ih =>
    rw [sumX]
    by_cases e : a = n
    · subst e
      rw [sumX_congr (g := fun _ => 0) (fun k hk => h k (by omega) (by omega)), sumX_zero]; simp
    · rw [ih (by omega) (fun k hk => h k (by omega)), h n (by omega) (by omega)]; simp
theorem sumX_none (n : Nat) (f : Nat → UInt8) (h : ∀ k, k < n → f k = 0) : sumX n f = 0 := by
  rw [sumX_congr (g := fun _ => 0) h, sumX_zero]
theorem sumX_two (n a b : Nat) (f : Nat → UInt8) (ha : a < n) (hb : b < n) (hab : a ≠ b) (h : ∀ k, k < n → k ≠ a → k ≠ b → f k = 0) : sumX n f = f a ^^^ f b := by
  have e : sumX n f = sumX n (fun k => (if k = a then f k else 0) ^^^ (if k = a then 0 else f k)) := sumX_congr fun k _ => by by_cases e : k = a <;> simp [e]
  rw [e, sumX_add, sumX_one n a _ ha (fun k _ hk => by rw [if_neg hk]), sumX_one n b _ hb (fun k h1 h2 => by
    by_cases e : k = a
    · rw [if_pos e]
    · rw [if_neg e]; exact h k h1 e h2), if_pos rfl, if_neg (Ne.symm hab)]
theorem sumX_comm (n m : Nat) (f : Nat → Nat → UInt8) : sumX n (fun i => sumX m (f i)) = sumX m (fun j => sumX n (fun i => f i j)) := by
  induction n with
  | zero => rw [sumX]; exact (sumX_none m _ fun _ _ => rfl).symm
  | succ n ih => rw [sumX, ih, ← sumX_add]; rfl
theorem xor_self8 (a : UInt8) : a ^^^ a = 0 := by simp
theorem xor_eq0 {a b : UInt8} (h : a ^^^ b = 0) : a = b := by
  have := xor_cancel a b
  rw [h] at this
  simpa using this

/-- A row times v. -/
def dotE' (w : Nat) (E : Nat → Nat → UInt8) (i : Nat) (v : Nat → UInt8) : UInt8 := sumX w fun j => fmul (E i j) (v j)
/-- What r rows take to 0. -/
def Ker (r w : Nat) (E : Nat → Nat → UInt8) (v : Nat → UInt8) : Prop := ∀ i, i < r → dotE' w E i v = 0
/-- One column: no row from n on has anything there; or row p comes to place n, is divided, and taken from all others. -/
structure Turn (r w n c p : Nat) (E E' : Nat → Nat → UInt8) : Prop where
  hn : n ≤ p
  hp : p < r
  ne : E p c ≠ 0
  own : ∀ j, j < w → E' n j = fmul (E p j) (finv (E p c))
  oth : ∀ i, i < r → i ≠ n → ∀ j, j < w → E' i j = E (if i = p then n else i) j ^^^ fmul (E' n j) (E (if i = p then n else i) c)
theorem Turn.dot_own {r w n c p : Nat} {E E' : Nat → Nat → UInt8} (h : Turn r w n c p E E') (v : Nat → UInt8) : dotE' w E' n v = fmul (dotE' w E p v) (finv (E p c)) := by
  unfold dotE'
  rw [← sumX_mul]
  refine sumX_congr fun j hj => ?_
  rw [h.own j hj, fmul_assoc, fmul_comm (finv _), ← fmul_assoc]
theorem Turn.dot_oth {r w n c p : Nat} {E E' : Nat → Nat → UInt8} (h : Turn r w n c p E E') (v : Nat → UInt8) (i : Nat) (hi : i < r) (hin : i ≠ n) : dotE' w E' i v = dotE' w E (if i = p then n else i) v ^^^ fmul (dotE' w E' n v) (E (if i = p then n else i) c) := by
  unfold dotE'
  rw [← sumX_mul, ← sumX_add]
  refine sumX_congr fun j hj => ?_
  rw [h.oth i hi hin j hj, xor_fmul, fmul_assoc, fmul_comm (E _ c), ← fmul_assoc]
theorem Turn.ker {r w n c p : Nat} {E E' : Nat → Nat → UInt8} (h : Turn r w n c p E E') (hn : n < r) (v : Nat → UInt8) : Ker r w E' v ↔ Ker r w E v := by
  have hf : finv (E p c) ≠ 0 := finv_ne _ h.ne
  have own := h.dot_own v
  constructor
  · intro k
    have k0 := k n hn
    rw [own, fmul_eq_zero] at k0
    have kp : dotE' w E p v = 0 := k0.resolve_right hf
    intro i hi
    by_cases hip : i = p
    · rw [hip]; exact kp
    · by_cases hin : i = n
      · -- row n of before stands in place p now
        subst hin
        have := h.dot_oth v p h.hp (fun e => hip e.symm)
        rw [if_pos rfl, k p h.hp, own, kp, zero_fmul, zero_fmul] at this
        simpa using this.symm
      · have := h.dot_oth v i hi hin
        rw [if_neg hip, k i hi, own, kp, zero_fmul, zero_fmul] at this
        simpa using this.symm
  · intro k i hi
    have k0 : dotE' w E' n v = 0 := by rw [own, k p h.hp, zero_fmul]
    by_cases hin : i = n
    · rw [hin]; exact k0
    · rw [h.dot_oth v i hi hin, k0, zero_fmul]
      by_cases hip : i = p
      · rw [if_pos hip, k n hn]; rfl
      · rw [if_neg hip, k i hi]; rfl

/-- Behind k columns: the places of the first elements, and what stands there. -/
structure Steps (r w k n : Nat) (E : Nat → Nat → UInt8) (ps : Nat → Nat) : Prop where
  hn : n ≤ r
  hk : k ≤ w
  lt : ∀ i, i < n → ps i < k
  inc : ∀ i j, i < j → j < n → ps i < ps j
  unit : ∀ i, i < n → ∀ i', i' < r → E i' (ps i) = if i' = i then 1 else 0
  bef : ∀ i, i < n → ∀ j, j < ps i → E i j = 0
  low : ∀ i, n ≤ i → i < r → ∀ j, j < k → E i j = 0
theorem Steps.start (r w : Nat) (E : Nat → Nat → UInt8) : Steps r w 0 0 E (fun _ => 0) :=
  ⟨Nat.zero_le _, Nat.zero_le _, fun _ h => by omega, fun _ _ _ h => by omega, fun _ h => by omega, fun _ h => by omega, fun _ _ _ _ h => by omega⟩
theorem Steps.skip {r w k n : Nat} {E : Nat → Nat → UInt8} {ps : Nat → Nat} (h : Steps r w k n E ps) (hk : k < w) (hz : ∀ i, n ≤ i → i < r → E i k = 0) : Steps r w (k + 1) n E ps :=
  ⟨h.hn, hk, fun i hi => by have := h.lt i hi; omega, h.inc, h.unit, h.bef, fun i h1 h2 j hj => by
    by_cases e : j = k
    · rw [e]; exact hz i h1 h2
    · exact h.low i h1 h2 j (by omega)⟩
theorem Steps.inj {r w k n : Nat} {E : Nat → Nat → UInt8} {ps : Nat → Nat} (h : Steps r w k n E ps) {i j : Nat} (hi : i < n) (hj : j < n) (e : ps i = ps j) : i = j := by
  rcases Nat.lt_trichotomy i j with h1 | h1 | h1
  · have := h.inc i j h1 hj; omega
  · exact h1
  · have := h.inc j i h1 hi; omega
theorem Steps.turn {r w k n p : Nat} {E E' : Nat → Nat → UInt8} {ps : Nat → Nat} (h : Steps r w k n E ps) (hk : k < w) (hnr : n < r) (t : Turn r w n k p E E') : Steps r w (k + 1) (n + 1) E' (fun i => if i = n then k else ps i) := by
  have hn' := t.hn
  have hpr := t.hp
  have own : ∀ j, j < w → E' n j = fmul (E p j) (finv (E p k)) := t.own
  have ownlow : ∀ j, j < k → E' n j = 0 := fun j hj => by rw [own j (by omega), h.low p hn' hpr j hj, zero_fmul]
  have ownk : E' n k = 1 := by rw [own k hk, fmul_finv _ t.ne]
  have othk : ∀ i, i < r → i ≠ n → E' i k = 0 := fun i hi hin => by
    rw [t.oth i hi hin k hk, ownk, one_fmul, xor_self8]
  have othlow : ∀ i, i < r → i ≠ n → ∀ j, j < k → E' i j = E (if i = p then n else i) j := fun i hi hin j hj => by
    rw [t.oth i hi hin j (by omega), ownlow j hj, zero_fmul]; simp
  refine ⟨hnr, hk, fun i hi => ?_, fun i j hij hj => ?_, fun i hi i' hi' => ?_, fun i hi j hj => ?_, fun i h1 h2 j hj => ?_⟩
  · show (if i = n then k else ps i) < k + 1
    split
    · omega
    · have := h.lt i (by omega); omega
  · show (if i = n then k else ps i) < (if j = n then k else ps j)
    rw [if_neg (by omega)]
    by_cases e : j = n
    · rw [if_pos e]; exact h.lt i (by omega)
    · rw [if_neg e]; exact h.inc i j hij (by omega)
  · show E' i' (if i = n then k else ps i) = _
    by_cases e : i = n
    · subst e
      rw [if_pos rfl]
      by_cases e2 : i' = i
      · rw [if_pos e2, e2, ownk]
      · rw [if_neg e2, othk i' hi' e2]
    · have hi2 : i < n := by omega
      have hlt := h.lt i hi2
      rw [if_neg e]
      by_cases e2 : i' = n
      · rw [e2, ownlow _ hlt, if_neg (by omega)]
      · rw [othlow i' hi' e2 _ hlt]
        by_cases e3 : i' = p
        · rw [if_pos e3, h.unit i hi2 n hnr, if_neg (by omega), if_neg (by omega)]
        · rw [if_neg e3, h.unit i hi2 i' hi']
  · show E' i j = 0
    replace hj : j < (if i = n then k else ps i) := hj
    by_cases e : i = n
    · rw [if_pos e] at hj
      rw [e]; exact ownlow j hj
    · rw [if_neg e] at hj
      have hi2 : i < n := by omega
      have hlt := h.lt i hi2
      rw [othlow i (by omega) e j (by omega), if_neg (by omega)]
      exact h.bef i hi2 j hj
  · by_cases e : j = k
    · rw [e]; exact othk i h2 (by omega)
    · rw [othlow i h2 (by omega) j (by omega)]
      by_cases e3 : i = p
      · rw [if_pos e3]; exact h.low n (Nat.le_refl _) hnr j (by omega)
      · rw [if_neg e3]; exact h.low i (by omega) h2 j (by omega)

/-- A column is no first element's: something with 1 there, and nothing behind it, is taken to 0. -/
def Free (r w : Nat) (E : Nat → Nat → UInt8) (c : Nat) : Prop := ∃ v : Nat → UInt8, v c = 1 ∧ (∀ j, c < j → v j = 0) ∧ Ker r w E v
theorem Steps.notFree {r w k n : Nat} {E : Nat → Nat → UInt8} {ps : Nat → Nat} (h : Steps r w k n E ps) {i : Nat} (hi : i < n) : ¬ Free r w E (ps i) := by
  rintro ⟨v, h1, h2, h3⟩
  have hr := h.hn
  have hlt := h.lt i hi
  have hkw := h.hk
  have := h3 i (by omega)
  rw [dotE', sumX_one w (ps i) _ (by omega) (fun j hj hne => by
    rcases Nat.lt_or_ge j (ps i) with h4 | h4
    · rw [h.bef i hi j h4, zero_fmul]
    · rw [h2 j (by omega), fmul_zero]), h.unit i hi i (by omega), if_pos rfl, h1, fmul_one] at this
  exact absurd this (by decide)
theorem Steps.free {r w k n : Nat} {E : Nat → Nat → UInt8} {ps : Nat → Nat} (h : Steps r w k n E ps) {c : Nat} (hc : c < k) (hp : ∀ i, i < n → ps i ≠ c) : Free r w E c := by
  classical
  have hkw := h.hk
  have hr := h.hn
  -- v: 1 at c; at the place of row i's first element, ahead of c, what row i has at c
  let v : Nat → UInt8 := fun j => if j = c then 1 else if hx : j < c ∧ ∃ i, i < n ∧ ps i = j then E hx.2.choose c else 0
  have ev : ∀ j, v j = if j = c then 1 else if hx : j < c ∧ ∃ i, i < n ∧ ps i = j then E hx.2.choose c else 0 := fun _ => rfl
  have v_c : v c = 1 := by simp [v]
  have v_at : ∀ i, i < n → ps i < c → v (ps i) = E i c := fun i hi hlt => by
    have hx : ps i < c ∧ ∃ i', i' < n ∧ ps i' = ps i := ⟨hlt, i, hi, rfl⟩
    have e : hx.2.choose = i := h.inj hx.2.choose_spec.1 hi hx.2.choose_spec.2
    rw [ev, if_neg (by omega), dif_pos hx, e]
  have v_no : ∀ j, j ≠ c → (∀ i, i < n → ps i = j → c ≤ j) → v j = 0 := fun j hj hh => by
    rw [ev, if_neg hj, dif_neg]
    rintro ⟨h1, i, h2, h3⟩
    have := hh i h2 h3
    omega
  refine ⟨v, v_c, fun j hj => v_no j (by omega) (fun _ _ _ => by omega), fun i hi => ?_⟩
  rw [dotE']
  by_cases hin : i < n
  · by_cases hlt : ps i < c
    · rw [sumX_two w (ps i) c _ (by omega) (by omega) (by omega) (fun j hj h1 h2 => ?_), h.unit i hin i hi, if_pos rfl, one_fmul, v_at i hin hlt, v_c, fmul_one, xor_self8]
      by_cases hx : ∃ i', i' < n ∧ ps i' = j
      · obtain ⟨i', h3, rfl⟩ := hx
        rw [h.unit i' h3 i hi, if_neg (fun e => h1 (by rw [e])), zero_fmul]
      · rw [v_no j h2 (fun i' h3 h4 => absurd ⟨i', h3, h4⟩ hx), fmul_zero]
    · have hgt : c < ps i := by have := hp i hin; omega
      refine sumX_none w _ fun j hj => ?_
      rcases Nat.lt_or_ge j (ps i) with h4 | h4
      · rw [h.bef i hin j h4, zero_fmul]
      · rw [v_no j (by omega) (fun _ _ _ => by omega), fmul_zero]
  · refine sumX_none w _ fun j hj => ?_
    rcases Nat.lt_or_ge j k with h4 | h4
    · rw [h.low i (by omega) hi j h4, zero_fmul]
    · rw [v_no j (by omega) (fun _ _ _ => by omega), fmul_zero]

/-- Column after column. -/
inductive Run (r w : Nat) (E0 : Nat → Nat → UInt8) : Nat → Nat → (Nat → Nat → UInt8) → Prop
  | start : Run r w E0 0 0 E0
  | skip {k n : Nat} {E : Nat → Nat → UInt8} : Run r w E0 k n E → k < w → (∀ i, n ≤ i → i < r → E i k = 0) → Run r w E0 (k + 1) n E
  | turn {k n p : Nat} {E E' : Nat → Nat → UInt8} : Run r w E0 k n E → k < w → n < r → Turn r w n k p E E' → Run r w E0 (k + 1) (n + 1) E'
theorem Free.congr {r w r' w' : Nat} {E E' : Nat → Nat → UInt8} {c : Nat} (h : ∀ v, (∀ j, c < j → v j = 0) → (Ker r w E v ↔ Ker r' w' E' v)) : Free r w E c ↔ Free r' w' E' c :=
  ⟨fun ⟨v, h1, h2, h3⟩ => ⟨v, h1, h2, (h v h2).1 h3⟩, fun ⟨v, h1, h2, h3⟩ => ⟨v, h1, h2, (h v h2).2 h3⟩⟩
open Classical in
/-- How many columns are first elements'. -/
noncomputable def cnt (p : Nat → Prop) : Nat → Nat
  | 0 => 0
  | k + 1 => cnt p k + (if p k then 0 else 1)
theorem cnt_congr {p q : Nat → Prop} : ∀ {k : Nat}, (∀ c, c < k → (p c ↔ q c)) → cnt p k = cnt q k
  | 0, _ => rfl
  | k + 1, h => by 
    have e : p k ↔ q k := h k (by omega)
    rw [cnt, cnt, cnt_congr (fun c hc => h c (by omega))]
    by_cases hq : q k
    · rw [if_pos hq, if_pos (e.2 hq)]
    · rw [if_neg hq, if_neg (fun h => hq (e.1 h))]
theorem Run.steps {r w : Nat} {E0 : Nat → Nat → UInt8} {k n : Nat} {E : Nat → Nat → UInt8} (h : Run r w E0 k n E) : (∃ ps, Steps r w k n E ps) ∧ (∀ v, Ker r w E v ↔ Ker r w E0 v) ∧ n = cnt (Free r w E0) k := by
  induction h with
  | start => exact ⟨⟨_, Steps.start r w E0⟩, fun _ => Iff.rfl, rfl⟩
  | @skip k n E hr hk hz ih =>
    obtain ⟨⟨ps, h1⟩, h2, h3⟩ := ih
    have hs := h1.skip hk hz
    have hf : Free r w E0 k := (Free.congr fun v _ => h2 v).1 (hs.free (Nat.lt_succ_self k) fun i hi => by have := h1.lt i hi; omega)
    exact ⟨⟨ps, hs⟩, h2, by rw [cnt, if_pos hf, ← h3]; rfl⟩
  | @turn k n p E E' hr hk hn ht ih =>
    obtain ⟨⟨ps, h1⟩, h2, h3⟩ := ih
    have hs := h1.turn hk hn ht
    have h4 : ∀ v, Ker r w E' v ↔ Ker r w E0 v := fun v => (ht.ker hn v).trans (h2 v)
    have hf : ¬ Free r w E0 k := fun hf => by
      have := hs.notFree (i := n) (Nat.lt_succ_self n)
      rw [if_pos rfl] at this
      exact this ((Free.congr fun v _ => h4 v).2 hf)
    exact ⟨⟨_, hs⟩, h4, by rw [cnt, if_neg hf, ← h3]⟩
/-- How many count does not hang on the rows that are taken. -/
theorem Run.same {r w r' w' : Nat} {E0 E0' : Nat → Nat → UInt8} {k n n' : Nat} {E E' : Nat → Nat → UInt8} (h : Run r w E0 k n E) (h' : Run r' w' E0' k n' E') (he : ∀ v, (∀ j, k ≤ j → v j = 0) → (Ker r w E0 v ↔ Ker r' w' E0' v)) : n = n' := by
  rw [h.steps.2.2, h'.steps.2.2]
  exact cnt_congr fun c hc => Free.congr fun v hv => he v fun j hj => hv j (by omega)
theorem Steps.full {r w : Nat} {E : Nat → Nat → UInt8} {ps : Nat → Nat} (h : Steps r w r r E ps) : ∀ i, i < r → ps i = i := by
  have ge : ∀ i, i < r → i ≤ ps i := fun i => by
    induction i with
    | zero => intro _; exact Nat.zero_le _
    | succ i ih => intro hi; have := h.inc i (i + 1) (by omega) hi; have := ih (by omega); omega
  have up : ∀ d i, i + d < r → ps i + d ≤ ps (i + d) := fun d => by
    induction d with
    | zero => intro i _; exact Nat.le_refl _
    | succ d ih => intro i hi; have := h.inc (i + d) (i + (d + 1)) (by omega) hi; have := ih i (by omega); omega
  intro i hi
  have h1 := ge i hi
  have h2 := up (r - 1 - i) i (by omega)
  have h3 := h.lt (i + (r - 1 - i)) (by omega)
  omega
theorem sumX_split (a b : Nat) (f : Nat → UInt8) : sumX (a + b) f = sumX a f ^^^ sumX b (fun j => f (a + j)) := by
  induction b with
  | zero => simp [sumX]
  | succ b ih => rw [← Nat.add_assoc, sumX, ih, sumX, UInt8.xor_assoc]
/-- A square matrix with the unit at its side. -/
def wideF (r : Nat) (M : Nat → Nat → UInt8) (i j : Nat) : UInt8 := if j < r then M i j else if i = j - r then 1 else 0
/-- B undoes M. -/
structure Undo (r : Nat) (M B : Nat → Nat → UInt8) : Prop where
  right : ∀ (y : Nat → UInt8) i, i < r → (sumX r fun j => fmul (M i j) (sumX r fun k => fmul (B j k) (y k))) = y i
  left : ∀ (x : Nat → UInt8) i, i < r → (sumX r fun j => fmul (B i j) (sumX r fun k => fmul (M j k) (x k))) = x i
theorem dot_wide (r : Nat) (E : Nat → Nat → UInt8) (i : Nat) (x y : Nat → UInt8) : dotE' (r + r) E i (fun j => if j < r then x j else y (j - r)) = (sumX r fun j => fmul (E i j) (x j)) ^^^ sumX r fun j => fmul (E i (r + j)) (y j) := by
  rw [dotE', sumX_split]
  congr 1
  · exact sumX_congr fun j hj => by rw [if_pos hj]
  · exact sumX_congr fun j hj => by rw [if_neg (by omega), Nat.add_sub_cancel_left]
theorem Ker.congr {r w : Nat} {E E' : Nat → Nat → UInt8} (h : ∀ i j, i < r → j < w → E i j = E' i j) (v : Nat → UInt8) : Ker r w E v ↔ Ker r w E' v := by
  have : ∀ i, i < r → dotE' w E i v = dotE' w E' i v := fun i hi => sumX_congr fun j hj => by rw [h i j hi hj]
  exact ⟨fun k i hi => (this i hi).symm.trans (k i hi), fun k i hi => (this i hi).trans (k i hi)⟩
theorem Run.undo {r : Nat} {M E E0 : Nat → Nat → UInt8} (h : Run r (r + r) E0 r r E) (hE : ∀ i j, i < r → j < r + r → E0 i j = wideF r M i j) : Undo r M (fun i j => E i (r + j)) := by
  obtain ⟨⟨ps, hs⟩, hk0, _⟩ := h.steps
  have hk : ∀ v, Ker r (r + r) E v ↔ Ker r (r + r) (wideF r M) v := fun v => (hk0 v).trans (Ker.congr hE v)
  have hp := hs.full
  have hu : ∀ i, i < r → ∀ i', i' < r → E i' i = if i' = i then 1 else 0 := fun i hi i' hi' => by have := hs.unit i hi i' hi'; rwa [hp i hi] at this
  have de : ∀ (x y : Nat → UInt8) i, i < r → dotE' (r + r) E i (fun j => if j < r then x j else y (j - r)) = x i ^^^ sumX r fun j => fmul (E i (r + j)) (y j) := fun x y i hi => by
    rw [dot_wide, sumX_one r i _ hi (fun j hj hne => by rw [hu j hj i hi, if_neg (Ne.symm hne), zero_fmul]), hu i hi i hi, if_pos rfl, one_fmul]
  have dm : ∀ (x y : Nat → UInt8) i, i < r → dotE' (r + r) (wideF r M) i (fun j => if j < r then x j else y (j - r)) = (sumX r fun j => fmul (M i j) (x j)) ^^^ y i := fun x y i hi => by
    rw [dot_wide, sumX_one r i (fun j => fmul (wideF r M i (r + j)) (y j)) hi (fun j hj hne => by
      show fmul (if r + j < r then _ else _) _ = 0
      rw [if_neg (by omega), if_neg (by omega), zero_fmul])]
    congr 1
    · exact sumX_congr fun j hj => by rw [wideF, if_pos hj]
    · show fmul (if r + i < r then _ else _) _ = _
      rw [if_neg (by omega), if_pos (by omega), one_fmul]
  refine ⟨fun y i hi => ?_, fun x i hi => ?_⟩
  · have k1 : Ker r (r + r) E (fun j => if j < r then (fun j => sumX r fun k => fmul (E j (r + k)) (y k)) j else y (j - r)) := fun i' hi' => by rw [de _ _ i' hi', xor_self8]
    have k2 := (hk _).1 k1 i hi
    rw [dm _ _ i hi] at k2
    exact xor_eq0 k2
  · have k1 : Ker r (r + r) (wideF r M) (fun j => if j < r then x j else (fun i => sumX r fun k => fmul (M i k) (x k)) (j - r)) := fun i' hi' => (dm x (fun i => sumX r fun k => fmul (M i k) (x k)) i' hi').trans (xor_self8 _)
    have k2 := (de x (fun i => sumX r fun k => fmul (M i k) (x k)) i hi).symm.trans ((hk _).2 k1 i hi)
    exact (xor_eq0 k2).symm
theorem Undo.same {r : Nat} {M B B' : Nat → Nat → UInt8} (h : Undo r M B) (h' : Undo r M B') (i k : Nat) (hi : i < r) (hk : k < r) : B i k = B' i k := by
  have e := h'.left (fun j => sumX r fun l => fmul (B j l) (if l = k then 1 else 0)) i hi
  have e2 : ∀ j, j < r → (sumX r fun l => fmul (M j l) (sumX r fun m => fmul (B l m) (if m = k then 1 else 0))) = if j = k then 1 else 0 := fun j hj => h.right (fun m => if m = k then 1 else 0) j hj
  rw [sumX_congr (g := fun j => fmul (B' i j) (if j = k then 1 else 0)) (fun j hj => by rw [e2 j hj])] at e
  have one : ∀ C : Nat → Nat → UInt8, (sumX r fun j => fmul (C i j) (if j = k then 1 else 0)) = C i k := fun C => by
    rw [sumX_one r k _ hk (fun j _ hne => by rw [if_neg hne, fmul_zero]), if_pos rfl, fmul_one]
  rw [one] at e
  rw [e]
  exact (one B).symm
theorem wide_ker {r : Nat} {M : Nat → Nat → UInt8} (v : Nat → UInt8) (hv : ∀ j, r ≤ j → v j = 0) : Ker r (r + r) (wideF r M) v ↔ Ker r r M v := by
  have : ∀ i, i < r → dotE' (r + r) (wideF r M) i v = dotE' r M i v := fun i hi => by
    rw [dotE', sumX_split, sumX_none r (fun j => fmul (wideF r M i (r + j)) (v (r + j))) (fun j hj => by rw [hv (r + j) (by omega), fmul_zero]), dotE']
    rw [sumX_congr (n := r) (f := fun j => fmul (wideF r M i j) (v j)) (g := fun j => fmul (M i j) (v j)) (fun j hj => by rw [wideF, if_pos hj])]
    simp
  exact ⟨fun h i hi => (this i hi).symm.trans (h i hi), fun h i hi => (this i hi).trans (h i hi)⟩
end Go.Proofs.Ytfnneneaalaagaa

namespace Go.Proofs.Ytfnneneaalaagaa
set_option maxRecDepth 100000
set_option linter.unusedSimpArgs false

def fe (M : List (List UInt8)) (i j : Nat) : UInt8 := (M.getD i []).getD j 0
theorem fe_set_self {M : List (List UInt8)} {r c i : Nat} (h : Mat M r c) (hi : i < r) (l : List UInt8) (j : Nat) : fe (M.set i l) i j = l.getD j 0 := by
  rw [fe, getD_set_self _ _ _ (by rw [h.len]; exact hi)]
theorem fe_set_ne (M : List (List UInt8)) {i k : Nat} (l : List UInt8) (j : Nat) (h : i ≠ k) : fe (M.set i l) k j = fe M k j := by
  rw [fe, getD_set_ne' _ _ _ _ h, fe]
theorem getD_map0 (l : List UInt8) (f : UInt8 → UInt8) (j : Nat) (hj : j < l.length) : (l.map f).getD j 0 = f (l.getD j 0) := by
  rw [List.getD_eq_getElem?_getD, List.getD_eq_getElem?_getD, List.getElem?_map, List.getElem?_eq_getElem hj]; rfl
theorem getD_zip0 (a b : List UInt8) (f : UInt8 → UInt8 → UInt8) (j : Nat) (ha : j < a.length) (hb : j < b.length) : (List.zipWith f a b).getD j 0 = f (a.getD j 0) (b.getD j 0) := by
  rw [List.getD_eq_getElem?_getD, List.getD_eq_getElem?_getD, List.getD_eq_getElem?_getD, List.getElem?_zipWith, List.getElem?_eq_getElem ha, List.getElem?_eq_getElem hb]; rfl
theorem fe_swap {M : List (List UInt8)} {r c a b : Nat} (h : Mat M r c) (ha : a < r) (hb : b < r) (i j : Nat) : fe (swapM M a b) i j = if i = b then fe M a j else if i = a then fe M b j else fe M i j := by
  have h1 : Mat (M.set a (M.getD b [])) r c := h.set a _ (h.get hb)
  rw [swapM]
  by_cases e : i = b
  · rw [if_pos e, e, fe_set_self h1 hb, fe]
  · rw [if_neg e, fe_set_ne _ _ _ (Ne.symm e)]
    by_cases e2 : i = a
    · rw [if_pos e2, e2, fe_set_self h ha, fe]
    · rw [if_neg e2, fe_set_ne _ _ _ (Ne.symm e2)]
theorem fe_scale {M : List (List UInt8)} {r w n : Nat} (h : Mat M r w) (hn : n < r) (c i j : Nat) (hj : j < w) : fe (scaleM M n c) i j = if i = n then fmul (fe M n j) (finv (fe M n c)) else fe M i j := by
  rw [scaleM]
  by_cases e : i = n
  · rw [if_pos e, e, fe_set_self h hn, getD_map0 _ _ _ (by rw [h.get hn]; exact hj), finv0_eq]; rfl
  · rw [if_neg e, fe_set_ne _ _ _ (Ne.symm e)]
theorem fe_elim {M : List (List UInt8)} {r w n c : Nat} (h : Mat M r w) (hn : n < r) (hc : c < w) (j : Nat) (hj : j < w) : ∀ k, k ≤ r → ∀ i, i < r → fe (elimK M n c k) i j = if i < k ∧ i ≠ n then fe M i j ^^^ fmul (fe M n j) (fe M i c) else fe M i j
  | 0, _, i, _ => by rw [elimK, if_neg (by omega)]
  | k + 1, hk, i, hi => by
    have keep : ∀ j', j' < w → ∀ i', i' < r → ¬ (i' < k ∧ i' ≠ n) → fe (elimK M n c k) i' j' = fe M i' j' := fun j' hj' i' hi' hno => by rw [fe_elim h hn hc j' hj' k (by omega) i' hi', if_neg hno]
    have hM := h.elim hn c k (by omega)
    rw [elimK]
    by_cases e : k = n
    · rw [if_pos e, fe_elim h hn hc j hj k (by omega) i hi]
      by_cases e2 : i < k ∧ i ≠ n
      · rw [if_pos e2, if_pos ⟨by omega, e2.2⟩]
      · rw [if_neg e2, if_neg (by omega)]
    · rw [if_neg e]
      by_cases e2 : i = k
      · subst e2
        rw [fe_set_self hM hi, getD_zip0 _ _ _ _ (by rw [hM.get hi]; exact hj) (by rw [hM.get hn]; exact hj), if_pos ⟨by omega, e⟩]
        have a1 := keep j hj i hi (by omega)
        have a2 := keep c hc i hi (by omega)
        have a3 := keep j hj n hn (by omega)
        unfold fe at a1 a2 a3
        rw [a1, a2, a3]
        rfl
      · rw [fe_set_ne _ _ _ (Ne.symm e2), fe_elim h hn hc j hj k (by omega) i hi]
        by_cases e3 : i < k ∧ i ≠ n
        · rw [if_pos e3, if_pos ⟨by omega, e3.2⟩]
        · rw [if_neg e3, if_neg (by omega)]
/-- One column, whatever row is taken. -/
def stepG (pk : List UInt8 → Int) (r cc : Nat) (s : List (List UInt8) × Nat) (c : Nat) : List (List UInt8) × Nat :=
  if s.2 < r then
    if pk ((colL s.1.flatten r cc c).drop s.2) < 0 then s
    else (elimK (scaleM (swapM s.1 s.2 (s.2 + (pk ((colL s.1.flatten r cc c).drop s.2)).toNat)) s.2 c) s.2 c r, s.2 + 1)
  else s
def runG (pk : List UInt8 → Int) (r cc : Nat) (M : List (List UInt8)) : Nat → List (List UInt8) × Nat
  | 0 => (M, 0)
  | c + 1 => stepG pk r cc (runG pk r cc M c) c
theorem clr_run (r cc : Nat) (M : List (List UInt8)) : ∀ k, clr r cc M k = runG nzI r cc M k
  | 0 => rfl
  | k + 1 => by rw [clr, runG, clr_run r cc M k]; rfl
/-- A choice of a row: one that is not 0, if there is one. -/
def Picks (pk : List UInt8 → Int) : Prop := ∀ l, (pk l < 0 ∧ ∀ i, i < l.length → l.getD i 0 = 0) ∨ (0 ≤ pk l ∧ (pk l).toNat < l.length ∧ l.getD (pk l).toNat 0 ≠ 0)
theorem mat_at {M : List (List UInt8)} {r c i j : Nat} (h : Mat M r c) (hi : i < r) (hj : j < c) : M.flatten.getD (i * c + j) 0 = fe M i j := by
  have := h.at_ hi hj []
  rw [mcells, List.append_nil, List.getElem?_map] at this
  rw [List.getD_eq_getElem?_getD]
  cases e : M.flatten[i * c + j]? with
  | none => rw [e] at this; cases this
  | some x =>
    rw [e] at this
    simp only [Option.map_some, Option.some.injEq] at this
    have h2 : x = (M.getD i []).getD j 0 := by
      have : (x.toNat : Int) = (((M.getD i []).getD j 0).toNat : Int) := by injection this
      exact UInt8.toNat_inj.mp (by omega)
    rw [Option.getD_some, h2]; rfl
theorem col_drop {M : List (List UInt8)} {r w c n i : Nat} (h : Mat M r w) (hc : c < w) (hi : n + i < r) : ((colL M.flatten r w c).drop n).getD i 0 = fe M (n + i) c := by
  rw [List.getD_eq_getElem?_getD, List.getElem?_drop, colL, List.getElem?_map, List.getElem?_range hi]
  simp only [Option.map_some, Option.getD_some]
  exact mat_at h hi hc
theorem runG_mat {pk : List UInt8 → Int} (hp : Picks pk) {M : List (List UInt8)} {r w : Nat} (h : Mat M r w) : ∀ k, k ≤ w → Mat (runG pk r w M k).1 r w ∧ (runG pk r w M k).2 ≤ r ∧ Run r w (fe M) k (runG pk r w M k).2 (fe (runG pk r w M k).1)
  | 0, _ => ⟨h, Nat.zero_le _, .start⟩
  | k + 1, hk => by
    obtain ⟨h1, h2, h3⟩ := runG_mat hp h k (by omega)
    obtain ⟨s, hs⟩ : ∃ s, s = runG pk r w M k := ⟨_, rfl⟩
    rw [runG]
    rw [← hs] at h1 h2 h3 ⊢
    obtain ⟨N, n⟩ := s
    simp only at h1 h2 h3
    unfold stepG
    simp only
    by_cases hn : n < r
    · rw [if_pos hn]
      have hl : ((colL N.flatten r w k).drop n).length = r - n := by rw [List.length_drop, colL_len]
      rcases hp ((colL N.flatten r w k).drop n) with ⟨a1, a2⟩ | ⟨a1, a2, a3⟩
      · rw [if_pos a1]
        refine ⟨h1, h2, .skip h3 (by omega) fun i hi hi2 => ?_⟩
        have := a2 (i - n) (by omega)
        rw [col_drop h1 (by omega) (by omega), Nat.add_sub_cancel' hi] at this
        exact this
      · rw [if_neg (by omega)]
        generalize (pk ((colL N.flatten r w k).drop n)).toNat = q at *
        have hq : n + q < r := by omega
        rw [col_drop h1 (by omega) hq] at a3
        have m1 := h1.swap hn hq
        have m2 := m1.scale hn k
        have m3 := m2.elim hn k r (Nat.le_refl _)
        refine ⟨m3, hn, .turn h3 (by omega) hn (p := n + q) ⟨by omega, hq, a3, fun j hj => ?_, fun i hi hin j hj => ?_⟩⟩
        · rw [fe_elim m2 hn (by omega) j hj r (Nat.le_refl _) n hn, if_neg (by omega), fe_scale m1 hn k n j hj, if_pos rfl, fe_swap h1 hn hq, fe_swap h1 hn hq]
          by_cases e : n = n + q
          · rw [if_pos e, if_pos e, ← e]
          · rw [if_neg e, if_neg e, if_pos rfl, if_pos rfl]
        · rw [fe_elim m2 hn (by omega) j hj r (Nat.le_refl _) i hi, if_pos ⟨hi, hin⟩, fe_elim m2 hn (by omega) j hj r (Nat.le_refl _) n hn, if_neg (show ¬ (n < r ∧ n ≠ n) by simp), fe_scale m1 hn k i j hj, if_neg hin, fe_scale m1 hn k i k (by omega), if_neg hin, fe_swap h1 hn hq i, fe_swap h1 hn hq i]
          by_cases e : i = n + q
          · rw [if_pos e, if_pos e, if_pos e]
          · rw [if_neg e, if_neg e, if_neg e, if_neg hin, if_neg hin]
    · rw [if_neg hn]
      exact ⟨h1, h2, .skip h3 (by omega) fun i hi hi2 => by omega⟩
theorem nzR_spec : ∀ (l : List UInt8) (k : Nat), (nzR l k < 0 ∧ ∀ i, i < l.length → l.getD i 0 = 0) ∨ ((k : Int) ≤ nzR l k ∧ (nzR l k).toNat - k < l.length ∧ l.getD ((nzR l k).toNat - k) 0 ≠ 0)
  | [], k => .inl ⟨by rw [nzR]; decide, fun i hi => by simp at hi⟩
  | x :: r, k => by
    rw [nzR]
    by_cases e : x = 0
    · rw [if_pos e]
      rcases nzR_spec r (k + 1) with ⟨h1, h2⟩ | ⟨h1, h2, h3⟩
      · left
        refine ⟨h1, fun i hi => ?_⟩
        cases i with
        | zero => exact e
        | succ i => exact h2 i (by simpa using hi)
      · right
        refine ⟨by omega, by rw [List.length_cons]; omega, ?_⟩
        rw [show (nzR r (k + 1)).toNat - k = ((nzR r (k + 1)).toNat - (k + 1)) + 1 by omega]
        exact h3
    · rw [if_neg e]
      right
      refine ⟨Int.le_refl _, by simp, ?_⟩
      simpa using e
theorem picks_nz : Picks nzI := fun l => by
  have := nzR_spec l 0
  rw [← show nzI l = nzR l 0 from rfl] at this
  simpa using this
/-- The last one that is not 0: the reference's. -/
def lzK (l : List UInt8) : Nat → Int
  | 0 => -1
  | k + 1 => if l.getD k 0 = 0 then lzK l k else (k : Int)
def lzI (l : List UInt8) : Int := lzK l l.length
theorem lzK_spec (l : List UInt8) : ∀ k, (lzK l k < 0 ∧ ∀ i, i < k → l.getD i 0 = 0) ∨ (0 ≤ lzK l k ∧ (lzK l k).toNat < k ∧ l.getD (lzK l k).toNat 0 ≠ 0)
  | 0 => .inl ⟨by rw [lzK]; decide, fun i hi => by omega⟩
  | k + 1 => by
    rw [lzK]
    by_cases e : l.getD k 0 = 0
    · rw [if_pos e]
      rcases lzK_spec l k with ⟨h1, h2⟩ | ⟨h1, h2, h3⟩
      · left
        refine ⟨h1, fun i hi => ?_⟩
        by_cases e2 : i = k
        · rw [e2]; exact e
        · exact h2 i (by omega)
      · exact .inr ⟨h1, by omega, h3⟩
    · rw [if_neg e]
      exact .inr ⟨by omega, by omega, by simpa using e⟩
theorem picks_lz : Picks lzI := fun l => lzK_spec l l.length
end Go.Proofs.Ytfnneneaalaagaa

namespace Go.Proofs.Ytfnneneaalaagaa
set_option maxRecDepth 100000
open Go.RowKit
set_option linter.unusedSimpArgs false
set_option linter.unusedVariables false

def relS (l : List UInt8) (g : UInt8 → UInt8) (w : World) (v5 v6 : Value) (wr : World) : Prop := ∃ (i : Nat) (A : Option Addr) (cp : Nat) (cur : List UInt8), v6 = .int .i64 (i : Int) ∧ i ≤ l.length ∧ v5 = .slice A cur.length cp ∧ Hid (cur = (l.take i).map g) ∧ SH Nil w wr [.row B8 (.slice A cur.length cp) cur]
set_option maxHeartbeats 1600000 in
set_option maxRecDepth 100000 in
theorem scaled_any (v : Value) (l : List UInt8) (f : UInt8) (w : World) (hv : RB w v l) (hl : l.length ≤ 1000000) :
    Calls Try.prog 79 #[v, .int .u8 (f.toNat : Int)] w fun e w' => ∃ A cp, e = .returned (.slice A (l.map fun x => fmul x f).length cp) ∧ OB w' w.heap.size (.slice A (l.map fun x => fmul x f).length cp) (l.map fun x => fmul x f) ∧ Below w.heap.size w w' := by
  have H := SH.start Nil w
  obtain ⟨A0, c0, rfl, -⟩ := id hv.len
  have hcell : ∀ k, k < l.length → ∃ ad, A0 = some ad ∧ w.cell? (ad.add k) = some (.int .u8 ((l.getD k 0).toNat : Int)) := fun k hk => by
    obtain ⟨ad, rfl, h⟩ := RB.byte hv (by omega)
    exact ⟨ad, rfl, h k hk⟩
  have HC := Lib.hid hcell
  clear hcell hv
  go_enter Try.func79, Try.ntmps79
  go_wp2_with (first
    | ((with_reducible refine gDst 7 ?_); refine aEmpty sB H rfl rfl ?_; clear H; intro b7 w7 H)
    | ((with_reducible refine gLoad ?_); first | (refine aLoad1 H _ rfl rfl (by first | exact (rfl : _ = some (Value.int _ _)) | exact (rfl : _ = some (Value.slice _ _ _)) | exact (rfl : _ = some (Value.bool _)) | exact (rfl : _ = some (Value.string _)) | exact (rfl : _ = some (Value.pointer _)) | rfl | (simp [List.getElem?_append]; done)) rfl ?_) | (refine aLoadC _ rfl rfl (by assumption) rfl ?_))
    | (at_builtin; refine aAppB1 _ H _ _ rfl rfl rfl (by first | omega | (have := HCL.out; omega)) rfl ?_; clear H; intro v' w' ys HY H; (try dsimp only at H); obtain ⟨A', c', rfl, hc'⟩ := (H.hold.rr v').len))
  go_loopw [5, 6] (fun v5 v6 wr => relS l (fun x => fmul x f) w v5 v6 wr) (fun _ v _ => l.length - (intOf v).toNat)
  case atStart => exact ⟨0, _, _, [], rfl, by omega, rfl, by simp [Hid], H⟩
  case round =>
    obtain ⟨i, A, cp, cur, rfl, hi, rfl, HY0, HS⟩ := hrel
    clear H
    have H := HS
    clear HS
    by_cases hir : i < l.length
    · have hii : (i : Int) < (l.length : Int) := by omega
      obtain ⟨ad, rfl, hcl⟩ := HC.out i hir
      have hs : (l.take (i + 1)).map (fun x => fmul x f) = (l.take i).map (fun x => fmul x f) ++ [fmul (l.getD i 0) f] := by rw [take_getD' l i hir, List.map_append]; rfl
      have hln : cur.length ≤ 1000000 := by rw [HY0.out, List.length_map, List.length_take]; omega
      rw [← HY0.out] at hs
      generalize l.getD i 0 = x at *
      have c1 := fun W => RMul_f x f W
      have HSS := Lib.hid hs
      clear hs
      have hc := cell_below H.below hcl
      go_wp2_with (first
        | ((with_reducible refine gDst 7 ?_); refine aEmpty sB H rfl rfl ?_; clear H; intro b7 w7 H)
        | ((with_reducible refine gLoad ?_); first | (refine aLoad1 H _ rfl rfl (by first | exact (rfl : _ = some (Value.int _ _)) | exact (rfl : _ = some (Value.slice _ _ _)) | exact (rfl : _ = some (Value.bool _)) | exact (rfl : _ = some (Value.string _)) | exact (rfl : _ = some (Value.pointer _)) | rfl | (simp [List.getElem?_append]; done)) rfl ?_) | (refine aLoadC _ rfl rfl (by assumption) rfl ?_))
        | (at_builtin; refine aAppB1 _ H _ _ rfl rfl rfl (by first | omega | (have := HCL.out; omega)) rfl ?_; clear H; intro v' w' ys HY H; (try dsimp only at H); obtain ⟨A', c', rfl, hc'⟩ := (H.hold.rr v').len)
        | (go_at_call 67; (with_reducible refine (c1 _).mono ?_); rintro e w' ⟨rfl, hb⟩; replace H := H.step hb; clear hb; clear hc))
      go_roundw
      case rel => first | exact ⟨i + 1, _, _, _, by go_num, by omega, rfl, HY.out.trans HSS.out.symm, H⟩ | exact ⟨_, ⟨i + 1, _, _, _, by go_num, by omega, rfl, HY.out.trans HSS.out.symm, H⟩, rfl⟩ | exact ⟨_, _, ⟨i + 1, _, _, _, by go_num, by omega, rfl, HY.out.trans HSS.out.symm, H⟩, rfl, rfl⟩ | exact ⟨_, _, _, ⟨i + 1, _, _, _, by go_num, by omega, rfl, HY.out.trans HSS.out.symm, H⟩, rfl, rfl, rfl⟩ | exact ⟨_, _, _, _, ⟨i + 1, _, _, _, by go_num, by omega, rfl, HY.out.trans HSS.out.symm, H⟩, rfl, rfl, rfl, rfl⟩ | exact ⟨_, _, _, _, _, ⟨i + 1, _, _, _, by go_num, by omega, rfl, HY.out.trans HSS.out.symm, H⟩, rfl, rfl, rfl, rfl, rfl⟩
      case measure => simp [intOf] <;> omega
    · obtain rfl : i = l.length := by omega
      have hY := HY0.out
      rw [List.take_of_length_le (Nat.le_refl _)] at hY
      subst hY
      go_wp2
      go_ret
      exact ⟨_, _, rfl, H.ow _, H.below⟩
def relS2 (a b : List UInt8) (w : World) (v5 v6 : Value) (wr : World) : Prop := ∃ (i : Nat) (A : Option Addr) (cp : Nat) (cur : List UInt8), v6 = .int .i64 (i : Int) ∧ i ≤ a.length ∧ v5 = .slice A cur.length cp ∧ Hid (cur = List.zipWith (· ^^^ ·) (a.take i) (b.take i)) ∧ SH Nil w wr [.row B8 (.slice A cur.length cp) cur]
set_option maxHeartbeats 1600000 in
set_option maxRecDepth 100000 in
theorem sum_any (va vb : Value) (a b : List UInt8) (w : World) (ha : RB w va a) (hb : RB w vb b) (hab : a.length = b.length) (hl : a.length ≤ 1000000) :
    Calls Try.prog 80 #[va, vb] w fun e w' => ∃ A cp, e = .returned (.slice A (List.zipWith (· ^^^ ·) a b).length cp) ∧ OB w' w.heap.size (.slice A (List.zipWith (· ^^^ ·) a b).length cp) (List.zipWith (· ^^^ ·) a b) ∧ Below w.heap.size w w' := by
  have H := SH.start Nil w
  obtain ⟨A0, c0, rfl, -⟩ := id ha.len
  obtain ⟨B0, d0, rfl, -⟩ := id hb.len
  have hcell : ∀ k, k < a.length → ∃ ad ad2, A0 = some ad ∧ B0 = some ad2 ∧ w.cell? (ad.add k) = some (.int .u8 ((a.getD k 0).toNat : Int)) ∧ w.cell? (ad2.add k) = some (.int .u8 ((b.getD k 0).toNat : Int)) := fun k hk => by
    obtain ⟨ad, rfl, h⟩ := RB.byte ha (by omega)
    obtain ⟨ad2, rfl, h2⟩ := RB.byte hb (by omega)
    exact ⟨ad, ad2, rfl, rfl, h k hk, h2 k (by omega)⟩
  have HC := Lib.hid hcell
  have HAB := Lib.hid hab
  have hbl : (b.length : Int) = (a.length : Int) := by omega
  clear hcell ha hb hab
  go_enter Try.func80, Try.ntmps80
  go_wp2_with (first
    | ((with_reducible refine gDst 7 ?_); refine aEmpty sB H rfl rfl ?_; clear H; intro b7 w7 H))
  go_loopw [5, 6] (fun v5 v6 wr => relS2 a b w v5 v6 wr) (fun _ v _ => a.length - (intOf v).toNat)
  case atStart => exact ⟨0, _, _, [], rfl, by omega, rfl, by simp [Hid], H⟩
  case round =>
    obtain ⟨i, A, cp, cur, rfl, hi, rfl, HY0, HS⟩ := hrel
    clear H
    have H := HS
    clear HS
    by_cases hir : i < a.length
    · have hii : (i : Int) < (a.length : Int) := by omega
      obtain ⟨ad, ad2, rfl, rfl, hcl, hcl2⟩ := HC.out i hir
      have hs : List.zipWith (· ^^^ ·) (a.take (i + 1)) (b.take (i + 1)) = List.zipWith (· ^^^ ·) (a.take i) (b.take i) ++ [a.getD i 0 ^^^ b.getD i 0] := by
        rw [take_getD' a i hir, take_getD' b i (by rw [← HAB.out]; exact hir), List.zipWith_append (by rw [List.length_take, List.length_take, HAB.out])]; rfl
      have hln : cur.length ≤ 1000000 := by rw [HY0.out, List.length_zipWith, List.length_take]; omega
      rw [← HY0.out] at hs
      have hx := xor8 (a.getD i 0) (b.getD i 0)
      generalize a.getD i 0 = x at *
      generalize b.getD i 0 = y at *
      generalize x ^^^ y = z at *
      have HSS := Lib.hid hs
      clear hs
      have hc := cell_below H.below hcl
      have hc2 := cell_below H.below hcl2
      have hib : (i : Int) < (b.length : Int) := by omega
      go_wp2
      refine startA (fun i => i == 11) (by kernel_rfl) (fun wS hS => ?_)
      replace H := H.drew
      rw [← hS] at H
      have HH := H.hold
      have HS0 : Below wS.heap.size wS wS := Below.refl _ _
      replace hc := cellS hS hc
      replace hc2 := cellS hS hc2
      clear hS
      refine takeP 0 rfl (by kernel_rfl) (by kernel_rfl) (by kernel_rfl) (by kernel_rfl) (fun _ _ _ h => h) rfl (v := ?_) ?_ ?_
      rotate_left
      · intro w'; go_simp; (try with_reducible rfl)
      (try simp only [Act.put, List.setIfInBounds_toArray, List.set_cons_zero, List.set_cons_succ])
      refine takeP 1 rfl (by kernel_rfl) (by kernel_rfl) (by kernel_rfl) (by kernel_rfl) (fun _ _ _ h => h) rfl (v := ?_) ?_ ?_
      rotate_left
      · intro w'; go_simp; (try with_reducible rfl)
      (try simp only [Act.put, List.setIfInBounds_toArray, List.set_cons_zero, List.set_cons_succ])
      refine takeP 2 rfl (by kernel_rfl) (by kernel_rfl) (by kernel_rfl) (by kernel_rfl) (fun _ _ _ h => h) rfl (v := ?_) ?_ ?_
      rotate_left
      · intro w'; go_simp; (try with_reducible rfl)
      (try simp only [Act.put, List.setIfInBounds_toArray, List.set_cons_zero, List.set_cons_succ])
      refine takeP 3 rfl (by kernel_rfl) (by kernel_rfl) (by kernel_rfl) (by kernel_rfl) (fun _ _ _ h => h) rfl (v := ?_) ?_ ?_
      rotate_left
      · intro w'; go_simp; (try with_reducible rfl)
      (try simp only [Act.put, List.setIfInBounds_toArray, List.set_cons_zero, List.set_cons_succ])
      refine takeL 4 HS0 rfl (by kernel_rfl) (by kernel_rfl) (by kernel_rfl) (by kernel_rfl) (by kernel_rfl) (fun _ _ _ h => h) rfl (v := ?_) ?_ ?_
      rotate_left
      · intro w' hw'; first | (refine Eq.trans (xLoad1 (HH.below hw') _ rfl rfl (by first | exact (rfl : _ = some (Value.int _ _)) | exact (rfl : _ = some (Value.slice _ _ _)) | exact (rfl : _ = some (Value.bool _)) | exact (rfl : _ = some (Value.string _)) | exact (rfl : _ = some (Value.pointer _)) | rfl | (simp [List.getElem?_append]; done))) ?_; with_reducible rfl) | (refine Eq.trans (xLoadC _ rfl rfl (cell_below hw' (by assumption))) ?_; with_reducible rfl)
      (try simp only [Act.put, List.setIfInBounds_toArray, List.set_cons_zero, List.set_cons_succ])
      refine takeP 5 rfl (by kernel_rfl) (by kernel_rfl) (by kernel_rfl) (by kernel_rfl) (fun _ _ _ h => h) rfl (v := ?_) ?_ ?_
      rotate_left
      · intro w'; go_simp; (try with_reducible rfl)
      (try simp only [Act.put, List.setIfInBounds_toArray, List.set_cons_zero, List.set_cons_succ])
      refine takeP 6 rfl (by kernel_rfl) (by kernel_rfl) (by kernel_rfl) (by kernel_rfl) (fun _ _ _ h => h) rfl (v := ?_) ?_ ?_
      rotate_left
      · intro w'; go_simp; (try with_reducible rfl)
      (try simp only [Act.put, List.setIfInBounds_toArray, List.set_cons_zero, List.set_cons_succ])
      refine takeP 7 rfl (by kernel_rfl) (by kernel_rfl) (by kernel_rfl) (by kernel_rfl) (fun _ _ _ h => h) rfl (v := ?_) ?_ ?_
      rotate_left
      · intro w'; go_simp; (try with_reducible rfl)
      (try simp only [Act.put, List.setIfInBounds_toArray, List.set_cons_zero, List.set_cons_succ])
      refine takeL 8 HS0 rfl (by kernel_rfl) (by kernel_rfl) (by kernel_rfl) (by kernel_rfl) (by kernel_rfl) (fun _ _ _ h => h) rfl (v := ?_) ?_ ?_
      rotate_left
      · intro w' hw'; first | (refine Eq.trans (xLoad1 (HH.below hw') _ rfl rfl (by first | exact (rfl : _ = some (Value.int _ _)) | exact (rfl : _ = some (Value.slice _ _ _)) | exact (rfl : _ = some (Value.bool _)) | exact (rfl : _ = some (Value.string _)) | exact (rfl : _ = some (Value.pointer _)) | rfl | (simp [List.getElem?_append]; done))) ?_; with_reducible rfl) | (refine Eq.trans (xLoadC _ rfl rfl (cell_below hw' (by assumption))) ?_; with_reducible rfl)
      (try simp only [Act.put, List.setIfInBounds_toArray, List.set_cons_zero, List.set_cons_succ])
      refine takeP 9 rfl (by kernel_rfl) (by kernel_rfl) (by kernel_rfl) (by kernel_rfl) (fun _ _ _ h => h) rfl (v := ?_) ?_ ?_
      rotate_left
      · intro w'; go_simp; (try with_reducible rfl)
      (try simp only [Act.put, List.setIfInBounds_toArray, List.set_cons_zero, List.set_cons_succ])
      refine stepL 10 rfl (by kernel_rfl) rfl (fun K hK => ?_)
      (go_simp; refine hK.out _ _ (fun _ _ => below_two HS0 HS0.size (alloc_belowAt _ _)) ?_; clear K hK)
      (try simp only [Act.put, List.setIfInBounds_toArray, List.set_cons_zero, List.set_cons_succ])
      refine stepL 11 rfl (by kernel_rfl) rfl (fun K hK => ?_)
      (refine oAppB1 _ H _ _ rfl rfl rfl (by first | omega | (have := HCL.out; omega)) ?_; clear H; intro v' w' ys HY H; (try dsimp only at H); obtain ⟨A', c', rfl, hc'⟩ := (H.hold.rr v').len; refine hK.out _ _ (fun h => by cases h) ?_; clear K hK HS0)
      (try simp only [Act.put, List.setIfInBounds_toArray, List.set_cons_zero, List.set_cons_succ])
      refine takeP 12 rfl (by kernel_rfl) (by kernel_rfl) (by kernel_rfl) (by kernel_rfl) (fun _ _ _ h => h) rfl (v := ?_) ?_ ?_
      rotate_left
      · intro w'; go_simp; (try with_reducible rfl)
      (try simp only [Act.put, List.setIfInBounds_toArray, List.set_cons_zero, List.set_cons_succ])
      refine doneL (by kernel_rfl) ?_
      go_wp2
      go_roundw
      case rel => first | exact ⟨i + 1, _, _, _, by go_num, by omega, rfl, HY.out.trans HSS.out.symm, H⟩ | exact ⟨_, ⟨i + 1, _, _, _, by go_num, by omega, rfl, HY.out.trans HSS.out.symm, H⟩, rfl⟩ | exact ⟨_, _, ⟨i + 1, _, _, _, by go_num, by omega, rfl, HY.out.trans HSS.out.symm, H⟩, rfl, rfl⟩ | exact ⟨_, _, _, ⟨i + 1, _, _, _, by go_num, by omega, rfl, HY.out.trans HSS.out.symm, H⟩, rfl, rfl, rfl⟩ | exact ⟨_, _, _, _, ⟨i + 1, _, _, _, by go_num, by omega, rfl, HY.out.trans HSS.out.symm, H⟩, rfl, rfl, rfl, rfl⟩ | exact ⟨_, _, _, _, _, ⟨i + 1, _, _, _, by go_num, by omega, rfl, HY.out.trans HSS.out.symm, H⟩, rfl, rfl, rfl, rfl, rfl⟩
      case measure => simp [intOf] <;> omega
    · obtain rfl : i = a.length := by omega
      have hY := HY0.out
      rw [List.take_of_length_le (Nat.le_refl _), List.take_of_length_le (by rw [HAB.out]; exact Nat.le_refl _)] at hY
      subst hY
      go_wp2
      go_ret
      exact ⟨_, _, rfl, H.ow _, H.below⟩
end Go.Proofs.Ytfnneneaalaagaa

namespace Go.Proofs.Ytfnneneaalaagaa
set_option maxRecDepth 100000
open Go.RowKit
set_option linter.unusedSimpArgs false
set_option linter.unusedVariables false

def SVT : Ty SVV := ⟨22, 1, 24, .slice none 0 0, fun s => [s.val], fun _ => rfl, fun s u hu => by rw [List.mem_singleton.mp hu]; rfl, by decide, by decide⟩
def sV : ST Try.prog SVV := ⟨SVT, 80, .slice none 0 0, Try.underlying80, by kernel_rfl, rfl⟩
theorem SVT_all (ss : List SVV) : SVT.all ss = ss.map SVV.val := by
  unfold Ty.all
  induction ss with
  | nil => rfl
  | cons s ss ih => rw [List.flatMap_cons, ih]; rfl
/-- Nothing. -/
abbrev sv0 : SVV := (none, 0, 0)
section
variable {ops : Array Oper} {rest : List Oper} {o : Oper} {a : Act} {Q : Exit → Act → World → Prop} {F : Nat → Prop} {w0 w : World} {L : List Own} {K : Act → World → Prop}
theorem aAppS1 (H : SH F w0 w L) (s x : Operand) (ho : o.op = .call { callee := .builtin .append, args := #[s, x], argTypes := #[80, 80] }) {A B : Option Addr} {len cap n c : Nat} {xs : List SVV} {put : Value → List SVV → List Own} (hs : a.eval s = .slice A len cap) (hx : a.eval x = .slice (some ⟨w.heap.size, 0, none⟩) 1 1) [hr : HasR L (.slice A len cap) SVV SVT xs put] (hl : xs.length ≤ 1000000)
    (hw : Region.wanted o (yielded ops a.tmps) = true) (h : ∀ v1 w1 zs, Hid (zs = xs ++ [(B, n, c)]) → SH F w0 w1 (put v1 zs) → wpList Try.prog ops Q rest (a.put o.dst v1) w1) : wpList Try.prog ops Q (o :: rest) a (w.alloc (.cells #[.slice B n c] 22)) :=
  aAppLit sV [(B, n, c)] #[.slice B n c] rfl (by simp) 1 rfl H s x ho hs hx (by show (xs.length + 1) * 24 ≤ _; omega) hw h
theorem oAppS1 (H : SH F w0 w L) (s x : Operand) (ho : o.op = .call { callee := .builtin .append, args := #[s, x], argTypes := #[80, 80] }) {A B : Option Addr} {len cap n c : Nat} {xs : List SVV} {put : Value → List SVV → List Own} (hs : a.eval s = .slice A len cap) (hx : a.eval x = .slice (some ⟨w.heap.size, 0, none⟩) 1 1) [hr : HasR L (.slice A len cap) SVV SVT xs put] (hl : xs.length ≤ 1000000)
    (h : ∀ v1 w1 zs, Hid (zs = xs ++ [(B, n, c)]) → SH F w0 w1 (put v1 zs) → K (a.put o.dst v1) w1) : o.wp Try.prog a (w.alloc (.cells #[.slice B n c] 22)) K Q :=
  oAppL sV [(B, n, c)] #[.slice B n c] rfl (by simp) 1 rfl H s x ho hs hx (by show (xs.length + 1) * 24 ≤ _; omega) h
end
/-- A row of the call's own, as the block that it begins. -/
theorem SH.toBlkG {α : Type} {T : Ty α} {F : Nat → Prop} {w0 w : World} {L : List Own} {A : Option Addr} {len cp : Nat} {xs : List α} (h : SH F w0 w (.row T (.slice A len cp) xs :: L)) (hp : 0 < xs.length) :
    ∃ g tail, A = some ⟨g, 0, none⟩ ∧ len = xs.length ∧ xs.length ≤ cp ∧ SH F w0 w (.blk g T.id (T.all xs ++ tail) :: L) := by
  have ho := h.or0 0 rfl
  rcases ho.2 with ⟨h1, h2⟩ | ⟨g, cap, cur, hv, _, hg, h1, h2, h3, h4⟩
  · omega
  · obtain ⟨rfl, rfl, rfl⟩ : A = some ⟨g, 0, none⟩ ∧ len = xs.length ∧ cp = cap := by injection hv with e1 e2 e3; exact ⟨e1, e2, e3⟩
    have e : cur.toList = T.all xs ++ cur.toList.drop (T.all xs).length := by
      have h5 : cur.toList.take (T.all xs).length = T.all xs := by rw [Ty.all_length]; simpa using h4
      have h6 := (List.take_append_drop (T.all xs).length cur.toList).symm
      rw [h5] at h6
      exact h6
    refine ⟨g, cur.toList.drop (T.all xs).length, rfl, rfl, h1, h.change 0 rfl (Chg.refl _ w) _ ?_ (fun b hb => .inl ?_)⟩
    · show w.heap[g]? = _
      rw [hg, ← e]
    · show Value.ownBlock _ = some b
      rw [show b = g from hb]; rfl

/-- v reads as xs in all worlds that came of w by changes of block g alone. -/
def KBw (g : Nat) (w : World) (v : Value) (xs : List UInt8) : Prop := ∀ w', Chg (fun k => k = g) w w' → RB w' v xs
theorem KBw.rb {g : Nat} {w : World} {v : Value} {xs : List UInt8} (h : KBw g w v xs) : RB w v xs := h w (Chg.refl _ w)
theorem Chg.trans2 {F : Nat → Prop} {a b c : World} (h : Chg F a b) (k : Chg F b c) : Chg F a c := ⟨k.os.trans h.os, k.tape.trans h.tape, k.output.trans h.output, Nat.le_trans h.size k.size, fun i hi hn => (k.block i (Nat.lt_of_lt_of_le hi h.size) hn).trans (h.block i hi hn)⟩
theorem KBw.step {g : Nat} {w w' : World} {v : Value} {xs : List UInt8} (h : KBw g w v xs) (hc : Chg (fun k => k = g) w w') : KBw g w' v xs := fun w2 h2 => h w2 (hc.trans2 h2)
theorem KBw.below {g : Nat} {w w' : World} {v : Value} {xs : List UInt8} (h : KBw g w v xs) (hb : Below w.heap.size w w') : KBw g w' v xs := h.step (chg_below hb _)
theorem KBw.old {g : Nat} {w : World} {v : Value} {xs : List UInt8} (h : RB w v xs) (hg : w.heap.size ≤ g) : KBw g w v xs := fun w' hc =>
  h.below ⟨hc.os, hc.tape, hc.output, hc.size, fun k hk => hc.block k hk (fun e => by have : k = g := e; omega)⟩
theorem SH.kb {F : Nat → Prop} {w0 w : World} {L : List Own} {v : Value} {xs : List UInt8} {g : Nat} {t : TypeId} {cs : List Value} {put : List Value → List Own} (h : SH F w0 w (.row B8 v xs :: L)) [hb : HasB L g t cs put] : KBw g w v xs := fun w' hc => by
  obtain ⟨i, h1, _⟩ := hb.ix
  have hap := (List.pairwise_cons.1 h.apart).1 _ (List.mem_of_getElem? h1)
  have ho : (Own.row B8 v xs).holds w := h.holds _ (List.mem_cons_self ..)
  exact OR.reads (base := 0) (T := B8) (Own.keep (Own.row B8 v xs) w w' ho hc.size fun b hf => hc.block b (Own.lt (Own.row B8 v xs) w b ho hf) fun e => hap b hf e)

/-- The slices of ss read as the rows of N, whatever becomes of block g. -/
structure LR (g : Nat) (w : World) (ss : List SVV) (N : List (List UInt8)) : Prop where
  len : ss.length = N.length
  at_ : ∀ i, i < N.length → KBw g w (ss.getD i sv0).val (N.getD i [])
theorem LR.step {g : Nat} {w w' : World} {ss : List SVV} {N : List (List UInt8)} (h : LR g w ss N) (hc : Chg (fun k => k = g) w w') : LR g w' ss N := ⟨h.len, fun i hi => (h.at_ i hi).step hc⟩
theorem LR.below {g : Nat} {w w' : World} {ss : List SVV} {N : List (List UInt8)} (h : LR g w ss N) (hb : Below w.heap.size w w') : LR g w' ss N := h.step (chg_below hb _)
theorem LR.set {g : Nat} {w : World} {ss : List SVV} {N : List (List UInt8)} (h : LR g w ss N) (i : Nat) (s : SVV) (x : List UInt8) (hk : KBw g w s.val x) : LR g w (ss.set i s) (N.set i x) := by
  refine ⟨by rw [List.length_set, List.length_set]; exact h.len, fun j hj => ?_⟩
  rw [List.length_set] at hj
  have hl := h.len
  by_cases e : i = j
  · subst e
    rw [List.getD_eq_getElem?_getD, List.getElem?_set_self (by omega), List.getD_eq_getElem?_getD, List.getElem?_set_self hj]
    exact hk
  · rw [List.getD_eq_getElem?_getD, List.getElem?_set_ne e, List.getD_eq_getElem?_getD (l := N.set i x), List.getElem?_set_ne e, ← List.getD_eq_getElem?_getD, ← List.getD_eq_getElem?_getD]
    exact h.at_ j hj
theorem svcell (ss : List SVV) (tail : List Value) (i : Nat) (hi : i < ss.length) : (ss.map SVV.val ++ tail)[i]? = some (ss.getD i sv0).val := by
  rw [List.getElem?_append_left (by rw [List.length_map]; exact hi), List.getElem?_map, List.getD_eq_getElem?_getD, List.getElem?_eq_getElem hi]; rfl
theorem svset (ss : List SVV) (tail : List Value) (i : Nat) (s : SVV) (hi : i < ss.length) : (ss.map SVV.val ++ tail).set i s.val = (ss.set i s).map SVV.val ++ tail := by
  rw [List.set_append_left _ _ (by rw [List.length_map]; exact hi), List.map_set]
/-- The slices of ss read as the rows of N. -/
def LB (w : World) (ss : List SVV) (N : List (List UInt8)) : Prop := ss.length = N.length ∧ ∀ i, i < N.length → RB w (ss.getD i sv0).val (N.getD i [])
theorem LB.below {w w' : World} {ss : List SVV} {N : List (List UInt8)} (h : LB w ss N) (hb : Below w.heap.size w w') : LB w' ss N := ⟨h.1, fun i hi => (h.2 i hi).below hb⟩
theorem getD_snoc {α : Type} (l : List α) (x d : α) (i : Nat) : (l ++ [x]).getD i d = if i < l.length then l.getD i d else if i = l.length then x else d := by
  by_cases e : i < l.length
  · rw [if_pos e, List.getD_eq_getElem?_getD, List.getElem?_append_left e, ← List.getD_eq_getElem?_getD]
  · rw [if_neg e, List.getD_eq_getElem?_getD, List.getElem?_append_right (by omega)]
    by_cases e2 : i = l.length
    · rw [if_pos e2, e2, Nat.sub_self]; rfl
    · rw [if_neg e2, List.getElem?_eq_none (by simp; omega)]; rfl
theorem LB.snoc {w : World} {ss : List SVV} {N : List (List UInt8)} (h : LB w ss N) (s : SVV) (x : List UInt8) (hk : RB w s.val x) : LB w (ss ++ [s]) (N ++ [x]) := by
  refine ⟨by rw [List.length_append, List.length_append, h.1]; rfl, fun i hi => ?_⟩
  rw [List.length_append, List.length_singleton] at hi
  have hl := h.1
  rw [getD_snoc, getD_snoc]
  by_cases e : i < N.length
  · rw [if_pos e, if_pos (by omega)]; exact h.2 i e
  · rw [if_neg e, if_neg (by omega), if_pos (by omega), if_pos (by omega)]; exact hk
/-- What slice s stands in. -/
def svF (s : SVV) (x : List UInt8) (k : Nat) : Prop := 0 < x.length ∧ ∃ ad : Addr, s.1 = some ad ∧ ad.block = k
/-- All rows that slices read, as one thing. -/
def Own.rdAll (ss : List SVV) (N : List (List UInt8)) : Own where
  foot k := ∃ i, i < N.length ∧ svF (ss.getD i sv0) (N.getD i []) k
  holds w := LB w ss N
  lt w k h e := by
    obtain ⟨i, hi, hp, ad, he, rfl⟩ := e
    have := h.2 i hi
    refine Own.lt (Own.rd B8 (ss.getD i sv0).val (N.getD i [])) w _ this ⟨hp, ad, (ss.getD i sv0).2.1, (ss.getD i sv0).2.2, ?_, rfl⟩
    rw [SVV.val, he]
  keep w w' h hs hk := ⟨h.1, fun i hi => Own.keep (Own.rd B8 (ss.getD i sv0).val (N.getD i [])) w w' (h.2 i hi) hs fun b ⟨hp, ad, n, c, he, hb⟩ => hk b ⟨i, hi, hp, ad, by unfold SVV.val at he; injection he, hb⟩⟩
theorem SH.rdNil {F : Nat → Prop} {w0 w : World} {L : List Own} (h : SH F w0 w L) : SH F w0 w (.rdAll [] [] :: L) :=
  h.push (Below.refl _ _) _ ⟨rfl, fun i hi => by simp at hi⟩ (fun b ⟨i, hi, _⟩ => by simp at hi)
/-- A row of the call's own joins them. -/
theorem SH.rdSnoc {F : Nat → Prop} {w0 w : World} {L : List Own} {A : Option Addr} {n c : Nat} {x : List UInt8} {ss : List SVV} {N : List (List UInt8)} (h : SH F w0 w (.row B8 (.slice A n c) x :: .rdAll ss N :: L)) : SH F w0 w (.rdAll (ss ++ [(A, n, c)]) (N ++ [x]) :: L) := by
  have ho : OR B8 w 0 (.slice A n c) x := h.or0 0 rfl
  have hl : ss.length = N.length := (h.at_ 1 rfl).1
  refine h.merge _ (fun h1 h2 => LB.snoc h2 _ x (OR.reads h1)) fun b ⟨i, hi, hf⟩ => ?_
  rw [List.length_append, List.length_singleton] at hi
  rw [getD_snoc, getD_snoc] at hf
  by_cases e : i < N.length
  · rw [if_pos e, if_pos (by omega)] at hf
    exact .inr ⟨i, e, hf⟩
  · rw [if_neg e, if_neg (by omega), if_pos (by omega), if_pos (by omega)] at hf
    obtain ⟨hp, ad, he, hb⟩ := hf
    left
    obtain ⟨g, cap, hv, _, _⟩ := ho.form hp
    show (Value.slice A n c).ownBlock = some b
    injection hv with e1 e2 e3
    rw [e1] at he ⊢
    injection he with he
    rw [← hb, ← he]
    rfl
end Go.Proofs.Ytfnneneaalaagaa

namespace Go.Proofs.Ytfnneneaalaagaa
set_option maxRecDepth 100000
open Go.RowKit
set_option linter.unusedSimpArgs false
set_option linter.unusedVariables false

/-- The rows of a matrix, as slices. -/
def rowSS (ad : Addr) (c cp r : Nat) : List SVV := (List.range r).map fun i => (some (ad.add (i * c)), c, cp - i * c)
theorem rowSS_len (ad : Addr) (c cp r : Nat) : (rowSS ad c cp r).length = r := by simp [rowSS]
theorem rowSS_succ (ad : Addr) (c cp i : Nat) : rowSS ad c cp (i + 1) = rowSS ad c cp i ++ [(some (ad.add (i * c)), c, cp - i * c)] := by rw [rowSS, List.range_succ, List.map_append]; rfl
theorem rowSS_get (ad : Addr) (c cp r i : Nat) (h : i < r) : (rowSS ad c cp r).getD i sv0 = (some (ad.add (i * c)), c, cp - i * c) := by
  rw [List.getD_eq_getElem?_getD, rowSS, List.getElem?_map, List.getElem?_range h]; rfl
theorem rowsL_get (l : List UInt8) (r c i : Nat) (h : i < r) : (rowsL l r c).getD i [] = rowq l c i := by
  rw [List.getD_eq_getElem?_getD, rowsL, List.getElem?_map, List.getElem?_range h]; rfl
theorem rowSS_LB {w : World} {ad : Addr} {l : List UInt8} {r c cp : Nat} (hv : RB w (.slice (some ad) l.length cp) l) (hl : l.length = r * c) (hcp : l.length ≤ cp) (hc : 1 ≤ c) : LB w (rowSS ad c cp r) (rowsL l r c) := by
  have hn : (rowsL l r c).length = r := by simp [rowsL]
  refine ⟨by rw [rowSS_len, hn], fun i hi => ?_⟩
  rw [hn] at hi
  rw [rowSS_get _ _ _ _ _ hi, rowsL_get _ _ _ _ hi]
  have hq := row_in (c := c) hi
  rw [← hl] at hq
  obtain ⟨A2, c2, e, h1, h2, h3⟩ := hv.rowq hq (by omega)
  rw [rowq_len hq] at e h1
  obtain ⟨rfl, rfl⟩ : some (ad.add (i * c)) = A2 ∧ c = c2 := by injection e with e1 e2 e3; exact ⟨e1, e3⟩
  rw [Nat.add_mul, Nat.one_mul] at hq
  exact ⟨_, cp - i * c, by rw [rowq_len (by rw [Nat.add_mul, Nat.one_mul]; exact hq)]; rfl, by rw [rowq_len (by rw [Nat.add_mul, Nat.one_mul]; exact hq)]; omega, h2, h3⟩
/-- A cut with two numbers. -/
theorem cut2 (ad : Addr) (n cp p q : Nat) (hpq : p < q) (hq : q ≤ n) (hn : n ≤ cp) (W : World) :
    (Instr.slice 22 (.slice (some ad) n cp) (some (.int .i64 (p : Int))) (some (.int .i64 (q : Int))) none).run Try.prog W = .ok (.slice (some (ad.add p)) (q - p) (cp - p)) W := by
  obtain ⟨i0, hi, hz⟩ := Option.map_eq_some_iff.1 Try.info_u8
  simp only [Prod.mk.injEq] at hz
  obtain ⟨_, hsz, _⟩ := hz
  have hel : Try.prog.elem 22 = 5 := by simp [Program.elem, Try.underlying22]
  rw [run_slice_lh W 22 (some ad) n cp (by rw [hel]; exact Try.underlying22) .i64 .i64 (p : Int) (q : Int) (by omega) (by omega) (by omega), hel]
  simp [sizeOf, typeInfo, hi, hsz, sliced, Result.andThen]
  omega
def relR (r c b1 : Nat) (n : Nat) (ad : Addr) (cp0 : Nat) (w : World) (v3 v4 : Value) (wr : World) : Prop := ∃ (i : Nat) (A : Option Addr) (cp : Nat) (ss : List SVV), v4 = .int .i64 (i : Int) ∧ i ≤ r ∧ v3 = .slice A ss.length cp ∧ Hid (ss = rowSS ad c cp0 i) ∧ SH Nil w wr [.row SVT (.slice A ss.length cp) ss, .blk b1 38 (rxT.enc ((r : Int), (c : Int), some ad, n, cp0))]
set_option maxHeartbeats 1600000 in
set_option maxRecDepth 100000 in
theorem rowsOf_any (r c n : Nat) (ad : Addr) (cp0 : Nat) (w : World) (hl : n = r * c) (hcp : n ≤ cp0) (hr : r ≤ 64) (hc : c ≤ 64) (hc1 : 1 ≤ c) :
    Calls Try.prog 62 #[.agg (rxT.enc ((r : Int), (c : Int), some ad, n, cp0)).toArray] w fun e w' => ∃ A cp, e = .returned (.slice A r cp) ∧ OR SVT w' w.heap.size (.slice A r cp) (rowSS ad c cp0 r) ∧ Below w.heap.size w w' := by
  have H := SH.start Nil w
  have hll : n ≤ 64 * 64 := by rw [hl]; exact Nat.mul_le_mul hr hc
  have hcut := fun (i : Nat) (hi : i < r) => cut2 ad n cp0 (i * c) ((i + 1) * c) (by rw [Nat.add_mul, Nat.one_mul]; omega) (by rw [hl]; exact row_in hi) hcp
  have HCUT := Lib.hid hcut
  have hbd : ∀ i, i < r → (i + 1) * c ≤ 64 * 64 := fun i hi => Nat.mul_le_mul (by omega) hc
  have HBD := Lib.hid hbd
  have hri : (r : Int) ≤ 64 := by omega
  have hci : (c : Int) ≤ 64 := by omega
  clear hcut hbd hl
  go_enter Try.func62, Try.ntmps62
  go_wp2_with (first
    | ((with_reducible refine gDst 1 ?_); refine aBox H _ rfl rfl rfl ?_; clear H; intro b1 w1 H)
    | ((with_reducible refine gDst 5 ?_); refine aEmpty sV H rfl rfl ?_; clear H; intro b5 w5 H)
    | ((with_reducible refine gLoad ?_); first | (refine aLoad1 H _ rfl rfl (by first | exact (rfl : _ = some (Value.int _ _)) | exact (rfl : _ = some (Value.slice _ _ _)) | exact (rfl : _ = some (Value.bool _)) | exact (rfl : _ = some (Value.string _)) | exact (rfl : _ = some (Value.pointer _)) | rfl | (simp [List.getElem?_append]; done)) rfl ?_) | (refine aLoadC _ rfl rfl (by assumption) rfl ?_))
    | (at_builtin; refine aAppS1 H _ _ rfl rfl rfl (by first | omega | (have := HCL.out; omega)) rfl ?_; clear H; intro v' w' ys HY H; (try dsimp only at H); obtain ⟨A', c', rfl, hc'⟩ := (H.hold.rr v').len))
  go_loopw [3, 4] (fun v3 v4 wr => relR r c b1 n ad cp0 w v3 v4 wr) (fun _ v _ => r - (intOf v).toNat)
  case atStart => exact ⟨0, _, _, [], rfl, by omega, rfl, rfl, H⟩
  case round =>
    obtain ⟨i, A, cp, ss, rfl, hi, rfl, HSS, HS⟩ := hrel
    clear H
    have H := HS
    clear HS
    have hsb : ss.length ≤ 64 := by rw [HSS.out, rowSS_len]; omega
    by_cases hir : i < r
    · have hii : (i : Int) < (r : Int) := by omega
      have hk := HCUT.out i hir
      have hq : (i + 1) * c - i * c = c := by rw [Nat.add_mul, Nat.one_mul, Nat.add_sub_cancel_left]
      have hb := HBD.out i hir
      rw [hq] at hk
      have hst := rowSS_succ ad c cp0 i
      obtain ⟨p, hp⟩ : ∃ p, p = i * c := ⟨_, rfl⟩
      obtain ⟨q, hqq⟩ : ∃ q, q = (i + 1) * c := ⟨_, rfl⟩
      have hpI : (i : Int) * (c : Int) = (p : Int) := by rw [hp]; push_cast; rfl
      have hqI : ((i : Int) + 1) * (c : Int) = (q : Int) := by rw [hqq]; push_cast; rfl
      have hpq : p + c = q := by rw [hp, hqq, Nat.add_mul, Nat.one_mul]
      rw [← hp] at hk hst
      rw [← hqq] at hk hb
      rw [← HSS.out] at hst
      have hpb : (p : Int) ≤ 5000 := by omega
      have hqb : (q : Int) ≤ 5000 := by omega
      have HST := Lib.hid hst
      clear hp hqq hq hst
      go_wp2_with (first
        | ((with_reducible refine gDst 1 ?_); refine aBox H _ rfl rfl rfl ?_; clear H; intro b1 w1 H)
        | ((with_reducible refine gDst 5 ?_); refine aEmpty sV H rfl rfl ?_; clear H; intro b5 w5 H)
        | ((with_reducible refine gLoad ?_); first | (refine aLoad1 H _ rfl rfl (by first | exact (rfl : _ = some (Value.int _ _)) | exact (rfl : _ = some (Value.slice _ _ _)) | exact (rfl : _ = some (Value.bool _)) | exact (rfl : _ = some (Value.string _)) | exact (rfl : _ = some (Value.pointer _)) | rfl | (simp [List.getElem?_append]; done)) rfl ?_) | (refine aLoadC _ rfl rfl (by assumption) rfl ?_))
        | (at_builtin; refine aAppS1 H _ _ rfl rfl rfl (by first | omega | (have := HCL.out; omega)) rfl ?_; clear H; intro v' w' ys HY H; (try dsimp only at H); obtain ⟨A', c', rfl, hc'⟩ := (H.hold.rr v').len))
      go_roundw
      case rel => first | exact ⟨i + 1, _, _, _, by go_num, by omega, rfl, HY.out.trans HST.out.symm, H⟩ | exact ⟨_, ⟨i + 1, _, _, _, by go_num, by omega, rfl, HY.out.trans HST.out.symm, H⟩, rfl⟩ | exact ⟨_, _, ⟨i + 1, _, _, _, by go_num, by omega, rfl, HY.out.trans HST.out.symm, H⟩, rfl, rfl⟩ | exact ⟨_, _, _, ⟨i + 1, _, _, _, by go_num, by omega, rfl, HY.out.trans HST.out.symm, H⟩, rfl, rfl, rfl⟩ | exact ⟨_, _, _, _, ⟨i + 1, _, _, _, by go_num, by omega, rfl, HY.out.trans HST.out.symm, H⟩, rfl, rfl, rfl, rfl⟩ | exact ⟨_, _, _, _, _, ⟨i + 1, _, _, _, by go_num, by omega, rfl, HY.out.trans HST.out.symm, H⟩, rfl, rfl, rfl, rfl, rfl⟩
      case measure => simp [intOf] <;> omega
    · obtain rfl : i = r := by omega
      have hS := HSS.out
      have hsl : ss.length = i := by rw [hS, rowSS_len]
      have hR := H.ow (.slice A ss.length cp)
      rw [hsl] at hR
      have HR := Lib.hid hR
      have HSL := Lib.hid hsl
      clear hR hsl hS
      go_wp2_with (first
        | ((with_reducible refine gDst 1 ?_); refine aBox H _ rfl rfl rfl ?_; clear H; intro b1 w1 H)
        | ((with_reducible refine gDst 5 ?_); refine aEmpty sV H rfl rfl ?_; clear H; intro b5 w5 H)
        | ((with_reducible refine gLoad ?_); first | (refine aLoad1 H _ rfl rfl (by first | exact (rfl : _ = some (Value.int _ _)) | exact (rfl : _ = some (Value.slice _ _ _)) | exact (rfl : _ = some (Value.bool _)) | exact (rfl : _ = some (Value.string _)) | exact (rfl : _ = some (Value.pointer _)) | rfl | (simp [List.getElem?_append]; done)) rfl ?_) | (refine aLoadC _ rfl rfl (by assumption) rfl ?_))
        | (at_builtin; refine aAppS1 H _ _ rfl rfl rfl (by first | omega | (have := HCL.out; omega)) rfl ?_; clear H; intro v' w' ys HY H; (try dsimp only at H); obtain ⟨A', c', rfl, hc'⟩ := (H.hold.rr v').len))
      go_ret
      exact ⟨A, cp, by rw [← HSL.out]; rfl, by rw [← HSS.out]; exact HR.out, H.below⟩
end Go.Proofs.Ytfnneneaalaagaa

namespace Go.Proofs.Ytfnneneaalaagaa
set_option maxRecDepth 100000
open Go.RowKit
set_option linter.unusedSimpArgs false
set_option linter.unusedVariables false

theorem LR.row {g : Nat} {w : World} {ss : List SVV} {N : List (List UInt8)} {r wd i : Nat} (h : LR g w ss N) (hM : Mat N r wd) (hi : i < r) (hw : 0 < wd) :
    ∃ (ad : Addr) (c : Nat), (ss.getD i sv0) = (some ad, wd, c) ∧ KBw g w (.slice (some ad) wd c) (N.getD i []) ∧ ∀ k, k < wd → w.cell? (ad.add k) = some (.int .u8 ((fe N i k).toNat : Int)) := by
  have hk := h.at_ i (by rw [hM.len]; exact hi)
  have hl := hM.get hi
  obtain ⟨⟨A, n, c⟩, hs⟩ : ∃ s, s = ss.getD i sv0 := ⟨_, rfl⟩
  rw [← hs] at hk
  obtain ⟨A', c', e, _⟩ := hk.rb.len
  obtain ⟨rfl, rfl, rfl⟩ : A = A' ∧ n = (N.getD i []).length ∧ c = c' := by injection e with e1 e2 e3; exact ⟨e1, e2, e3⟩
  obtain ⟨ad, rfl, hc⟩ := hk.rb.byte (by omega)
  refine ⟨ad, c, by rw [← hs, hl], by rw [← hl]; exact hk, fun k hkk => ?_⟩
  exact hc k (by rw [hl]; exact hkk)
/-- The last place so far, from n on; -1: none. -/
def pkI (col : List UInt8) (n k : Nat) : Int := if lzK col k < 0 then -1 else (n : Int) + lzK col k
theorem pkI_succ (col : List UInt8) (n k : Nat) : pkI col n (k + 1) = if col.getD k 0 = 0 then pkI col n k else ((n + k : Nat) : Int) := by
  rw [pkI, lzK]
  by_cases e : col.getD k 0 = 0
  · rw [if_pos e, if_pos e, pkI]
  · rw [if_neg e, if_neg e, if_neg (by omega)]; push_cast; rfl
theorem pkI_range (col : List UInt8) (n k : Nat) : pkI col n k = -1 ∨ ((n : Int) ≤ pkI col n k ∧ pkI col n k < (n : Int) + k) := by
  rw [pkI]
  split
  · exact .inl rfl
  · right
    rcases lzK_spec col k with ⟨h1, _⟩ | ⟨h1, h2, _⟩ <;> omega
theorem KBw.cell {g : Nat} {w : World} {ad : Addr} {n c : Nat} {xs : List UInt8} (h : KBw g w (.slice (some ad) n c) xs) (k : Nat) (hk : k < xs.length) : w.cell? (ad.add k) = some (.int .u8 ((xs.getD k 0).toNat : Int)) := by
  obtain ⟨ad', e, hc⟩ := h.rb.byte (by omega)
  injection e with e
  subst e
  exact hc k hk
theorem zip_add (a b : List UInt8) (z : UInt8) : List.zipWith (· ^^^ ·) a (b.map fun x => fmul x z) = List.zipWith (addF z) a b := by
  rw [List.zipWith_map_right]; rfl
theorem two_sets {M : List (List UInt8)} {r wd n p c : Nat} (h : Mat M r wd) (hn : n < r) (hp : p < r) : (M.set p (M.getD n [])).set n ((M.getD p []).map fun x => fmul x (finv0 ((M.getD p []).getD c 0))) = scaleM (swapM M n p) n c := by
  have e : (swapM M n p).getD n [] = M.getD p [] := by
    rw [swapM]
    by_cases e : n = p
    · subst e; rw [List.set_set, set_getD]
    · rw [getD_set_ne' _ _ _ _ (Ne.symm e), getD_set_self _ _ _ (by rw [h.len]; exact hn)]
  rw [scaleM, e, swapM]
  by_cases e2 : n = p
  · subst e2; rw [List.set_set, List.set_set, List.set_set]
  · rw [List.set_comm _ _ (Ne.symm e2 : p ≠ n), List.set_comm (l := M.set n _) _ _ (Ne.symm e2 : p ≠ n), List.set_set]
def relPk (r c n : Nat) (col : List UInt8) (wq : World) (v9 v10 : Value) (wr : World) : Prop := ∃ k : Nat, n + k ≤ r ∧ v10 = .int .i64 ((n + k : Nat) : Int) ∧ v9 = .int .i64 (pkI col n k) ∧ wr = wq
def relCl (M : List (List UInt8)) (r wd cols g : Nat) (tail : List Value) (w : World) (v7 v8 : Value) (wr : World) : Prop := ∃ (k : Nat) (ss : List SVV), v8 = .int .i64 (k : Int) ∧ k ≤ cols ∧ v7 = .int .i64 ((runG lzI r wd M k).2 : Int) ∧ LR g wr ss (runG lzI r wd M k).1 ∧ SH Nil w wr [.blk g 22 (ss.map SVV.val ++ tail)]
def relEl (N2 : List (List UInt8)) (n c r g : Nat) (tail : List Value) (w : World) (v14 : Value) (wr : World) : Prop := ∃ (i : Nat) (ss : List SVV), v14 = .int .i64 (i : Int) ∧ i ≤ r ∧ LR g wr ss (elimK N2 n c i) ∧ SH Nil w wr [.blk g 22 (ss.map SVV.val ++ tail)]
set_option maxHeartbeats 3200000 in
set_option maxRecDepth 100000 in
theorem cleared_any (vr : Value) (ss0 : List SVV) (M : List (List UInt8)) (r wd cols : Nat) (w : World) (hR : RR SVT w vr ss0) (hL : LB w ss0 M) (hM : Mat M r wd) (hr1 : 1 ≤ r) (hr : r ≤ 64) (hwd1 : 1 ≤ wd) (hwd : wd ≤ 64) (hcols : cols ≤ wd) :
    Calls Try.prog 63 #[vr, .int .i64 (cols : Int)] w fun e w' => ∃ A cp ss, e = .returned (.tuple #[.slice A r cp, .int .i64 ((runG lzI r wd M cols).2 : Int)]) ∧ LB w' ss (runG lzI r wd M cols).1 ∧ ss.length = r ∧ RR SVT w' (.slice A r cp) ss ∧ Below w.heap.size w w' := by
  have H := SH.start Nil w
  obtain ⟨A0, c0, rfl, -⟩ := id hR.len
  have hss0 : ss0.length = r := by rw [hL.1, hM.len]
  have HM := Lib.hid hM
  have HR := Lib.hid hR
  have HL := Lib.hid hL
  have hri : (r : Int) ≤ 64 := by omega
  have hwi : (wd : Int) ≤ 64 := by omega
  have hci : (cols : Int) ≤ 64 := by omega
  have hsb : ss0.length ≤ 64 := by omega
  have HS0 := Lib.hid hss0
  clear hR hL hM hss0
  go_enter Try.func63, Try.ntmps63
  go_wp2_with (first
    | ((with_reducible refine gDst 15 ?_); refine aEmpty sV H rfl rfl ?_; clear H; intro b15 w15 H)
    | (at_builtin; refine aAppend sV H _ _ rfl rfl rfl (HR.out.below H.below) (by show (0 + ss0.length) * 24 ≤ _; omega) rfl ?_; clear H; intro v' w' ys HY H; (try dsimp only at H); obtain ⟨A', c', rfl, hc'⟩ := (H.hold.rr v').len))
  have hY := HY.out
  rw [List.nil_append] at hY
  subst hY
  obtain ⟨g, tail, rfl, -, hc2, H2⟩ := H.toBlkG (by have := HS0.out; omega)
  rw [show sV.all ys = ys.map SVV.val from SVT_all ys, show sV.id = 22 from rfl] at H2
  have hg : w.heap.size ≤ g := by
    rcases H2.foot _ (List.mem_cons_self ..) g rfl with h | h
    · exact h.elim
    · exact h
  have hL1 : LR g w' ys M := ⟨HL.out.1, fun i hi => (KBw.old (HL.out.2 i hi) hg).below H2.below⟩
  clear H HY
  have H := H2
  clear H2
  have hlen := HS0.out
  rw [hlen]
  clear HR
  go_loopw [7, 8] (fun v7 v8 wr => relCl M r wd cols g tail w v7 v8 wr) (fun _ v _ => cols - (intOf v).toNat)
  case atStart => exact ⟨0, _, rfl, by omega, rfl, hL1, H⟩
  case round =>
    obtain ⟨k, ss, rfl, hk, rfl, hLR, HS⟩ := hrel
    clear H hL1
    have H := HS
    clear HS
    by_cases hkc : k < cols
    · have hki : decide ((k : Int) < (cols : Int)) = true := by simp; omega
      obtain ⟨hMk, hnk, -⟩ := runG_mat picks_lz HM.out k (by omega)
      have hstep : runG lzI r wd M (k + 1) = stepG lzI r wd (runG lzI r wd M k) k := rfl
      have hlast : ¬ (runG lzI r wd M k).2 < r → runG lzI r wd M cols = runG lzI r wd M k := fun hn => by
        have : ∀ d, runG lzI r wd M (k + d) = runG lzI r wd M k := fun d => by
          induction d with
          | zero => rfl
          | succ d ih => rw [← Nat.add_assoc, runG, ih, stepG, if_neg hn]
        have := this (cols - k)
        rwa [Nat.add_sub_cancel' hk] at this
      obtain ⟨s, hs⟩ : ∃ s, s = runG lzI r wd M k := ⟨_, rfl⟩
      rw [← hs] at hMk hnk hstep hlast hLR ⊢
      obtain ⟨N, n⟩ := s
      simp only at hMk hnk hstep hlast hLR ⊢
      have hsl : ss.length = r := by rw [hLR.len, hMk.len]
      by_cases hnr : n < r
      · have hni : decide ((n : Int) < (r : Int)) = true := by simp; omega
        rw [stepG, if_pos hnr] at hstep
        simp only at hstep
        obtain ⟨col, hcol⟩ : ∃ col, col = (colL N.flatten r wd k).drop n := ⟨_, rfl⟩
        have hcl : col.length = r - n := by rw [hcol, List.length_drop, colL_len]
        have hcat : ∀ i, n + i < r → col.getD i 0 = fe N (n + i) k := fun i hi => by rw [hcol]; exact col_drop hMk (by omega) hi
        rw [← hcol] at hstep
        clear hs hlast hcol
        go_wp2
        go_loopw [9, 10] (fun v9 v10 wr' => relPk r k n col wr v9 v10 wr') (fun _ v _ => r - (intOf v).toNat)
        case atStart => exact ⟨0, by omega, by simp, rfl, rfl⟩
        case round =>
          obtain ⟨q, hq, rfl, rfl, rfl⟩ := hrel
          by_cases hqr : n + q < r
          · have hqi : decide (((n + q : Nat) : Int) < (r : Int)) = true := by simp; omega
            obtain ⟨ad, c1, hsi, hkb, hcc⟩ := hLR.row hMk hqr (by omega)
            have hcell := ((H.hold.va (b := g)).cell (n + q)).trans (svcell ss tail (n + q) (by omega))
            rw [hsi] at hcell
            change _ = some (Value.slice (some ad) wd c1) at hcell
            have hx := hcc k (by omega)
            rw [← hcat q hqr] at hx
            have hps := pkI_succ col n q
            have hxe := u8_eqI (col.getD q 0) 0
            obtain ⟨z, hz⟩ : ∃ z, z = n + q := ⟨_, rfl⟩
            rw [← hz] at hqi hcell hps ⊢
            have hzi : (z : Int) < (r : Int) := by omega
            have hzb : (z : Int) ≤ 64 := by omega
            have hki2 : (k : Int) < (wd : Int) := by omega
            have HZ := Lib.hid hz
            have HPS := Lib.hid hps
            have HSTEP := Lib.hid hstep
            have HLR := Lib.hid hLR
            have HCAT := Lib.hid hcat
            clear hps hsi hkb hcc hz hstep hLR hcat hsl hcl
            generalize col.getD q 0 = x at *
            by_cases hx0 : x = 0
            · subst hx0
              have e0 : ((0 : UInt8).toNat : Int) = 0 := rfl
              rw [e0] at hx
              go_wp2
              go_roundw
              case rel => first | exact ⟨q + 1, by have := HZ.out; omega, by have := HZ.out; rw [← Nat.add_assoc, ← HZ.out]; go_num, by have := HPS.out; rw [if_pos rfl] at this; rw [this], rfl⟩ | exact ⟨_, ⟨q + 1, by have := HZ.out; omega, by have := HZ.out; rw [← Nat.add_assoc, ← HZ.out]; go_num, by have := HPS.out; rw [if_pos rfl] at this; rw [this], rfl⟩, rfl⟩ | exact ⟨_, _, ⟨q + 1, by have := HZ.out; omega, by have := HZ.out; rw [← Nat.add_assoc, ← HZ.out]; go_num, by have := HPS.out; rw [if_pos rfl] at this; rw [this], rfl⟩, rfl, rfl⟩ | exact ⟨_, _, _, ⟨q + 1, by have := HZ.out; omega, by have := HZ.out; rw [← Nat.add_assoc, ← HZ.out]; go_num, by have := HPS.out; rw [if_pos rfl] at this; rw [this], rfl⟩, rfl, rfl, rfl⟩ | exact ⟨_, _, _, _, ⟨q + 1, by have := HZ.out; omega, by have := HZ.out; rw [← Nat.add_assoc, ← HZ.out]; go_num, by have := HPS.out; rw [if_pos rfl] at this; rw [this], rfl⟩, rfl, rfl, rfl, rfl⟩ | exact ⟨_, _, _, _, _, ⟨q + 1, by have := HZ.out; omega, by have := HZ.out; rw [← Nat.add_assoc, ← HZ.out]; go_num, by have := HPS.out; rw [if_pos rfl] at this; rw [this], rfl⟩, rfl, rfl, rfl, rfl, rfl⟩
              case measure => simp [intOf] <;> omega
            · have hne : ((x.toNat : Int) == 0) = false := (u8_ne0 hx0).1
              have hne2 : ((x.toNat : Int) != 0) = true := (u8_ne0 hx0).2
              go_wp2
              go_roundw
              case rel => first | exact ⟨q + 1, by have := HZ.out; omega, by have := HZ.out; rw [← Nat.add_assoc, ← HZ.out]; go_num, by have := HPS.out; rw [if_neg hx0] at this; rw [this], rfl⟩ | exact ⟨_, ⟨q + 1, by have := HZ.out; omega, by have := HZ.out; rw [← Nat.add_assoc, ← HZ.out]; go_num, by have := HPS.out; rw [if_neg hx0] at this; rw [this], rfl⟩, rfl⟩ | exact ⟨_, _, ⟨q + 1, by have := HZ.out; omega, by have := HZ.out; rw [← Nat.add_assoc, ← HZ.out]; go_num, by have := HPS.out; rw [if_neg hx0] at this; rw [this], rfl⟩, rfl, rfl⟩ | exact ⟨_, _, _, ⟨q + 1, by have := HZ.out; omega, by have := HZ.out; rw [← Nat.add_assoc, ← HZ.out]; go_num, by have := HPS.out; rw [if_neg hx0] at this; rw [this], rfl⟩, rfl, rfl, rfl⟩ | exact ⟨_, _, _, _, ⟨q + 1, by have := HZ.out; omega, by have := HZ.out; rw [← Nat.add_assoc, ← HZ.out]; go_num, by have := HPS.out; rw [if_neg hx0] at this; rw [this], rfl⟩, rfl, rfl, rfl, rfl⟩ | exact ⟨_, _, _, _, _, ⟨q + 1, by have := HZ.out; omega, by have := HZ.out; rw [← Nat.add_assoc, ← HZ.out]; go_num, by have := HPS.out; rw [if_neg hx0] at this; rw [this], rfl⟩, rfl, rfl, rfl, rfl, rfl⟩
              case measure => simp [intOf] <;> omega
          · have hqn : n + q = r := by omega
            have hqi : decide (((n + q : Nat) : Int) < (r : Int)) = false := by simp; omega
            have hqe : q = col.length := by omega
            have hpk : pkI col n q = if lzI col < 0 then -1 else (n : Int) + lzI col := by rw [hqe]; rfl
            rw [hpk]
            rcases lzK_spec col col.length with ⟨h1, -⟩ | ⟨h1, h2, h3⟩
            · rw [show lzK col col.length = lzI col from rfl] at h1
              rw [if_pos h1]
              rw [if_pos h1] at hstep
              have HSTEP := Lib.hid hstep
              clear h1 hstep hcat hpk
              go_wp2
              go_roundw
              case rel => first | exact ⟨k + 1, _, by go_num, by omega, by rw [HSTEP.out], by rw [HSTEP.out]; exact hLR, H⟩ | exact ⟨_, ⟨k + 1, _, by go_num, by omega, by rw [HSTEP.out], by rw [HSTEP.out]; exact hLR, H⟩, rfl⟩ | exact ⟨_, _, ⟨k + 1, _, by go_num, by omega, by rw [HSTEP.out], by rw [HSTEP.out]; exact hLR, H⟩, rfl, rfl⟩ | exact ⟨_, _, _, ⟨k + 1, _, by go_num, by omega, by rw [HSTEP.out], by rw [HSTEP.out]; exact hLR, H⟩, rfl, rfl, rfl⟩ | exact ⟨_, _, _, _, ⟨k + 1, _, by go_num, by omega, by rw [HSTEP.out], by rw [HSTEP.out]; exact hLR, H⟩, rfl, rfl, rfl, rfl⟩ | exact ⟨_, _, _, _, _, ⟨k + 1, _, by go_num, by omega, by rw [HSTEP.out], by rw [HSTEP.out]; exact hLR, H⟩, rfl, rfl, rfl, rfl, rfl⟩
              case measure => simp [intOf] <;> omega
            · rw [show lzK col col.length = lzI col from rfl] at h1 h2 h3
              rw [if_neg (by omega)]
              rw [if_neg (by omega)] at hstep
              obtain ⟨p, hp⟩ : ∃ p, p = n + (lzI col).toNat := ⟨_, rfl⟩
              rw [← hp] at hstep
              have hpI : (n : Int) + lzI col = (p : Int) := by omega
              rw [hpI]
              have hpr : p < r := by omega
              have hnp : n ≤ p := by omega
              clear hpI hpk hcat h1 h2 h3 hp hqi hqr hqn
              obtain ⟨adp, cp, hsp, hkp, -⟩ := hLR.row hMk hpr (by omega)
              obtain ⟨adn, cn, hsn, hkn, -⟩ := hLR.row hMk hnr (by omega)
              have hcp := ((H.hold.va (b := g)).cell p).trans (svcell ss tail p (by omega))
              have hcn := ((H.hold.va (b := g)).cell n).trans (svcell ss tail n (by omega))
              rw [hsp] at hcp
              rw [hsn] at hcn
              change _ = some (Value.slice (some adp) wd cp) at hcp
              change _ = some (Value.slice (some adn) wd cn) at hcn
              have hlp := hMk.get hpr
              have hxk : (N.getD p []).getD k 0 = (N.getD p []).getD k 0 := rfl
              have hN2 := two_sets (c := k) hMk hnr hpr
              obtain ⟨y, hy⟩ : ∃ y, y = (N.getD p []).getD k 0 := ⟨_, rfl⟩
              rw [← hy] at hN2
              have cI : ∀ W, ∃ E, Calls Try.prog 57 #[.int .u8 (y.toNat : Int)] W fun e w' => e = .returned (.tuple #[.int .u8 ((finv0 y).toNat : Int), .int .i64 E]) ∧ Below W.heap.size W w' := fun W => ⟨_, by rw [finv0_eq]; exact RInverse_any y W⟩
              have cS := fun (W : World) (h : KBw g W (.slice (some adp) wd cp) (N.getD p [])) => scaled_any (.slice (some adp) wd cp) (N.getD p []) (finv0 y) W h.rb (by omega)
              generalize finv0 y = yf at *
              have hM2 : Mat (scaleM (swapM N n p) n k) r wd := (hMk.swap hnr hpr).scale hnr k
              rw [← hN2] at hstep hM2
              obtain ⟨N2, hN2'⟩ : ∃ N2, N2 = (N.set p (N.getD n [])).set n ((N.getD p []).map fun x => fmul x yf) := ⟨_, rfl⟩
              rw [← hN2'] at hstep hM2
              clear hN2
              have hL1 := hLR.set p (ss.getD n sv0) _ (by rw [hsn]; exact hkn)
              rw [hsn] at hL1
              obtain ⟨x2, hx2⟩ : ∃ x2, x2 = (N.getD p []).map fun x => fmul x yf := ⟨_, rfl⟩
              have hxl : x2.length = wd := by rw [hx2, List.length_map, hlp]
              rw [← hx2] at hN2' cS
              generalize N.getD p [] = xp at *
              have HSTEP := Lib.hid hstep
              have hni2 : (n : Int) < (r : Int) := by omega
              have hpi2 : (p : Int) < (r : Int) := by omega
              have hpn2 : ¬ ((p : Int) < 0) := by omega
              have hki2 : (k : Int) < (wd : Int) := by omega
              have hpb : (p : Int) ≤ 64 := by omega
              have hnb : (n : Int) ≤ 64 := by omega
              have HL1 := Lib.hid hL1
              have HKP := Lib.hid hkp
              have HY := Lib.hid hy
              have HLP := Lib.hid hlp
              have HXL := Lib.hid hxl
              have HSL := Lib.hid hsl
              clear hstep hL1 hkp hy hlp hxl hsl hxk hkn hsp hsn hLR hx2
              go_wp2_with (first
                | ((with_reducible refine gLoad ?_); refine aLoadC _ rfl rfl (by assumption) rfl ?_)
                | ((with_reducible refine gStore ?_); refine aCellC (v := .slice (some adn) wd cn) (new := (ss.set p (some adn, wd, cn)).map SVV.val ++ tail) H _ _ rfl rfl rfl rfl rfl (by rw [List.length_append, List.length_map, HSL.out]; omega) (svset ss tail p (some adn, wd, cn) (by rw [HSL.out]; exact hpr)) rfl ?_; clear H hcp hcn; intro w1 hch H; (try dsimp only at H); replace HL1 := Lib.hid (HL1.out.step hch); replace HKP := Lib.hid (HKP.out.step hch); have hyc := HKP.out.cell k (by rw [HLP.out]; omega); rw [← HY.out] at hyc)
                | (go_at_call 57; obtain ⟨E, hE⟩ := cI w1; (with_reducible refine hE.mono ?_); rintro e w2 ⟨rfl, hb⟩; replace H := H.step hb; replace HL1 := Lib.hid (HL1.out.below hb); replace HKP := Lib.hid (HKP.out.below hb); clear hb hyc)
                | (go_at_call 79; (with_reducible refine (cS _ HKP.out).mono ?_); rintro e w3 ⟨A5, p5, rfl, ho, hb⟩; replace H := H.pushRow hb ho; replace HL1 := Lib.hid (HL1.out.below hb); clear hb ho; have HK5 := Lib.hid (H.kb (g := g)))
                | ((with_reducible refine gStore ?_); refine aCellC (v := .slice A5 x2.length p5) (new := ((ss.set p (some adn, wd, cn)).set n (A5, x2.length, p5)).map SVV.val ++ tail) H _ _ rfl rfl rfl rfl rfl (by rw [List.length_append, List.length_map, List.length_set, HSL.out]; omega) (svset (ss.set p (some adn, wd, cn)) tail n (A5, x2.length, p5) (by rw [List.length_set, HSL.out]; exact hnr)) rfl ?_; clear H; intro w4 hch H; (try dsimp only at H); replace HL1 := Lib.hid (HL1.out.step hch); replace HK5 := Lib.hid (HK5.out.step hch)))
              have hL3 := HL1.out.set n (A5, x2.length, p5) x2 HK5.out
              rw [← hN2'] at hL3
              have H5 := H.tail
              clear H HL1 HK5 HKP HY HSL hN2' cS cI
              have H := H5
              clear H5
              go_loopw [14] (fun v14 wr => relEl N2 n k r g tail w v14 wr) (fun v _ => r - (intOf v).toNat)
              case atStart => exact ⟨0, _, rfl, by omega, hL3, H⟩
              case round =>
                obtain ⟨i, ss3, rfl, hi, hLR, HS⟩ := hrel
                clear H hL3
                have H := HS
                clear HS
                by_cases hir : i < r
                · have hii : (i : Int) < (r : Int) := by omega
                  have hE := hM2.elim hnr k i hi
                  have hek : elimK N2 n k (i + 1) = _ := elimK.eq_2 N2 n k i
                  by_cases hin : i = n
                  · have hiqb : ((i : Int) != (n : Int)) = false := by simp [hin]
                    have hiqc : ((i : Int) == (n : Int)) = true := by simp [hin]
                    rw [if_pos hin] at hek
                    have HEK := Lib.hid hek
                    clear hek hin hE
                    go_wp2
                    go_roundw
                    case rel => first | exact ⟨i + 1, _, by go_num, by omega, by rw [HEK.out]; exact hLR, H⟩ | exact ⟨_, ⟨i + 1, _, by go_num, by omega, by rw [HEK.out]; exact hLR, H⟩, rfl⟩ | exact ⟨_, _, ⟨i + 1, _, by go_num, by omega, by rw [HEK.out]; exact hLR, H⟩, rfl, rfl⟩ | exact ⟨_, _, _, ⟨i + 1, _, by go_num, by omega, by rw [HEK.out]; exact hLR, H⟩, rfl, rfl, rfl⟩ | exact ⟨_, _, _, _, ⟨i + 1, _, by go_num, by omega, by rw [HEK.out]; exact hLR, H⟩, rfl, rfl, rfl, rfl⟩ | exact ⟨_, _, _, _, _, ⟨i + 1, _, by go_num, by omega, by rw [HEK.out]; exact hLR, H⟩, rfl, rfl, rfl, rfl, rfl⟩
                    case measure => simp [intOf] <;> omega
                  · have hiqb : ((i : Int) != (n : Int)) = true := by simp; omega
                    have hiqc : ((i : Int) == (n : Int)) = false := by simp; omega
                    rw [if_neg hin] at hek
                    obtain ⟨adi, ci, hsi, hki3, -⟩ := hLR.row hE hir (by omega)
                    obtain ⟨adn3, cn3, hsn, hkn3, -⟩ := hLR.row hE hnr (by omega)
                    have hsl3 : ss3.length = r := by rw [hLR.len, hE.len]
                    have hci3 := ((H.hold.va (b := g)).cell i).trans (svcell ss3 tail i (by omega))
                    have hcn3 := ((H.hold.va (b := g)).cell n).trans (svcell ss3 tail n (by omega))
                    rw [hsi] at hci3
                    rw [hsn] at hcn3
                    change _ = some (Value.slice (some adi) wd ci) at hci3
                    change _ = some (Value.slice (some adn3) wd cn3) at hcn3
                    have hli := hE.get hir
                    have hln := hE.get hnr
                    have hcz := hki3.cell k (by omega)
                    rw [← zip_add] at hek
                    generalize (elimK N2 n k i).getD i [] = xi at *
                    generalize (elimK N2 n k i).getD n [] = xn at *
                    generalize xi.getD k 0 = z at *
                    obtain ⟨xs1, hxs1⟩ : ∃ xs1, xs1 = xn.map fun x => fmul x z := ⟨_, rfl⟩
                    have hl1 : xs1.length = wd := by rw [hxs1, List.length_map, hln]
                    have cS := fun (W : World) (h : RB W (.slice (some adn3) wd cn3) xn) => scaled_any (.slice (some adn3) wd cn3) xn z W h (by omega)
                    rw [← hxs1] at cS hek
                    have cT := fun (W : World) (A6 : Option Addr) (p6 : Nat) (h : RB W (.slice (some adi) wd ci) xi) (h2 : RB W (.slice A6 xs1.length p6) xs1) => sum_any (.slice (some adi) wd ci) (.slice A6 xs1.length p6) xi xs1 W h h2 (by omega) (by omega)
                    obtain ⟨xs2, hxs2⟩ : ∃ xs2, xs2 = List.zipWith (· ^^^ ·) xi xs1 := ⟨_, rfl⟩
                    have hl2 : xs2.length = wd := by rw [hxs2, List.length_zipWith, hl1, hli]; exact Nat.min_self _
                    rw [← hxs2] at cT hek
                    have hii2 : (i : Int) ≤ 64 := by omega
                    have HEK := Lib.hid hek
                    have HSL := Lib.hid hsl3
                    have HL1 := Lib.hid hl1
                    have HL2 := Lib.hid hl2
                    have hLR2 : ∀ wS, wS = wr.drew → LR g wS ss3 (elimK N2 n k i) ∧ KBw g wS (.slice (some adi) wd ci) xi ∧ KBw g wS (.slice (some adn3) wd cn3) xn := fun wS e => by
                      subst e
                      exact ⟨hLR.step (Chg.refl _ _).drew, hki3.step (Chg.refl _ _).drew, hkn3.step (Chg.refl _ _).drew⟩
                    clear hek hxs1 hxs2 hl1 hl2 hsl3 hsi hsn hli hln hE hLR hki3 hkn3 hin
                    go_wp2
                    refine startA (fun i => i == 20) (by kernel_rfl) (fun wS hS => ?_)
                    replace H := H.drew
                    rw [← hS] at H
                    have HH := H.hold
                    have HS0 : Below wS.heap.size wS wS := Below.refl _ _
                    replace hci3 := cellS hS hci3
                    replace hcn3 := cellS hS hcn3
                    replace hcz := cellS hS hcz
                    obtain ⟨hLS, hKi, hKn⟩ := hLR2 wS hS
                    clear hS
                    refine takeP 0 rfl (by kernel_rfl) (by kernel_rfl) (by kernel_rfl) (by kernel_rfl) (fun _ _ _ h => h) rfl (v := ?_) ?_ ?_
                    rotate_left
                    · intro w'; go_simp; (try with_reducible rfl)
                    (try simp only [Act.put, List.setIfInBounds_toArray, List.set_cons_zero, List.set_cons_succ])
                    refine takeP 1 rfl (by kernel_rfl) (by kernel_rfl) (by kernel_rfl) (by kernel_rfl) (fun _ _ _ h => h) rfl (v := ?_) ?_ ?_
                    rotate_left
                    · intro w'; go_simp; (try with_reducible rfl)
                    (try simp only [Act.put, List.setIfInBounds_toArray, List.set_cons_zero, List.set_cons_succ])
                    refine takeP 2 rfl (by kernel_rfl) (by kernel_rfl) (by kernel_rfl) (by kernel_rfl) (fun _ _ _ h => h) rfl (v := ?_) ?_ ?_
                    rotate_left
                    · intro w'; go_simp; (try with_reducible rfl)
                    (try simp only [Act.put, List.setIfInBounds_toArray, List.set_cons_zero, List.set_cons_succ])
                    refine takeP 3 rfl (by kernel_rfl) (by kernel_rfl) (by kernel_rfl) (by kernel_rfl) (fun _ _ _ h => h) rfl (v := ?_) ?_ ?_
                    rotate_left
                    · intro w'; go_simp; (try with_reducible rfl)
                    (try simp only [Act.put, List.setIfInBounds_toArray, List.set_cons_zero, List.set_cons_succ])
                    refine takeP 4 rfl (by kernel_rfl) (by kernel_rfl) (by kernel_rfl) (by kernel_rfl) (fun _ _ _ h => h) rfl (v := ?_) ?_ ?_
                    rotate_left
                    · intro w'; go_simp; (try with_reducible rfl)
                    (try simp only [Act.put, List.setIfInBounds_toArray, List.set_cons_zero, List.set_cons_succ])
                    refine takeL 5 HS0 rfl (by kernel_rfl) (by kernel_rfl) (by kernel_rfl) (by kernel_rfl) (by kernel_rfl) (fun _ _ _ h => h) rfl (v := ?_) ?_ ?_
                    rotate_left
                    · intro w' hw'; first | (refine Eq.trans (xLoad1 (HH.below hw') _ rfl rfl (by first | exact (rfl : _ = some (Value.int _ _)) | exact (rfl : _ = some (Value.slice _ _ _)) | exact (rfl : _ = some (Value.bool _)) | exact (rfl : _ = some (Value.string _)) | exact (rfl : _ = some (Value.pointer _)) | rfl | (simp [List.getElem?_append]; done))) ?_; with_reducible rfl) | (refine Eq.trans (xLoadC _ rfl rfl (cell_below hw' (by assumption))) ?_; with_reducible rfl)
                    (try simp only [Act.put, List.setIfInBounds_toArray, List.set_cons_zero, List.set_cons_succ])
                    refine takeP 6 rfl (by kernel_rfl) (by kernel_rfl) (by kernel_rfl) (by kernel_rfl) (fun _ _ _ h => h) rfl (v := ?_) ?_ ?_
                    rotate_left
                    · intro w'; go_simp; (try with_reducible rfl)
                    (try simp only [Act.put, List.setIfInBounds_toArray, List.set_cons_zero, List.set_cons_succ])
                    refine takeP 7 rfl (by kernel_rfl) (by kernel_rfl) (by kernel_rfl) (by kernel_rfl) (fun _ _ _ h => h) rfl (v := ?_) ?_ ?_
                    rotate_left
                    · intro w'; go_simp; (try with_reducible rfl)
                    (try simp only [Act.put, List.setIfInBounds_toArray, List.set_cons_zero, List.set_cons_succ])
                    refine takeP 8 rfl (by kernel_rfl) (by kernel_rfl) (by kernel_rfl) (by kernel_rfl) (fun _ _ _ h => h) rfl (v := ?_) ?_ ?_
                    rotate_left
                    · intro w'; go_simp; (try with_reducible rfl)
                    (try simp only [Act.put, List.setIfInBounds_toArray, List.set_cons_zero, List.set_cons_succ])
                    refine takeL 9 HS0 rfl (by kernel_rfl) (by kernel_rfl) (by kernel_rfl) (by kernel_rfl) (by kernel_rfl) (fun _ _ _ h => h) rfl (v := ?_) ?_ ?_
                    rotate_left
                    · intro w' hw'; first | (refine Eq.trans (xLoad1 (HH.below hw') _ rfl rfl (by first | exact (rfl : _ = some (Value.int _ _)) | exact (rfl : _ = some (Value.slice _ _ _)) | exact (rfl : _ = some (Value.bool _)) | exact (rfl : _ = some (Value.string _)) | exact (rfl : _ = some (Value.pointer _)) | rfl | (simp [List.getElem?_append]; done))) ?_; with_reducible rfl) | (refine Eq.trans (xLoadC _ rfl rfl (cell_below hw' (by assumption))) ?_; with_reducible rfl)
                    (try simp only [Act.put, List.setIfInBounds_toArray, List.set_cons_zero, List.set_cons_succ])
                    refine takeP 10 rfl (by kernel_rfl) (by kernel_rfl) (by kernel_rfl) (by kernel_rfl) (fun _ _ _ h => h) rfl (v := ?_) ?_ ?_
                    rotate_left
                    · intro w'; go_simp; (try with_reducible rfl)
                    (try simp only [Act.put, List.setIfInBounds_toArray, List.set_cons_zero, List.set_cons_succ])
                    refine takeP 11 rfl (by kernel_rfl) (by kernel_rfl) (by kernel_rfl) (by kernel_rfl) (fun _ _ _ h => h) rfl (v := ?_) ?_ ?_
                    rotate_left
                    · intro w'; go_simp; (try with_reducible rfl)
                    (try simp only [Act.put, List.setIfInBounds_toArray, List.set_cons_zero, List.set_cons_succ])
                    refine takeP 12 rfl (by kernel_rfl) (by kernel_rfl) (by kernel_rfl) (by kernel_rfl) (fun _ _ _ h => h) rfl (v := ?_) ?_ ?_
                    rotate_left
                    · intro w'; go_simp; (try with_reducible rfl)
                    (try simp only [Act.put, List.setIfInBounds_toArray, List.set_cons_zero, List.set_cons_succ])
                    refine takeL 13 HS0 rfl (by kernel_rfl) (by kernel_rfl) (by kernel_rfl) (by kernel_rfl) (by kernel_rfl) (fun _ _ _ h => h) rfl (v := ?_) ?_ ?_
                    rotate_left
                    · intro w' hw'; first | (refine Eq.trans (xLoad1 (HH.below hw') _ rfl rfl (by first | exact (rfl : _ = some (Value.int _ _)) | exact (rfl : _ = some (Value.slice _ _ _)) | exact (rfl : _ = some (Value.bool _)) | exact (rfl : _ = some (Value.string _)) | exact (rfl : _ = some (Value.pointer _)) | rfl | (simp [List.getElem?_append]; done))) ?_; with_reducible rfl) | (refine Eq.trans (xLoadC _ rfl rfl (cell_below hw' (by assumption))) ?_; with_reducible rfl)
                    (try simp only [Act.put, List.setIfInBounds_toArray, List.set_cons_zero, List.set_cons_succ])
                    refine takeP 14 rfl (by kernel_rfl) (by kernel_rfl) (by kernel_rfl) (by kernel_rfl) (fun _ _ _ h => h) rfl (v := ?_) ?_ ?_
                    rotate_left
                    · intro w'; go_simp; (try with_reducible rfl)
                    (try simp only [Act.put, List.setIfInBounds_toArray, List.set_cons_zero, List.set_cons_succ])
                    refine takeP 15 rfl (by kernel_rfl) (by kernel_rfl) (by kernel_rfl) (by kernel_rfl) (fun _ _ _ h => h) rfl (v := ?_) ?_ ?_
                    rotate_left
                    · intro w'; go_simp; (try with_reducible rfl)
                    (try simp only [Act.put, List.setIfInBounds_toArray, List.set_cons_zero, List.set_cons_succ])
                    refine takeL 16 HS0 rfl (by kernel_rfl) (by kernel_rfl) (by kernel_rfl) (by kernel_rfl) (by kernel_rfl) (fun _ _ _ h => h) rfl (v := ?_) ?_ ?_
                    rotate_left
                    · intro w' hw'; first | (refine Eq.trans (xLoad1 (HH.below hw') _ rfl rfl (by first | exact (rfl : _ = some (Value.int _ _)) | exact (rfl : _ = some (Value.slice _ _ _)) | exact (rfl : _ = some (Value.bool _)) | exact (rfl : _ = some (Value.string _)) | exact (rfl : _ = some (Value.pointer _)) | rfl | (simp [List.getElem?_append]; done))) ?_; with_reducible rfl) | (refine Eq.trans (xLoadC _ rfl rfl (cell_below hw' (by assumption))) ?_; with_reducible rfl)
                    (try simp only [Act.put, List.setIfInBounds_toArray, List.set_cons_zero, List.set_cons_succ])
                    refine stepL 17 rfl (by kernel_rfl) rfl (fun K hK => ?_)
                    (go_simp; (with_reducible refine (cS _ (hKn.below HS0).rb).mono ?_); rintro e w' ⟨A6, p6, rfl, ho, hb⟩; replace H := H.pushRow hb ho; clear ho; replace HS0 := below_two HS0 HS0.size hb; clear hb; refine hK.out _ _ (fun _ _ => HS0) ?_; clear K hK)
                    (try simp only [Act.put, List.setIfInBounds_toArray, List.set_cons_zero, List.set_cons_succ])
                    refine stepL 18 rfl (by kernel_rfl) rfl (fun K hK => ?_)
                    (go_simp; (with_reducible refine (cT _ _ _ (hKi.below HS0).rb (H.hold.rd _)).mono ?_); rintro e w' ⟨A7, p7, rfl, ho, hb⟩; replace H := H.pushRow hb ho; clear ho; replace HS0 := below_two HS0 HS0.size hb; clear hb; refine hK.out _ _ (fun _ _ => HS0) ?_; clear K hK)
                    (try simp only [Act.put, List.setIfInBounds_toArray, List.set_cons_zero, List.set_cons_succ])
                    refine takeP 19 rfl (by kernel_rfl) (by kernel_rfl) (by kernel_rfl) (by kernel_rfl) (fun _ _ _ h => h) rfl (v := ?_) ?_ ?_
                    rotate_left
                    · intro w'; go_simp; (try with_reducible rfl)
                    (try simp only [Act.put, List.setIfInBounds_toArray, List.set_cons_zero, List.set_cons_succ])
                    refine stepL 20 rfl (by kernel_rfl) rfl (fun K hK => ?_)
                    (have hk7 := H.kb (g := g); have hL7 := hLS.below HS0; refine oCellC (v := .slice A7 xs2.length p7) (new := (ss3.set i (A7, xs2.length, p7)).map SVV.val ++ tail) H _ _ rfl rfl rfl rfl rfl (by rw [List.length_append, List.length_map, HSL.out]; omega) (svset ss3 tail i (A7, xs2.length, p7) (by rw [HSL.out]; exact hir)) ?_; clear H; intro w7 hch H; (try dsimp only at H); have hL8 := (hL7.set i (A7, xs2.length, p7) xs2 hk7).step hch; refine hK.out _ _ (fun h => by cases h) ?_; clear K hK HS0)
                    (try simp only [Act.put, List.setIfInBounds_toArray, List.set_cons_zero, List.set_cons_succ])
                    refine doneL (by kernel_rfl) ?_
                    go_wp2
                    go_roundw
                    case rel => first | exact ⟨i + 1, _, by go_num, by omega, by rw [HEK.out]; exact hL8, H.tail.tail⟩ | exact ⟨_, ⟨i + 1, _, by go_num, by omega, by rw [HEK.out]; exact hL8, H.tail.tail⟩, rfl⟩ | exact ⟨_, _, ⟨i + 1, _, by go_num, by omega, by rw [HEK.out]; exact hL8, H.tail.tail⟩, rfl, rfl⟩ | exact ⟨_, _, _, ⟨i + 1, _, by go_num, by omega, by rw [HEK.out]; exact hL8, H.tail.tail⟩, rfl, rfl, rfl⟩ | exact ⟨_, _, _, _, ⟨i + 1, _, by go_num, by omega, by rw [HEK.out]; exact hL8, H.tail.tail⟩, rfl, rfl, rfl, rfl⟩ | exact ⟨_, _, _, _, _, ⟨i + 1, _, by go_num, by omega, by rw [HEK.out]; exact hL8, H.tail.tail⟩, rfl, rfl, rfl, rfl, rfl⟩
                    case measure => simp [intOf] <;> omega
                · obtain rfl : i = r := by omega
                  go_wp2
                  go_roundw
                  case rel => first | exact ⟨k + 1, _, by go_num, by omega, by rw [HSTEP.out]; go_num, by rw [HSTEP.out]; exact hLR, H⟩ | exact ⟨_, ⟨k + 1, _, by go_num, by omega, by rw [HSTEP.out]; go_num, by rw [HSTEP.out]; exact hLR, H⟩, rfl⟩ | exact ⟨_, _, ⟨k + 1, _, by go_num, by omega, by rw [HSTEP.out]; go_num, by rw [HSTEP.out]; exact hLR, H⟩, rfl, rfl⟩ | exact ⟨_, _, _, ⟨k + 1, _, by go_num, by omega, by rw [HSTEP.out]; go_num, by rw [HSTEP.out]; exact hLR, H⟩, rfl, rfl, rfl⟩ | exact ⟨_, _, _, _, ⟨k + 1, _, by go_num, by omega, by rw [HSTEP.out]; go_num, by rw [HSTEP.out]; exact hLR, H⟩, rfl, rfl, rfl, rfl⟩ | exact ⟨_, _, _, _, _, ⟨k + 1, _, by go_num, by omega, by rw [HSTEP.out]; go_num, by rw [HSTEP.out]; exact hLR, H⟩, rfl, rfl, rfl, rfl, rfl⟩
                  case measure => simp [intOf] <;> omega
      · have hni : decide ((n : Int) < (r : Int)) = false := by simp; omega
        have hst := hlast hnr
        have HST := Lib.hid hst
        have hLB : LB wr ss N := ⟨hLR.len, fun i hi => (hLR.at_ i hi).rb⟩
        have hRR : RR SVT wr (.slice (some ⟨g, 0, none⟩) r c') ss := by
          refine ⟨some ⟨g, 0, none⟩, c', by rw [hsl], by omega, by omega, fun _ => ⟨_, rfl, fun j u hj => ?_⟩⟩
          rw [addr_add, Nat.zero_add, (H.hold.va (b := g)).cell, List.getElem?_append_left (by rw [List.length_map]; rw [SVT_all] at hj; have := (List.getElem?_eq_some_iff.1 hj).1; simpa using this)]
          rw [SVT_all] at hj
          exact hj
        have HSL := Lib.hid hsl
        clear hst hlast hstep hs hLR hsl
        go_wp2
        go_ret2
        exact ⟨_, _, ss, by rw [HST.out]; rfl, by rw [HST.out]; exact hLB, HSL.out, hRR, H.below⟩
    · obtain rfl : k = cols := by omega
      have hki : decide ((k : Int) < (k : Int)) = false := by simp
      obtain ⟨hMk, hnk, -⟩ := runG_mat picks_lz HM.out k (by omega)
      have hsl : ss.length = r := by rw [hLR.len, hMk.len]
      have hLB : LB wr ss (runG lzI r wd M k).1 := ⟨hLR.len, fun i hi => (hLR.at_ i hi).rb⟩
      have hRR : RR SVT wr (.slice (some ⟨g, 0, none⟩) r c') ss := by
        refine ⟨some ⟨g, 0, none⟩, c', by rw [hsl], by omega, by omega, fun _ => ⟨_, rfl, fun j u hj => ?_⟩⟩
        rw [addr_add, Nat.zero_add, (H.hold.va (b := g)).cell, List.getElem?_append_left (by rw [List.length_map]; rw [SVT_all] at hj; have := (List.getElem?_eq_some_iff.1 hj).1; simpa using this)]
        rw [SVT_all] at hj
        exact hj
      have HSL := Lib.hid hsl
      clear hLR hsl hMk hnk
      go_wp2
      go_ret2
      exact ⟨_, _, ss, rfl, hLB, HSL.out, hRR, H.below⟩
end Go.Proofs.Ytfnneneaalaagaa

namespace Go.Proofs.Ytfnneneaalaagaa
set_option maxRecDepth 100000
open Go.RowKit
set_option linter.unusedSimpArgs false
set_option linter.unusedVariables false

/-- A matrix with the unit at its side. -/
def invF (l : List UInt8) (n i j : Nat) : UInt8 := if j < n then l.getD (i * n + j) 0 else unitF i (j - n)
theorem rdCell {w : World} {ad : Addr} {n cp : Nat} {l : List UInt8} (h : RB w (.slice (some ad) n cp) l) (k : Nat) (hk : k < l.length) : w.cell? (ad.add k) = some (.int .u8 ((l.getD k 0).toNat : Int)) := by
  obtain ⟨ad', e, hc⟩ := h.byte (by omega)
  injection e with e
  subst e
  exact hc k hk
set_option maxHeartbeats 1600000 in
set_option maxRecDepth 100000 in
theorem Inverse1_any (l : List UInt8) (n i j bn bm : Nat) (A : Option Addr) (cp : Nat) (w : World)
    (RO : HOLD [.blk bn 3 [.int .i64 (n : Int)], .blk bm 32 (mxT.enc ((n : Int), (n : Int), A, l.length, cp))] w)
    (hv : RB w (.slice A l.length cp) l) (hl : l.length = n * n) (hcp : l.length ≤ cp) (hn : n ≤ 32) (hi : i < n) (hj : j < n + n) :
    Calls Try.prog 59 #[.int .i64 (i : Int), .int .i64 (j : Int), .pointer (some ⟨bn, 0, none⟩), .pointer (some ⟨bm, 0, none⟩)] w fun e w' => e = .returned (.int .u8 ((invF l n i j).toNat : Int)) ∧ Below w.heap.size w w' := by
  have H := SH.start Nil w
  have hnn : l.length ≤ 32 * 32 := by rw [hl]; exact Nat.mul_le_mul hn hn
  by_cases hjn : j < n
  · have hji : (j : Int) < (n : Int) := by omega
    have hin := row_in (c := n) hi
    rw [← hl] at hin
    have hq : i * n + j < l.length := by rw [Nat.add_mul, Nat.one_mul] at hin; omega
    obtain ⟨ad, rfl, -⟩ := hv.byte (by omega)
    have hc := rdCell hv _ hq
    rw [← addr_add2] at hc
    have e : invF l n i j = l.getD (i * n + j) 0 := if_pos hjn
    rw [e]
    have cR := fun W => row_any (n : Int) n i ad l.length cp W (by omega) hin hcp (by omega)
    generalize l.getD (i * n + j) 0 = x at *
    have HC := Lib.hid hc
    clear hc hv hl hcp hnn hin hq e hjn hi hj
    go_enter Try.func59, Try.ntmps59
    go_wp2_with (first
      | ((with_reducible refine gLoad ?_); first | (refine aLoad1 H _ rfl rfl (by first | exact (rfl : _ = some (Value.int _ _)) | exact (rfl : _ = some (Value.slice _ _ _)) | exact (rfl : _ = some (Value.bool _)) | exact (rfl : _ = some (Value.string _)) | exact (rfl : _ = some (Value.pointer _)) | rfl | (simp [List.getElem?_append]; done)) rfl ?_) | (refine aLoadR1 RO H _ rfl rfl (by first | exact (rfl : _ = some (Value.int _ _)) | exact (rfl : _ = some (Value.slice _ _ _)) | exact (rfl : _ = some (Value.bool _)) | exact (rfl : _ = some (Value.string _)) | exact (rfl : _ = some (Value.pointer _)) | rfl | (simp [List.getElem?_append]; done)) rfl ?_) | (refine aLoadC _ rfl rfl (by assumption) rfl ?_) | (refine aLoad H _ rfl rfl (by first | exact part_all (by first | rfl | simp []) | (simp only [List.drop_succ_cons, List.drop_zero, List.take_succ_cons, List.take_zero]; rfl) | (simp [List.drop_append, List.take_append]; rfl)) (by first | rfl | simp []) rfl ?_) | (refine aLoadR RO H _ rfl rfl (by first | exact part_all (by first | rfl | simp []) | (simp only [List.drop_succ_cons, List.drop_zero, List.take_succ_cons, List.take_zero]; rfl) | (simp [List.drop_append, List.take_append]; rfl)) (by first | rfl | simp []) rfl ?_))
      | (go_at_call 51; (with_reducible refine (cR _).mono ?_); rintro e w' ⟨rfl, hb⟩; replace H := H.step hb; clear hb; have hc := cell_below H.below HC.out))
    go_ret
    exact ⟨rfl, H.below⟩
  · have hji : (n : Int) ≤ (j : Int) := by omega
    have e : invF l n i j = unitF i (j - n) := if_neg hjn
    have hs : (j : Int) - (n : Int) = ((j - n : Nat) : Int) := by omega
    rw [e, ← unitF_int]
    have cU := fun W => unit_any (i : Int) ((j - n : Nat) : Int) W
    rw [← hs] at cU ⊢
    have h1 : (j : Int) ≤ 64 := by omega
    have h2 : (n : Int) ≤ 64 := by omega
    generalize (if (i : Int) = (j : Int) - (n : Int) then (1 : UInt8) else 0) = x at *
    clear hs e hv hl hcp hnn hi hj hjn
    go_enter Try.func59, Try.ntmps59
    go_wp2_with (first
      | ((with_reducible refine gLoad ?_); first | (refine aLoad1 H _ rfl rfl (by first | exact (rfl : _ = some (Value.int _ _)) | exact (rfl : _ = some (Value.slice _ _ _)) | exact (rfl : _ = some (Value.bool _)) | exact (rfl : _ = some (Value.string _)) | exact (rfl : _ = some (Value.pointer _)) | rfl | (simp [List.getElem?_append]; done)) rfl ?_) | (refine aLoadR1 RO H _ rfl rfl (by first | exact (rfl : _ = some (Value.int _ _)) | exact (rfl : _ = some (Value.slice _ _ _)) | exact (rfl : _ = some (Value.bool _)) | exact (rfl : _ = some (Value.string _)) | exact (rfl : _ = some (Value.pointer _)) | rfl | (simp [List.getElem?_append]; done)) rfl ?_) | (refine aLoadC _ rfl rfl (by assumption) rfl ?_) | (refine aLoad H _ rfl rfl (by first | exact part_all (by first | rfl | simp []) | (simp only [List.drop_succ_cons, List.drop_zero, List.take_succ_cons, List.take_zero]; rfl) | (simp [List.drop_append, List.take_append]; rfl)) (by first | rfl | simp []) rfl ?_) | (refine aLoadR RO H _ rfl rfl (by first | exact part_all (by first | rfl | simp []) | (simp only [List.drop_succ_cons, List.drop_zero, List.take_succ_cons, List.take_zero]; rfl) | (simp [List.drop_append, List.take_append]; rfl)) (by first | rfl | simp []) rfl ?_))
      | (go_at_call 54; (with_reducible refine (cU _).mono ?_); rintro e w' ⟨rfl, rfl⟩))
    go_ret
    exact ⟨rfl, H.below⟩
theorem enter_inv1 : ∀ args W, (callFunc 59 args).run Try.prog W = .ok (.enter 59 args) W := fun args W => Go.MuLone.run_callFunc_enter Try.func59 (by kernel_rfl) rfl args W
set_option maxHeartbeats 1600000 in
set_option maxRecDepth 100000 in
theorem Inverse2_any (M : List (List UInt8)) (tail : List Value) (n m i j bw bn g cp : Nat) (t : TypeId) (w : World) (hm : m = n + n)
    (RO : HOLD [.blk bw 32 (mxT.enc ((n : Int), (m : Int), some ⟨g, 0, none⟩, n * m, cp)), .blk bn 3 [.int .i64 (n : Int)], .blk g t (mcells M tail)] w)
    (hM : Mat M n m) (hcp : n * m ≤ cp) (hn : n ≤ 32) (hi : i < n) (hj : j < n) :
    Calls Try.prog 61 #[.int .i64 (i : Int), .int .i64 (j : Int), .pointer (some ⟨bw, 0, none⟩), .pointer (some ⟨bn, 0, none⟩)] w fun e w' => e = .returned (.int .u8 ((fe M i (n + j)).toNat : Int)) ∧ Below w.heap.size w w' := by
  have H := SH.start Nil w
  have hnn : n * m ≤ 32 * 64 := Nat.mul_le_mul hn (by omega)
  have hin := row_in (c := m) hi
  have hva : VA w g t (mcells M tail) := HOLD.va RO
  obtain ⟨s, hs⟩ : ∃ s, s = n + j := ⟨_, rfl⟩
  have hat := hM.at_ hi (show s < m by omega) tail
  have hc := (hva.cell (i * m + s)).trans hat
  have cR := fun W => row_any (n : Int) m i ⟨g, 0, none⟩ (n * m) cp W (by omega) hin hcp (by omega)
  rw [addr_add, Nat.zero_add] at cR
  have hb1 : (n : Int) ≤ 64 := by omega
  have hb2 : (j : Int) < (n : Int) := by omega
  have hnj : (s : Int) < (m : Int) := by omega
  have hnj2 : (n : Int) + (j : Int) = (s : Int) := by omega
  have hfe : cb ((M.getD i []).getD s 0) = .int .u8 ((fe M i s).toNat : Int) := rfl
  rw [hfe] at hc
  rw [← hs]
  have hsb : (s : Int) ≤ 64 := by omega
  have hsw : IntKind.i64.wrap (s : Int) = (s : Int) := i64w _ (by omega) (by omega)
  generalize fe M i s = x at *
  generalize i * m = q at *
  have hadd := addr_add g q s
  clear hat hva hM hcp hnn hin hi hj hfe hs hm
  generalize n * m = z at *
  go_enter Try.func61, Try.ntmps61
  go_wp2
  refine startA (fun i => false) (by kernel_rfl) (fun wS hS => ?_)
  replace H := H.drew
  rw [← hS] at H
  have HH := H.hold
  have HR := H.old RO
  have HS0 : Below wS.heap.size wS wS := Below.refl _ _
  replace hc := cellS hS hc
  clear hS
  refine takeL 0 HS0 rfl (by kernel_rfl) (by kernel_rfl) (by kernel_rfl) (by kernel_rfl) (by kernel_rfl) (fun _ _ _ h => h) rfl (v := ?_) ?_ ?_
  rotate_left
  · intro w' hw'; first | (refine Eq.trans (xLoad (HR.below hw') _ rfl rfl (by first | exact part_all (by first | rfl | simp []) | (simp only [List.drop_succ_cons, List.drop_zero, List.take_succ_cons, List.take_zero]; rfl) | (simp [List.drop_append, List.take_append]; rfl)) (by first | rfl | simp [])) ?_; with_reducible rfl) | (refine Eq.trans (xLoad (HH.below hw') _ rfl rfl (by first | exact part_all (by first | rfl | simp []) | (simp only [List.drop_succ_cons, List.drop_zero, List.take_succ_cons, List.take_zero]; rfl) | (simp [List.drop_append, List.take_append]; rfl)) (by first | rfl | simp [])) ?_; with_reducible rfl)
  (try simp only [Act.put, List.setIfInBounds_toArray, List.set_cons_zero, List.set_cons_succ])
  refine takeP 1 rfl (by kernel_rfl) (by kernel_rfl) (by kernel_rfl) (by kernel_rfl) (fun _ _ _ h => h) rfl (v := ?_) ?_ ?_
  rotate_left
  · intro w'; go_simp; (try with_reducible rfl)
  (try simp only [Act.put, List.setIfInBounds_toArray, List.set_cons_zero, List.set_cons_succ])
  refine takeL 3 HS0 rfl (by kernel_rfl) (by kernel_rfl) (by kernel_rfl) (by kernel_rfl) (by kernel_rfl) (fun _ _ _ h => h) rfl (v := ?_) ?_ ?_
  rotate_left
  · intro w' hw'; first | (refine Eq.trans (xLoad1 (HR.below hw') _ rfl rfl (by first | exact (rfl : _ = some (Value.int _ _)) | exact (rfl : _ = some (Value.slice _ _ _)) | exact (rfl : _ = some (Value.bool _)) | exact (rfl : _ = some (Value.string _)) | exact (rfl : _ = some (Value.pointer _)) | rfl | (simp [List.getElem?_append]; done))) ?_; with_reducible rfl) | (refine Eq.trans (xLoad1 (HH.below hw') _ rfl rfl (by first | exact (rfl : _ = some (Value.int _ _)) | exact (rfl : _ = some (Value.slice _ _ _)) | exact (rfl : _ = some (Value.bool _)) | exact (rfl : _ = some (Value.string _)) | exact (rfl : _ = some (Value.pointer _)) | rfl | (simp [List.getElem?_append]; done))) ?_; with_reducible rfl) | (refine Eq.trans (xLoadC _ rfl rfl (cell_below hw' (by assumption))) ?_; with_reducible rfl)
  (try simp only [Act.put, List.setIfInBounds_toArray, List.set_cons_zero, List.set_cons_succ])
  refine takeP 4 rfl (by kernel_rfl) (by kernel_rfl) (by kernel_rfl) (by kernel_rfl) (fun _ _ _ h => h) rfl (v := ?_) ?_ ?_
  rotate_left
  · intro w'; go_simp; (try with_reducible rfl)
  (try simp only [Act.put, List.setIfInBounds_toArray, List.set_cons_zero, List.set_cons_succ])
  refine takeP 5 rfl (by kernel_rfl) (by kernel_rfl) (by kernel_rfl) (by kernel_rfl) (fun _ _ _ h => h) rfl (v := ?_) ?_ ?_
  rotate_left
  · intro w'; go_simp; (try with_reducible rfl)
  (try simp only [Act.put, List.setIfInBounds_toArray, List.set_cons_zero, List.set_cons_succ])
  refine stepL 2 rfl (by kernel_rfl) rfl (fun K hK => ?_)
  (go_simp; (with_reducible refine (cR _).mono ?_); rintro e w' ⟨rfl, hb⟩; replace H := H.step hb; replace HS0 := below_two HS0 HS0.size hb; clear hb; refine hK.out _ _ (fun _ _ => HS0) ?_; clear K hK)
  (try simp only [Act.put, List.setIfInBounds_toArray, List.set_cons_zero, List.set_cons_succ])
  refine takeP 6 rfl (by kernel_rfl) (by kernel_rfl) (by kernel_rfl) (by kernel_rfl) (fun _ _ _ h => h) rfl (v := ?_) ?_ ?_
  rotate_left
  · intro w'; go_simp; (try with_reducible rfl)
  (try simp only [Act.put, List.setIfInBounds_toArray, List.set_cons_zero, List.set_cons_succ])
  refine takeL 7 HS0 rfl (by kernel_rfl) (by kernel_rfl) (by kernel_rfl) (by kernel_rfl) (by kernel_rfl) (fun _ _ _ h => h) rfl (v := ?_) ?_ ?_
  rotate_left
  · intro w' hw'; first | (refine Eq.trans (xLoad1 (HR.below hw') _ rfl rfl (by first | exact (rfl : _ = some (Value.int _ _)) | exact (rfl : _ = some (Value.slice _ _ _)) | exact (rfl : _ = some (Value.bool _)) | exact (rfl : _ = some (Value.string _)) | exact (rfl : _ = some (Value.pointer _)) | rfl | (simp [List.getElem?_append]; done))) ?_; with_reducible rfl) | (refine Eq.trans (xLoad1 (HH.below hw') _ rfl rfl (by first | exact (rfl : _ = some (Value.int _ _)) | exact (rfl : _ = some (Value.slice _ _ _)) | exact (rfl : _ = some (Value.bool _)) | exact (rfl : _ = some (Value.string _)) | exact (rfl : _ = some (Value.pointer _)) | rfl | (simp [List.getElem?_append]; done))) ?_; with_reducible rfl) | (refine Eq.trans (xLoadC _ rfl rfl (cell_below hw' (by assumption))) ?_; with_reducible rfl)
  (try simp only [Act.put, List.setIfInBounds_toArray, List.set_cons_zero, List.set_cons_succ])
  refine takeP 8 rfl (by kernel_rfl) (by kernel_rfl) (by kernel_rfl) (by kernel_rfl) (fun _ _ _ h => h) rfl (v := ?_) ?_ ?_
  rotate_left
  · intro w'; go_simp; (try with_reducible rfl)
  (try simp only [Act.put, List.setIfInBounds_toArray, List.set_cons_zero, List.set_cons_succ])
  refine doneL (by kernel_rfl) ?_
  go_wp2
  go_ret
  exact ⟨rfl, H.below⟩
theorem enter_inv2 : ∀ args W, (callFunc 61 args).run Try.prog W = .ok (.enter 61 args) W := fun args W => Go.MuLone.run_callFunc_enter Try.func61 (by kernel_rfl) rfl args W
end Go.Proofs.Ytfnneneaalaagaa

namespace Go.Proofs.Ytfnneneaalaagaa
set_option maxRecDepth 100000
open Go.RowKit
set_option linter.unusedSimpArgs false
set_option linter.unusedVariables false

/-- A matrix with the unit at its side, as rows. -/
def wideM (l : List UInt8) (n m : Nat) : List (List UInt8) := (List.range n).map fun i => (List.range m).map (invF l n i)
theorem wideM_mat (l : List UInt8) (n m : Nat) : Mat (wideM l n m) n m := ⟨by simp [wideM], fun x hx => by
  simp only [wideM, List.mem_map, List.mem_range] at hx
  obtain ⟨i, _, rfl⟩ := hx
  simp⟩
theorem wideM_flat (l : List UInt8) (n m : Nat) : (wideM l n m).flatten = fillL n m (invF l n) := by rw [wideM, fillL, List.flatMap]
/-- What is told of a matrix: rows, columns, elements, error. -/
abbrev Told26 := Int × Int × List UInt8 × Int
def Gives26 (T : AT Try.prog MX) (w : World) (x : Told26) : Ending → World → Prop := GivesP T w x.1 x.2.1 x.2.2.1 x.2.2.2
def invT (s : List (List UInt8) × Nat) (n : Nat) : Told26 := if s.2 < n then (0, 0, [], 5) else (n, n, fillL n n (fun i j => fe s.1 i (n + j)), 0)
theorem slice_eq {A B : Option Addr} {a b c d : Nat} (h : Value.slice A a c = .slice B b d) : A = B ∧ a = b ∧ c = d := by injection h with h1 h2 h3; exact ⟨h1, h2, h3⟩
set_option maxHeartbeats 3200000 in
set_option maxRecDepth 100000 in
theorem Inverse_bad (r c : Int) (n : Nat) (A : Option Addr) (cp : Nat) (w : World) (hbad : mayB r c n = false ∨ (mayB r c n = true ∧ (r == c) = false)) :
    Calls Try.prog 29 #[.agg (mxT.enc (r, c, A, n, cp)).toArray] w (Gives26 mxT w (0, 0, [], 1)) := by
  have H := SH.start Nil w
  have cM : ∀ W, Calls Try.prog 37 #[.agg (mxT.enc (r, c, A, n, cp)).toArray] W fun e w' => e = .returned (.bool (mayB r c n)) ∧ Below W.heap.size W w' := fun W => MMay_any _ _ _ _ _ W
  rcases hbad with h1 | ⟨h1, h2⟩
  all_goals
    rw [h1] at cM
    clear h1
    go_enter Try.func29, Try.ntmps29
    go_wp2_with (first
      | ((with_reducible refine gDst 1 ?_); refine aBox H _ rfl rfl rfl ?_; clear H; intro b1 w1 H)
      | ((with_reducible refine gDst 2 ?_); refine aAlloc H rfl rfl ?_; clear H; intro b2 w2 H)
      | ((with_reducible refine gDst 4 ?_); refine aAlloc1 H rfl rfl ?_; clear H; intro b4 w4 H)
      | ((with_reducible refine gDst 5 ?_); refine aAlloc H rfl rfl ?_; clear H; intro b5 w5 H)
      | ((with_reducible refine gLoad ?_); first | (refine aLoad1 H _ rfl rfl (by first | exact (rfl : _ = some (Value.int _ _)) | exact (rfl : _ = some (Value.slice _ _ _)) | exact (rfl : _ = some (Value.bool _)) | exact (rfl : _ = some (Value.string _)) | exact (rfl : _ = some (Value.pointer _)) | rfl | (simp [List.getElem?_append]; done)) rfl ?_) | (refine aLoadC _ rfl rfl (by assumption) rfl ?_) | (refine aLoad H _ rfl rfl (by first | exact part_all (by first | rfl | simp []) | (simp only [List.drop_succ_cons, List.drop_zero, List.take_succ_cons, List.take_zero]; rfl) | (simp [List.drop_append, List.take_append]; rfl)) (by first | rfl | simp []) rfl ?_))
      | ((with_reducible refine gBuild ?_); refine aZero rfl rfl ?_)
      | ((with_reducible refine gStore ?_); (first | (refine aCell H _ _ rfl rfl (by first | exact (rfl : _ = Value.int _ _) | exact (rfl : _ = Value.bool _) | exact (rfl : _ = Value.slice _ _ _) | exact (rfl : _ = Value.string _) | exact (rfl : _ = Value.pointer _) | exact (rfl : _ = Value.func _ _ _) | rfl) (by rfl) (by rfl) (by first | exact of_decide_eq_true rfl | (simp []; done) | (simp []; omega)) (by first | (simp only [List.set_cons_zero, List.set_cons_succ]; rfl) | (simp [List.set_append]; rfl)) rfl ?_) | (refine aStore H _ _ rfl rfl rfl (by (first | exact ⟨rfl, rfl⟩ | exact ⟨by decide, rfl⟩ | (simp []; done) | (constructor <;> simp [] <;> omega))) (by first | rfl | simp [List.all_append, one_all]) rfl ?_) | (refine aLay H _ _ rfl rfl rfl (by (first | exact ⟨rfl, rfl⟩ | exact ⟨by decide, rfl⟩ | (simp []; done) | (constructor <;> simp [] <;> omega))) (by first | rfl | simp [List.all_append, one_all]) (by simp only [lay, List.take_succ_cons, List.take_zero, List.drop_succ_cons, List.drop_zero, List.nil_append, List.cons_append, List.length_cons, List.length_nil, Nat.zero_add, Nat.reduceAdd]; rfl) rfl ?_)); clear H; intro w' H; try dsimp only at H)
      | (go_at_call 37; (with_reducible refine (cM _).mono ?_); rintro e w' ⟨rfl, hb⟩; replace H := H.step hb; clear hb))
    refine bodyPost_ret (res_cell_tmp rfl _ H.hold rfl rfl) rfl ?_
    exact GivesP.zero rfl ⟨rfl, H.below⟩
set_option maxHeartbeats 3200000 in
set_option maxRecDepth 100000 in
theorem Inverse_ok (l : List UInt8) (n : Nat) (A : Option Addr) (cp : Nat) (w : World) (hv : RB w (.slice A l.length cp) l) (hcp : l.length ≤ cp) (hm : mayB n n l.length = true) :
    Calls Try.prog 29 #[.agg (mxT.enc ((n : Int), (n : Int), A, l.length, cp)).toArray] w (Gives26 mxT w (invT (clr n (n + n) (wideM l n (n + n)) n) n)) := by
  have H := SH.start Nil w
  have cM : ∀ W, Calls Try.prog 37 #[.agg (mxT.enc (n, n, A, l.length, cp)).toArray] W fun e w' => e = .returned (.bool (mayB n n l.length)) ∧ Below W.heap.size W w' := fun W => MMay_any _ _ _ _ _ W
  rw [hm] at cM
  obtain ⟨x1, x2, e1, e2, h1, h2, h3, h4, hl⟩ := mayB_ok hm
  rw [show x1 = n by omega, show x2 = n by omega] at hl
  have hn1 : 1 ≤ n := by omega
  have hn2 : n ≤ 32 := by omega
  obtain ⟨m, hmm⟩ : ∃ m, m = n + n := ⟨_, rfl⟩
  rw [← hmm]
  have hmI : 2 * (n : Int) = (m : Int) := by omega
  have hfl : (fillL n m (invF l n)).length = n * m := fillL_len _ _ _
  have hpos : 0 < n * m := Nat.mul_pos (by omega) (by omega)
  have cF1 := fun (W : World) (bn bm : Nat) (RO : HOLD [.blk bn 3 [.int .i64 (n : Int)], .blk bm 32 (mxT.enc ((n : Int), (n : Int), A, l.length, cp))] W) (hB : Below w.heap.size w W) => filled_any n m 59 #[.pointer (some ⟨bn, 0, none⟩), .pointer (some ⟨bm, 0, none⟩)] (invF l n) W (by omega) (by omega) enter_inv1 (fun W2 h2 i j hi hj => Inverse1_any l n i j bn bm A cp W2 (RO.below h2) ((hv.below hB).below h2) hl hcp hn2 hi (by omega))
  have cK := fun (W : World) (g cap : Nat) (tail : List Value) (h : VA W g 5 (mcells (wideM l n m) tail)) (hc : n * m ≤ cap) => clear_any (wideM l n m) tail n m n g cap 5 W (wideM_mat l n m) h (by omega) (by omega) (by omega) (by omega) hc
  have hMs : Mat (clr n m (wideM l n m) n).1 n m := ((wideM_mat l n m).clr n).1
  have hns : (clr n m (wideM l n m) n).2 ≤ n := ((wideM_mat l n m).clr n).2
  generalize clr n m (wideM l n m) n = s at *
  have cF2 := fun (W : World) (g cap bw bn : Nat) (tail : List Value) (RO : HOLD [.blk bw 32 (mxT.enc ((n : Int), (m : Int), some ⟨g, 0, none⟩, n * m, cap)), .blk bn 3 [.int .i64 (n : Int)], .blk g 5 (mcells s.1 tail)] W) (hc : n * m ≤ cap) => filled_any n n 61 #[.pointer (some ⟨bw, 0, none⟩), .pointer (some ⟨bn, 0, none⟩)] (fun i j => fe s.1 i (n + j)) W (by omega) (by omega) enter_inv2 (fun W2 h2 i j hi hj => Inverse2_any s.1 tail n m i j bw bn g cap 5 W2 hmm (RO.below h2) hMs hc hn2 hi hj)
  rw [hfl] at cF1
  have hlp := wideM_flat l n m
  have CF1 := Lib.hid cF1
  have CF2 := Lib.hid cF2
  have CK := Lib.hid cK
  have HLP := Lib.hid hlp
  have HFL := Lib.hid hfl
  have hni : (n : Int) ≤ 32 := by omega
  have hmi : (m : Int) ≤ 64 := by omega
  have hnn : ((n : Int) != (n : Int)) = false := by simp
  clear cF1 cF2 cK hv hcp hm hl e1 e2 h1 h2 h3 h4 hmm hMs hlp hfl
  generalize n * m = z at *
  have hd : (decide ((s.2 : Int) < (n : Int)) = true ∧ s.2 < n) ∨ (decide ((s.2 : Int) < (n : Int)) = false ∧ ¬ s.2 < n) := by
    by_cases h : s.2 < n
    · exact .inl ⟨decide_eq_true (by omega), h⟩
    · exact .inr ⟨decide_eq_false (by omega), h⟩
  generalize hq : (s.2 : Int) = q at *
  go_enter Try.func29, Try.ntmps29
  go_wp2_with (first
    | ((with_reducible refine gDst 1 ?_); refine aBox H _ rfl rfl rfl ?_; clear H; intro b1 w1 H)
    | ((with_reducible refine gDst 2 ?_); refine aAlloc H rfl rfl ?_; clear H; intro b2 w2 H)
    | ((with_reducible refine gDst 4 ?_); refine aAlloc1 H rfl rfl ?_; clear H; intro b4 w4 H)
    | ((with_reducible refine gDst 5 ?_); refine aAlloc H rfl rfl ?_; clear H; intro b5 w5 H)
    | ((with_reducible refine gLoad ?_); first | (refine aLoad1 H _ rfl rfl (by first | exact (rfl : _ = some (Value.int _ _)) | exact (rfl : _ = some (Value.slice _ _ _)) | exact (rfl : _ = some (Value.bool _)) | exact (rfl : _ = some (Value.string _)) | exact (rfl : _ = some (Value.pointer _)) | rfl | (simp [List.getElem?_append]; done)) rfl ?_) | (refine aLoadC _ rfl rfl (by assumption) rfl ?_) | (refine aLoad H _ rfl rfl (by first | exact part_all (by first | rfl | simp []) | (simp only [List.drop_succ_cons, List.drop_zero, List.take_succ_cons, List.take_zero]; rfl) | (simp [List.drop_append, List.take_append]; rfl)) (by first | rfl | simp []) rfl ?_))
    | ((with_reducible refine gBuild ?_); refine aZero rfl rfl ?_)
    | ((with_reducible refine gStore ?_); (first | (refine aCell H _ _ rfl rfl (by first | exact (rfl : _ = Value.int _ _) | exact (rfl : _ = Value.bool _) | exact (rfl : _ = Value.slice _ _ _) | exact (rfl : _ = Value.string _) | exact (rfl : _ = Value.pointer _) | exact (rfl : _ = Value.func _ _ _) | rfl) (by rfl) (by rfl) (by first | exact of_decide_eq_true rfl | (simp []; done) | (simp []; omega)) (by first | (simp only [List.set_cons_zero, List.set_cons_succ]; rfl) | (simp [List.set_append]; rfl)) rfl ?_) | (refine aStore H _ _ rfl rfl rfl (by (first | exact ⟨rfl, rfl⟩ | exact ⟨by decide, rfl⟩ | (simp []; done) | (constructor <;> simp [] <;> omega))) (by first | rfl | simp [List.all_append, one_all]) rfl ?_) | (refine aLay H _ _ rfl rfl rfl (by (first | exact ⟨rfl, rfl⟩ | exact ⟨by decide, rfl⟩ | (simp []; done) | (constructor <;> simp [] <;> omega))) (by first | rfl | simp [List.all_append, one_all]) (by simp only [lay, List.take_succ_cons, List.take_zero, List.drop_succ_cons, List.drop_zero, List.nil_append, List.cons_append, List.length_cons, List.length_nil, Nat.zero_add, Nat.reduceAdd]; rfl) rfl ?_)); clear H; intro w' H; try dsimp only at H)
    | (go_at_call 37; (with_reducible refine (cM _).mono ?_); rintro e w' ⟨rfl, hb⟩; replace H := H.step hb; clear hb)
    | (go_at_call 53; (with_reducible refine (CF1.out _ b4 b1 (HOLD.cons H.hold.va (.one H.hold.va)) H.below).mono ?_); rintro e w' ⟨A', cp', rfl, ho, hb⟩; replace H := H.pushRow hb ho; clear hb ho; obtain ⟨g, cap, tail, hsl, hcap, H'⟩ := H.toBlk 0 rfl (by rw [HFL.out]; exact hpos); clear H; have H := H'; clear H'; rw [← HLP.out] at H; obtain ⟨rfl, -, rfl⟩ := slice_eq hsl; rw [HFL.out] at hcap; clear hsl; (try dsimp only [List.set_cons_zero] at H)))
  have H0 := H.drew
  have HS0 : HOLD [.blk b5 32 (mxT.enc ((n : Int), (m : Int), some ⟨g, 0, none⟩, z, cp')), .blk b4 3 [.int .i64 (n : Int)]] _ := .cons H0.hold.va (.one H0.hold.va)
  clear H
  refine startS (HOLD [.blk b5 32 (mxT.enc ((n : Int), (m : Int), some ⟨g, 0, none⟩, z, cp')), .blk b4 3 [.int .i64 (n : Int)]]) (by kernel_rfl) HS0 ?_
  refine takeS 0 HS0 rfl (by kernel_rfl) (by kernel_rfl) (by kernel_rfl) (fun _ _ _ h => h) rfl (v := ?_) ?_ ?_
  rotate_left
  · intro w' hw'; refine Eq.trans (xLoad hw' _ rfl rfl (part_all rfl) rfl) ?_; with_reducible rfl
  (try simp only [Act.put, List.setIfInBounds_toArray, List.set_cons_zero, List.set_cons_succ])
  refine takeS 1 HS0 rfl (by kernel_rfl) (by kernel_rfl) (by kernel_rfl) (fun _ _ _ h => h) rfl (v := ?_) ?_ ?_
  rotate_left
  · intro w' hw'; refine Eq.trans (xLoad1 hw' _ rfl rfl rfl) ?_; with_reducible rfl
  (try simp only [Act.put, List.setIfInBounds_toArray, List.set_cons_zero, List.set_cons_succ])
  refine takeS 3 HS0 rfl (by kernel_rfl) (by kernel_rfl) (by kernel_rfl) (fun _ _ _ h => h) rfl (v := ?_) ?_ ?_
  rotate_left
  · intro w' hw'; refine Eq.trans (xLoad1 hw' _ rfl rfl rfl) ?_; with_reducible rfl
  (try simp only [Act.put, List.setIfInBounds_toArray, List.set_cons_zero, List.set_cons_succ])
  refine stepS' 2 rfl (by kernel_rfl) rfl (fun K hK => ?_)
  (go_simp; have hva : VA _ g 5 (mcells (wideM l n m) tail) := H0.hold.va; (with_reducible refine (CK.out _ g cp' tail hva hcap).mono ?_); rintro e w' ⟨rfl, k⟩; have H := SH.viaB H0 k; (try dsimp only at H); clear H0 k hva; have HS1 : HOLD [.blk b5 32 (mxT.enc ((n : Int), (m : Int), some ⟨g, 0, none⟩, z, cp')), .blk b4 3 [.int .i64 (n : Int)]] w' := .cons H.hold.va (.one H.hold.va); refine hK.out _ _ HS1 ?_; clear K hK HS0; have HS0 := HS1; clear HS1)
  (try simp only [Act.put, List.setIfInBounds_toArray, List.set_cons_zero, List.set_cons_succ])
  refine takeS 4 HS0 rfl (by kernel_rfl) (by kernel_rfl) (by kernel_rfl) (fun _ _ _ h => h) rfl (v := ?_) ?_ ?_
  rotate_left
  · intro w' hw'; clear hw'; go_simp; (try with_reducible rfl)
  (try simp only [Act.put, List.setIfInBounds_toArray, List.set_cons_zero, List.set_cons_succ])
  refine doneS (by kernel_rfl) ?_
  rcases hd with ⟨d1, d2⟩ | ⟨d1, d2⟩
  · go_wp2_with (first
      | ((with_reducible refine gDst 1 ?_); refine aBox H _ rfl rfl rfl ?_; clear H; intro b1 w1 H)
      | ((with_reducible refine gDst 2 ?_); refine aAlloc H rfl rfl ?_; clear H; intro b2 w2 H)
      | ((with_reducible refine gDst 4 ?_); refine aAlloc1 H rfl rfl ?_; clear H; intro b4 w4 H)
      | ((with_reducible refine gDst 5 ?_); refine aAlloc H rfl rfl ?_; clear H; intro b5 w5 H)
      | ((with_reducible refine gLoad ?_); first | (refine aLoad1 H _ rfl rfl (by first | exact (rfl : _ = some (Value.int _ _)) | exact (rfl : _ = some (Value.slice _ _ _)) | exact (rfl : _ = some (Value.bool _)) | exact (rfl : _ = some (Value.string _)) | exact (rfl : _ = some (Value.pointer _)) | rfl | (simp [List.getElem?_append]; done)) rfl ?_) | (refine aLoadC _ rfl rfl (by assumption) rfl ?_) | (refine aLoad H _ rfl rfl (by first | exact part_all (by first | rfl | simp []) | (simp only [List.drop_succ_cons, List.drop_zero, List.take_succ_cons, List.take_zero]; rfl) | (simp [List.drop_append, List.take_append]; rfl)) (by first | rfl | simp []) rfl ?_))
      | ((with_reducible refine gBuild ?_); refine aZero rfl rfl ?_)
      | ((with_reducible refine gStore ?_); (first | (refine aCell H _ _ rfl rfl (by first | exact (rfl : _ = Value.int _ _) | exact (rfl : _ = Value.bool _) | exact (rfl : _ = Value.slice _ _ _) | exact (rfl : _ = Value.string _) | exact (rfl : _ = Value.pointer _) | exact (rfl : _ = Value.func _ _ _) | rfl) (by rfl) (by rfl) (by first | exact of_decide_eq_true rfl | (simp []; done) | (simp []; omega)) (by first | (simp only [List.set_cons_zero, List.set_cons_succ]; rfl) | (simp [List.set_append]; rfl)) rfl ?_) | (refine aStore H _ _ rfl rfl rfl (by (first | exact ⟨rfl, rfl⟩ | exact ⟨by decide, rfl⟩ | (simp []; done) | (constructor <;> simp [] <;> omega))) (by first | rfl | simp [List.all_append, one_all]) rfl ?_) | (refine aLay H _ _ rfl rfl rfl (by (first | exact ⟨rfl, rfl⟩ | exact ⟨by decide, rfl⟩ | (simp []; done) | (constructor <;> simp [] <;> omega))) (by first | rfl | simp [List.all_append, one_all]) (by simp only [lay, List.take_succ_cons, List.take_zero, List.drop_succ_cons, List.drop_zero, List.nil_append, List.cons_append, List.length_cons, List.length_nil, Nat.zero_add, Nat.reduceAdd]; rfl) rfl ?_)); clear H; intro w' H; try dsimp only at H))
    refine bodyPost_ret (res_cell_tmp rfl _ H.hold rfl rfl) rfl ?_
    rw [invT, if_pos d2]
    exact ⟨none, 0, rfl, OR.nil _ _, H.below⟩
  · go_wp2_with (first
      | ((with_reducible refine gDst 1 ?_); refine aBox H _ rfl rfl rfl ?_; clear H; intro b1 w1 H)
      | ((with_reducible refine gDst 2 ?_); refine aAlloc H rfl rfl ?_; clear H; intro b2 w2 H)
      | ((with_reducible refine gDst 4 ?_); refine aAlloc1 H rfl rfl ?_; clear H; intro b4 w4 H)
      | ((with_reducible refine gDst 5 ?_); refine aAlloc H rfl rfl ?_; clear H; intro b5 w5 H)
      | ((with_reducible refine gLoad ?_); first | (refine aLoad1 H _ rfl rfl (by first | exact (rfl : _ = some (Value.int _ _)) | exact (rfl : _ = some (Value.slice _ _ _)) | exact (rfl : _ = some (Value.bool _)) | exact (rfl : _ = some (Value.string _)) | exact (rfl : _ = some (Value.pointer _)) | rfl | (simp [List.getElem?_append]; done)) rfl ?_) | (refine aLoadC _ rfl rfl (by assumption) rfl ?_) | (refine aLoad H _ rfl rfl (by first | exact part_all (by first | rfl | simp []) | (simp only [List.drop_succ_cons, List.drop_zero, List.take_succ_cons, List.take_zero]; rfl) | (simp [List.drop_append, List.take_append]; rfl)) (by first | rfl | simp []) rfl ?_))
      | ((with_reducible refine gBuild ?_); refine aZero rfl rfl ?_)
      | ((with_reducible refine gStore ?_); (first | (refine aCell H _ _ rfl rfl (by first | exact (rfl : _ = Value.int _ _) | exact (rfl : _ = Value.bool _) | exact (rfl : _ = Value.slice _ _ _) | exact (rfl : _ = Value.string _) | exact (rfl : _ = Value.pointer _) | exact (rfl : _ = Value.func _ _ _) | rfl) (by rfl) (by rfl) (by first | exact of_decide_eq_true rfl | (simp []; done) | (simp []; omega)) (by first | (simp only [List.set_cons_zero, List.set_cons_succ]; rfl) | (simp [List.set_append]; rfl)) rfl ?_) | (refine aStore H _ _ rfl rfl rfl (by (first | exact ⟨rfl, rfl⟩ | exact ⟨by decide, rfl⟩ | (simp []; done) | (constructor <;> simp [] <;> omega))) (by first | rfl | simp [List.all_append, one_all]) rfl ?_) | (refine aLay H _ _ rfl rfl rfl (by (first | exact ⟨rfl, rfl⟩ | exact ⟨by decide, rfl⟩ | (simp []; done) | (constructor <;> simp [] <;> omega))) (by first | rfl | simp [List.all_append, one_all]) (by simp only [lay, List.take_succ_cons, List.take_zero, List.drop_succ_cons, List.drop_zero, List.nil_append, List.cons_append, List.length_cons, List.length_nil, Nat.zero_add, Nat.reduceAdd]; rfl) rfl ?_)); clear H; intro w' H; try dsimp only at H)
      | (go_at_call 53; (with_reducible refine (CF2.out _ g cp' b5 b4 tail (HOLD.cons H.hold.va (HOLD.cons H.hold.va (.one H.hold.va))) hcap).mono ?_); rintro e w' ⟨A', cp', rfl, ho, hb⟩; replace H := H.pushRow hb ho; clear hb ho))
    refine bodyPost_ret (res_cell_tmp rfl _ H.hold rfl rfl) rfl ?_
    rw [invT, if_neg d2]
    exact ⟨A', _, rfl, H.ow _, H.below⟩
end Go.Proofs.Ytfnneneaalaagaa

namespace Go.Proofs.Ytfnneneaalaagaa
set_option maxRecDepth 100000
open Go.RowKit
set_option linter.unusedSimpArgs false
set_option linter.unusedVariables false

/-- Both ranks. -/
theorem rank_eq {M : List (List UInt8)} {r w : Nat} (h : Mat M r w) : (runG lzI r w M w).2 = (clr r w M w).2 := by
  rw [clr_run]
  exact ((runG_mat picks_lz h w (Nat.le_refl _)).2.2).same ((runG_mat picks_nz h w (Nat.le_refl _)).2.2) (fun _ _ => Iff.rfl)
set_option maxHeartbeats 1600000 in
set_option maxRecDepth 100000 in
theorem rRank_any (r c : Int) (A : Option Addr) (cp : Nat) (l : List UInt8) (w : World) (hv : RB w (.slice A l.length cp) l) (hcp : l.length ≤ cp) :
    Calls Try.prog 32 #[.agg (rxT.enc (r, c, A, l.length, cp)).toArray] w fun e w' => e = .returned (.int .i64 (rankI r c l : Int)) ∧ Below w.heap.size w w' := by
  have H := SH.start Nil w
  have cM := fun W => rMay_any r c A l.length cp W
  cases hm : mayB r c l.length with
  | false =>
    have hr : rankI r c l = 0 := by rw [rankI, hm]; rfl
    rw [hr]
    rw [hm] at cM
    have CM := Lib.hid cM
    clear cM hm hr hv hcp
    go_enter Try.func32, Try.ntmps32
    go_wp2_with (first
      | ((with_reducible refine gDst 1 ?_); refine aBox H _ rfl rfl rfl ?_; clear H; intro b1 w1 H)
      | ((with_reducible refine gLoad ?_); first | (refine aLoad H _ rfl rfl (by first | exact part_all (by first | rfl | simp []) | (simp only [List.drop_succ_cons, List.drop_zero, List.take_succ_cons, List.take_zero]; rfl) | (simp [List.drop_append, List.take_append]; rfl)) (by first | rfl | simp []) rfl ?_))
      | (go_at_call 38; (with_reducible refine (CM.out _).mono ?_); rintro e w' ⟨rfl, hb⟩; replace H := H.step hb; clear hb))
    go_ret
    exact ⟨rfl, H.below⟩
  | true =>
    obtain ⟨a, b, rfl, rfl, ha, ha2, hb, hb2, hn⟩ := mayB_ok hm
    obtain ⟨hM, hF⟩ := rowsL_mat l a b hn
    have hr : rankI a b l = (runG lzI a b (rowsL l a b) b).2 := by rw [rank_eq hM, rankI, hm]; rfl
    rw [hm] at cM
    have hp : 0 < l.length := by rw [hn]; exact Nat.mul_pos (by omega) (by omega)
    obtain ⟨ad, rfl, -⟩ := hv.byte hp
    have cR := fun W => rowsOf_any a b l.length ad cp W hn hcp (by omega) (by omega) hb
    have cC := fun (W : World) (vr : Value) (hB : Below w.heap.size w W) (hR : RR SVT W vr (rowSS ad b cp a)) => cleared_any vr _ (rowsL l a b) a b b W hR (rowSS_LB (hv.below hB) hn hcp hb) hM ha (by omega) hb (by omega) (Nat.le_refl _)
    have HR := Lib.hid hr
    have CM := Lib.hid cM
    have CC := Lib.hid cC
    clear cM cC hr hm hn hM hF hv hcp hp
    go_enter Try.func32, Try.ntmps32
    go_wp2_with (first
      | ((with_reducible refine gDst 1 ?_); refine aBox H _ rfl rfl rfl ?_; clear H; intro b1 w1 H)
      | ((with_reducible refine gLoad ?_); first | (refine aLoad H _ rfl rfl (by first | exact part_all (by first | rfl | simp []) | (simp only [List.drop_succ_cons, List.drop_zero, List.take_succ_cons, List.take_zero]; rfl) | (simp [List.drop_append, List.take_append]; rfl)) (by first | rfl | simp []) rfl ?_))
      | (go_at_call 38; (with_reducible refine (CM.out _).mono ?_); rintro e w' ⟨rfl, hb⟩; replace H := H.step hb; clear hb))
    refine startA (fun i => false) (by kernel_rfl) (fun wS hS => ?_)
    replace H := H.drew
    rw [← hS] at H
    have HH := H.hold
    have HS0 : Below wS.heap.size wS wS := Below.refl _ _
    clear hS
    refine takeL 0 HS0 rfl (by kernel_rfl) (by kernel_rfl) (by kernel_rfl) (by kernel_rfl) (by kernel_rfl) (fun _ _ _ h => h) rfl (v := ?_) ?_ ?_
    rotate_left
    · intro w' hw'; first | (refine Eq.trans (xLoad (HH.below hw') _ rfl rfl (by first | exact part_all (by first | rfl | simp []) | (simp only [List.drop_succ_cons, List.drop_zero, List.take_succ_cons, List.take_zero]; rfl) | (simp [List.drop_append, List.take_append]; rfl)) (by first | rfl | simp [])) ?_; with_reducible rfl)
    (try simp only [Act.put, List.setIfInBounds_toArray, List.set_cons_zero, List.set_cons_succ])
    refine takeP 2 rfl (by kernel_rfl) (by kernel_rfl) (by kernel_rfl) (by kernel_rfl) (fun _ _ _ h => h) rfl (v := ?_) ?_ ?_
    rotate_left
    · intro w'; go_simp; (try with_reducible rfl)
    (try simp only [Act.put, List.setIfInBounds_toArray, List.set_cons_zero, List.set_cons_succ])
    refine takeL 3 HS0 rfl (by kernel_rfl) (by kernel_rfl) (by kernel_rfl) (by kernel_rfl) (by kernel_rfl) (fun _ _ _ h => h) rfl (v := ?_) ?_ ?_
    rotate_left
    · intro w' hw'; first | (refine Eq.trans (xLoad1 (HH.below hw') _ rfl rfl (by first | exact (rfl : _ = some (Value.int _ _)) | exact (rfl : _ = some (Value.slice _ _ _)) | exact (rfl : _ = some (Value.bool _)) | exact (rfl : _ = some (Value.string _)) | exact (rfl : _ = some (Value.pointer _)) | rfl | (simp [List.getElem?_append]; done))) ?_; with_reducible rfl) | (refine Eq.trans (xLoadC _ rfl rfl (cell_below hw' (by assumption))) ?_; with_reducible rfl)
    (try simp only [Act.put, List.setIfInBounds_toArray, List.set_cons_zero, List.set_cons_succ])
    refine stepL 1 rfl (by kernel_rfl) rfl (fun K hK => ?_)
    (go_simp; (with_reducible refine (cR _).mono ?_); rintro e w' ⟨A1, p1, rfl, ho, hb⟩; replace H := H.pushRow hb ho; clear ho; replace HS0 := below_two HS0 HS0.size hb; clear hb; refine hK.out _ _ (fun _ _ => HS0) ?_; clear K hK)
    (try simp only [Act.put, List.setIfInBounds_toArray, List.set_cons_zero, List.set_cons_succ])
    refine stepL 4 rfl (by kernel_rfl) rfl (fun K hK => ?_)
    (go_simp; (with_reducible refine (CC.out _ _ H.below (H.hold.rr _)).mono ?_); rintro e w' ⟨A2, p2, ss2, rfl, -, -, -, hb⟩; replace H := H.step hb; replace HS0 := below_two HS0 HS0.size hb; clear hb; refine hK.out _ _ (fun _ _ => HS0) ?_; clear K hK)
    (try simp only [Act.put, List.setIfInBounds_toArray, List.set_cons_zero, List.set_cons_succ])
    refine takeP 5 rfl (by kernel_rfl) (by kernel_rfl) (by kernel_rfl) (by kernel_rfl) (fun _ _ _ h => h) rfl (v := ?_) ?_ ?_
    rotate_left
    · intro w'; go_simp; (try with_reducible rfl)
    (try simp only [Act.put, List.setIfInBounds_toArray, List.set_cons_zero, List.set_cons_succ])
    refine takeP 6 rfl (by kernel_rfl) (by kernel_rfl) (by kernel_rfl) (by kernel_rfl) (fun _ _ _ h => h) rfl (v := ?_) ?_ ?_
    rotate_left
    · intro w'; go_simp; (try with_reducible rfl)
    (try simp only [Act.put, List.setIfInBounds_toArray, List.set_cons_zero, List.set_cons_succ])
    refine takeP 7 rfl (by kernel_rfl) (by kernel_rfl) (by kernel_rfl) (by kernel_rfl) (fun _ _ _ h => h) rfl (v := ?_) ?_ ?_
    rotate_left
    · intro w'; go_simp; (try with_reducible rfl)
    (try simp only [Act.put, List.setIfInBounds_toArray, List.set_cons_zero, List.set_cons_succ])
    refine takeP 8 rfl (by kernel_rfl) (by kernel_rfl) (by kernel_rfl) (by kernel_rfl) (fun _ _ _ h => h) rfl (v := ?_) ?_ ?_
    rotate_left
    · intro w'; go_simp; (try with_reducible rfl)
    (try simp only [Act.put, List.setIfInBounds_toArray, List.set_cons_zero, List.set_cons_succ])
    refine takeP 9 rfl (by kernel_rfl) (by kernel_rfl) (by kernel_rfl) (by kernel_rfl) (fun _ _ _ h => h) rfl (v := ?_) ?_ ?_
    rotate_left
    · intro w'; go_simp; (try with_reducible rfl)
    (try simp only [Act.put, List.setIfInBounds_toArray, List.set_cons_zero, List.set_cons_succ])
    refine doneL (by kernel_rfl) ?_
    go_wp2
    go_ret
    exact ⟨by rw [HR.out]; rfl, H.below⟩
theorem rb_cap {w : World} {A : Option Addr} {n c : Nat} {xs : List UInt8} (h : RB w (.slice A n c) xs) : xs.length ≤ c := by
  obtain ⟨A', c', e, h1, _⟩ := h
  obtain ⟨_, _, rfl⟩ := slice_eq e
  exact h1
theorem svAt {w : World} {ad : Addr} {n c : Nat} {ss : List SVV} (h : RR SVT w (.slice (some ad) n c) ss) (i : Nat) (hi : i < ss.length) : w.cell? (ad.add i) = some (ss.getD i sv0).val := by
  obtain ⟨ad2, e, hc⟩ := h.at_ i hi
  injection e with e
  subst e
  have := hc 0 (ss[i]).val rfl
  rw [show i * SVT.sz + 0 = i from Nat.mul_one i] at this
  rw [this, List.getD_eq_getElem?_getD, List.getElem?_eq_getElem hi]; rfl
theorem LB.row {w : World} {ss : List SVV} {N : List (List UInt8)} {r wd i : Nat} (h : LB w ss N) (hM : Mat N r wd) (hi : i < r) (hw : 0 < wd) :
    ∃ (ad : Addr) (c : Nat), (ss.getD i sv0) = (some ad, wd, c) ∧ wd ≤ c ∧ RB w (.slice (some ad) wd c) (N.getD i []) := by
  have hk := h.2 i (by rw [hM.len]; exact hi)
  have hl := hM.get hi
  obtain ⟨⟨A, n, c⟩, hs⟩ : ∃ s, s = ss.getD i sv0 := ⟨_, rfl⟩
  rw [← hs] at hk
  obtain ⟨A', c', e, hc'⟩ := hk.len
  obtain ⟨rfl, rfl, rfl⟩ : A = A' ∧ n = (N.getD i []).length ∧ c = c' := by injection e with e1 e2 e3; exact ⟨e1, e2, e3⟩
  obtain ⟨ad, rfl, -⟩ := hk.byte (by omega)
  exact ⟨ad, c, by rw [← hs, hl], by omega, by rw [← hl]; exact hk⟩
/-- A cut with one number. -/
theorem cut1 (ad : Addr) (n cp p : Nat) (hp : p < n) (hn : n ≤ cp) (W : World) :
    (Instr.slice 22 (.slice (some ad) n cp) (some (.int .i64 (p : Int))) none none).run Try.prog W = .ok (.slice (some (ad.add p)) (n - p) (cp - p)) W := by
  obtain ⟨i0, hi, hz⟩ := Option.map_eq_some_iff.1 Try.info_u8
  simp only [Prod.mk.injEq] at hz
  obtain ⟨_, hsz, _⟩ := hz
  have hel : Try.prog.elem 22 = 5 := by simp [Program.elem, Try.underlying22]
  rw [run_slice_l W 22 (some ad) n cp (by rw [hel]; exact Try.underlying22) .i64 (p : Int) (by omega) (by omega), hel]
  simp [sizeOf, typeInfo, hi, hsz, sliced, Result.andThen]
  omega
theorem RB.dropAt {w : World} {ad : Addr} {n cp : Nat} {l : List UInt8} (hv : RB w (.slice (some ad) n cp) l) (p : Nat) (hp : p < l.length) : RB w (.slice (some (ad.add p)) (n - p) (cp - p)) (l.drop p) := by
  obtain ⟨A2, c2, e, h1, h2, h3⟩ := hv
  obtain ⟨rfl, rfl, rfl⟩ : some ad = A2 ∧ n = l.length ∧ cp = c2 := by injection e with e1 e2 e3; exact ⟨e1, e2, e3⟩
  obtain ⟨ad2, e4, hcc⟩ := h3 (by omega)
  injection e4 with e4
  subst e4
  refine ⟨_, cp - p, by rw [List.length_drop], by rw [List.length_drop]; omega, by rw [List.length_drop]; omega, fun _ => ⟨_, rfl, fun j u hj => ?_⟩⟩
  rw [addr_add2]
  refine hcc _ _ ?_
  rw [U8_all, List.getElem?_map] at hj ⊢
  rw [List.getElem?_drop] at hj
  exact hj
def wideT (l : List UInt8) (n m i : Nat) : List (List UInt8) := (List.range i).map fun i => (List.range m).map (invF l n i)
theorem wideT_succ (l : List UInt8) (n m i : Nat) : wideT l n m (i + 1) = wideT l n m i ++ [(List.range m).map (invF l n i)] := by rw [wideT, List.range_succ, List.map_append]; rfl
theorem fillL_get (r c : Nat) (f : Nat → Nat → UInt8) (i j : Nat) (hi : i < r) (hj : j < c) : (fillL r c f).getD (i * c + j) 0 = f i j := by
  have hM : Mat ((List.range r).map fun i => (List.range c).map (f i)) r c := ⟨by simp, fun x hx => by
    simp only [List.mem_map, List.mem_range] at hx
    obtain ⟨i, _, rfl⟩ := hx
    simp⟩
  have := mat_at hM hi hj
  rw [← List.flatMap, show (List.range r).flatMap (fun i => (List.range c).map (f i)) = fillL r c f from rfl] at this
  rw [this, fe, List.getD_eq_getElem?_getD, List.getD_eq_getElem?_getD, List.getElem?_map, List.getElem?_range hi]
  simp only [Option.map_some, Option.getD_some]
  rw [List.getElem?_map, List.getElem?_range hj]; rfl
theorem wide_row (l : List UInt8) (n i : Nat) (hl : l.length = n * n) (hi : i < n) : (List.range (n + n)).map (invF l n i) = rowq l n i ++ rowq (fillL n n unitF) n i := by
  have hq := row_in (c := n) hi
  rw [rowq_map (by rw [hl]; exact hq), rowq_map (by rw [fillL_len]; exact hq), List.range_add, List.map_append, List.map_map]
  congr 1
  · refine List.map_congr_left fun j hj => ?_
    rw [invF, if_pos (List.mem_range.1 hj)]
  · refine List.map_congr_left fun j hj => ?_
    have hj := List.mem_range.1 hj
    show invF l n i (n + j) = _
    rw [invF, if_neg (by omega), Nat.add_sub_cancel_left, fillL_get n n unitF i j hi hj]
end Go.Proofs.Ytfnneneaalaagaa
