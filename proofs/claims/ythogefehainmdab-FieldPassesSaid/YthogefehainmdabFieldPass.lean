/- A polynomial passes through its own places. Plain. -/
import Derived.Test.YthogefehainmdabFieldPoly
namespace Go.Proofs.Ythogefehainmdab

/-- What is worked out by a polynomial of so many factors at most. -/
def IsPoly (n : Nat) (f : UInt8 → UInt8) : Prop := ∃ p : List UInt8, p.length ≤ n ∧ ∀ v, f v = evalH v p
theorem xor4' (a b c d : UInt8) : (a ^^^ b) ^^^ (c ^^^ d) = (a ^^^ c) ^^^ (b ^^^ d) := xor4 a b c d
theorem eval_add (v : UInt8) : ∀ p q : List UInt8, ∃ r : List UInt8, r.length = max p.length q.length ∧ (∀ v, evalH v p ^^^ evalH v q = evalH v r)
  | [], q => ⟨q, by simp, fun v => by rw [evalH, UInt8.zero_xor]⟩
  | p, [] => ⟨p, by simp, fun v => by rw [evalH, UInt8.xor_zero]⟩
  | a :: p, b :: q => by
    obtain ⟨r, hr, he⟩ := eval_add v p q
    refine ⟨(a ^^^ b) :: r, by simp [hr], fun v => ?_⟩
    rw [evalH, evalH, evalH, ← he, xor_fmul, xor4]
theorem eval_scale (c : UInt8) : ∀ p : List UInt8, ∃ r : List UInt8, r.length = p.length ∧ ∀ v, fmul c (evalH v p) = evalH v r
  | [] => ⟨[], rfl, fun v => by rw [evalH, fmul_zero]⟩
  | a :: p => by
    obtain ⟨r, hr, he⟩ := eval_scale c p
    exact ⟨fmul c a :: r, by simp [hr], fun v => by rw [evalH, evalH, ← he, fmul_xor, fmul_assoc]⟩
theorem IsPoly.mono {n m : Nat} {f : UInt8 → UInt8} (h : IsPoly n f) (hm : n ≤ m) : IsPoly m f := let ⟨p, hp, he⟩ := h; ⟨p, Nat.le_trans hp hm, he⟩
theorem IsPoly.add {n : Nat} {f g : UInt8 → UInt8} (hf : IsPoly n f) (hg : IsPoly n g) : IsPoly n (fun v => f v ^^^ g v) := by
  obtain ⟨p, hp, he⟩ := hf
  obtain ⟨q, hq, he2⟩ := hg
  obtain ⟨r, hr, h⟩ := eval_add 0 p q
  exact ⟨r, by omega, fun v => by show f v ^^^ g v = _; rw [he, he2, h]⟩
theorem IsPoly.scale {n : Nat} {f : UInt8 → UInt8} (hf : IsPoly n f) (c : UInt8) : IsPoly n (fun v => fmul c (f v)) := by
  obtain ⟨p, hp, he⟩ := hf
  obtain ⟨r, hr, h⟩ := eval_scale c p
  exact ⟨r, by omega, fun v => by show fmul c (f v) = _; rw [he, h]⟩
theorem IsPoly.times {n : Nat} {f : UInt8 → UInt8} (hf : IsPoly n f) : IsPoly (n + 1) (fun v => fmul v (f v)) := by
  obtain ⟨p, hp, he⟩ := hf
  exact ⟨0 :: p, by simpa using hp, fun v => by show fmul v (f v) = _; rw [he, evalH, UInt8.xor_zero, fmul_comm]⟩
theorem IsPoly.one : IsPoly 1 (fun _ => 1) := ⟨[1], by simp, fun v => by rw [evalH, evalH, zero_fmul, UInt8.zero_xor]⟩
theorem IsPoly.zero (n : Nat) : IsPoly n (fun _ => 0) := ⟨[], by simp, fun v => by rw [evalH]⟩
theorem IsPoly.less {n : Nat} {f : UInt8 → UInt8} (hf : IsPoly n f) (r : UInt8) : IsPoly (n + 1) (fun v => fmul (v ^^^ r) (f v)) := by
  obtain ⟨p, hp, he⟩ := hf.times.add ((hf.mono (Nat.le_succ n)).scale r)
  exact ⟨p, hp, fun v => by rw [← he v]; exact xor_fmul v r (f v)⟩

theorem divide (r : UInt8) : ∀ p : List UInt8, ∃ q : List UInt8, q.length = p.length - 1 ∧ ∀ v, evalH v p = fmul (v ^^^ r) (evalH v q) ^^^ evalH r p
  | [] => ⟨[], rfl, fun v => by rw [evalH, evalH, fmul_zero, UInt8.zero_xor]⟩
  | a :: p => by
    obtain ⟨q, hq, he⟩ := divide r p
    cases p with
    | nil => exact ⟨[], rfl, fun v => by simp [evalH, fmul_zero, zero_fmul]⟩
    | cons b p =>
      refine ⟨evalH r (b :: p) :: q, by rw [List.length_cons, hq]; simp, fun v => ?_⟩
      generalize b :: p = ps at he
      rw [evalH, evalH, he v, evalH]
      rw [xor_fmul, fmul_xor, xor_fmul v r (evalH r ps), fmul_comm (evalH r ps) v, fmul_comm (evalH r ps) r, fmul_assoc]
      generalize fmul (v ^^^ r) (fmul (evalH v q) v) = A
      generalize fmul v (evalH r ps) = B
      generalize fmul r (evalH r ps) = C
      rw [UInt8.xor_assoc, UInt8.xor_assoc, UInt8.xor_assoc, ← UInt8.xor_assoc C C]
      simp
theorem xor_eq_zero' (a b : UInt8) : a ^^^ b = 0 ↔ a = b := by
  constructor
  · intro h
    have : (a ^^^ b) ^^^ b = b := by rw [h, UInt8.zero_xor]
    rw [UInt8.xor_assoc] at this
    simpa using this
  · rintro rfl; simp
theorem roots : ∀ (n : Nat) (p rs : List UInt8), p.length ≤ n → rs.length = n → rs.Nodup → (∀ r ∈ rs, evalH r p = 0) → ∀ v, evalH v p = 0
  | 0, p, rs, hp, _, _, _, v => by
    have : p = [] := List.length_eq_zero_iff.mp (by omega)
    rw [this, evalH]
  | n + 1, p, [], _, hl, _, _, v => by simp at hl
  | n + 1, p, r :: rs, hp, hl, hd, hz, v => by
    obtain ⟨q, hq, he⟩ := divide r p
    have h0 := hz r (by simp)
    rw [List.nodup_cons] at hd
    have hq0 : ∀ v, evalH v q = 0 := by
      refine roots n q rs (by omega) (by simpa using hl) hd.2 (fun s hs => ?_)
      have h1 := hz s (by simp [hs])
      rw [he s, h0, UInt8.xor_zero, fmul_eq_zero] at h1
      rcases h1 with h1 | h1
      · exact absurd hs ((xor_eq_zero' s r).mp h1 ▸ hd.1)
      · exact h1
    rw [he v, hq0, fmul_zero, h0]; rfl

theorem pb_poly (i : Nat) : ∀ (xs : List UInt8) (j : Nat), IsPoly (xs.length + 1) (fun v => pb v i j xs) ∧ (j ≤ i → i < j + xs.length → IsPoly xs.length (fun v => pb v i j xs))
  | [], j => ⟨by simpa [pb] using IsPoly.one, fun h1 h2 => by simp at h2; omega⟩
  | x :: xs, j => by
    obtain ⟨h1, h2⟩ := pb_poly i xs (j + 1)
    by_cases hj : j = i
    · have e : (fun v => pb v i j (x :: xs)) = fun v => pb v i (j + 1) xs := by funext v; rw [pb, if_pos hj, one_fmul]
      rw [e]
      exact ⟨h1.mono (by simp), fun _ _ => h1.mono (by simp)⟩
    · have e : (fun v => pb v i j (x :: xs)) = fun v => fmul (v ^^^ x) (pb v i (j + 1) xs) := by funext v; rw [pb, if_neg hj]
      rw [e]
      refine ⟨(h1.less x).mono (by simp), fun h3 h4 => ((h2 (by omega) ?_).less x).mono (by simp)⟩
      simp at h4; omega
theorem pb_zero (v : UInt8) (i : Nat) : ∀ (xs : List UInt8) (j : Nat), pb v i j xs = 0 ↔ ∃ k, k < xs.length ∧ j + k ≠ i ∧ xs.getD k 0 = v
  | [], j => by simp [pb]
  | x :: xs, j => by
    rw [pb, fmul_eq_zero, pb_zero v i xs (j + 1)]
    constructor
    · rintro (h | ⟨k, h1, h2, h3⟩)
      · by_cases hj : j = i
        · rw [if_pos hj] at h; exact absurd h (by decide)
        · rw [if_neg hj, xor_eq_zero'] at h
          exact ⟨0, by simp, by simpa using hj, by simp [h]⟩
      · exact ⟨k + 1, by simp; omega, by omega, by simpa using h3⟩
    · rintro ⟨k, h1, h2, h3⟩
      cases k with
      | zero =>
        left
        rw [if_neg (by simpa using h2), xor_eq_zero']
        simpa using h3.symm
      | succ k => exact .inr ⟨k, by simp at h1; omega, by omega, by simpa using h3⟩
theorem nodup_getD {xs : List UInt8} (h : xs.Nodup) {i j : Nat} (hi : i < xs.length) (hj : j < xs.length) (e : xs.getD i 0 = xs.getD j 0) : i = j := by
  simp only [List.getD_eq_getElem?_getD, List.getElem?_eq_getElem hi, List.getElem?_eq_getElem hj, Option.getD_some] at e
  exact (List.getElem_inj h).mp e
theorem own_ne (xs : List UInt8) (h : xs.Nodup) (i : Nat) (hi : i < xs.length) : pb (xs.getD i 0) i 0 xs ≠ 0 := by
  rw [Ne, pb_zero]
  rintro ⟨k, h1, h2, h3⟩
  exact h2 (by rw [Nat.zero_add]; exact nodup_getD h h1 hi h3)
theorem not_bad (xs : List UInt8) (h : xs.Nodup) : ∀ (ys : List UInt8) (i : Nat), i + ys.length = xs.length → thBad xs i ys = false
  | [], i, _ => rfl
  | y :: ys, i, hi => by
    simp at hi
    have h1 := own_ne xs h i (by omega)
    rw [thBad, not_bad xs h ys (i + 1) (by omega)]
    simpa using h1
theorem sum_poly (xs : List UInt8) : ∀ (ys : List UInt8) (i : Nat), i + ys.length = xs.length → IsPoly xs.length (fun v => thSum xs v i ys)
  | [], i, _ => by simpa [thSum] using IsPoly.zero xs.length
  | y :: ys, i, hi => by
    simp at hi
    have h1 := sum_poly xs ys (i + 1) (by omega)
    have h2 := (((pb_poly i xs 0).2 (by omega) (by omega)).scale (finv (pb (xs.getD i 0) i 0 xs))).scale y
    have e : (fun v => thSum xs v i (y :: ys)) = fun v => fmul y (fmul (finv (pb (xs.getD i 0) i 0 xs)) (pb v i 0 xs)) ^^^ thSum xs v (i + 1) ys := by
      funext v; rw [thSum, fmul_comm (finv _)]
    rw [e]
    exact h2.add h1
theorem sum_at (xs : List UInt8) (h : xs.Nodup) (k : Nat) (hk : k < xs.length) : ∀ (ys : List UInt8) (i : Nat), i + ys.length = xs.length → thSum xs (xs.getD k 0) i ys = if i ≤ k then ys.getD (k - i) 0 else 0
  | [], i, hi => by
    simp at hi
    rw [thSum, if_neg (by omega)]
  | y :: ys, i, hi => by
    simp at hi
    rw [thSum, sum_at xs h k hk ys (i + 1) (by omega)]
    by_cases hik : i = k
    · subst hik
      rw [fmul_finv _ (own_ne xs h i hk), fmul_one, if_neg (by omega), if_pos (Nat.le_refl _), UInt8.xor_zero]
      simp
    · have h0 : pb (xs.getD k 0) i 0 xs = 0 := (pb_zero _ _ _ _).mpr ⟨k, hk, by omega, rfl⟩
      rw [h0, zero_fmul, fmul_zero, UInt8.zero_xor]
      by_cases hle : i ≤ k
      · rw [if_pos hle, if_pos (by omega), show k - i = (k - (i + 1)) + 1 by omega]
        simp
      · rw [if_neg hle, if_neg (by omega)]
theorem passes (poly xs : List UInt8) (h : xs.Nodup) (hl : xs.length = poly.length) (v : UInt8) : thSum xs v 0 (xs.map fun x => evalH x poly) = evalH v poly := by
  obtain ⟨p, hp, he⟩ := (sum_poly xs (xs.map fun x => evalH x poly) 0 (by simp)).add ⟨poly, by omega, fun v => rfl⟩
  have hz := roots xs.length p xs hp rfl h (fun r hr => by
    obtain ⟨k, hk, rfl⟩ := List.mem_iff_getElem.mp hr
    rw [← he]
    have hg : xs[k] = xs.getD k 0 := by simp [hk]
    show thSum xs xs[k] 0 (xs.map fun x => evalH x poly) ^^^ evalH xs[k] poly = 0
    rw [hg, sum_at xs h k hk _ 0 (by simp), if_pos (Nat.zero_le _)]
    simp [hk]) v
  rw [← he v, xor_eq_zero'] at hz
  exact hz
end Go.Proofs.Ythogefehainmdab
