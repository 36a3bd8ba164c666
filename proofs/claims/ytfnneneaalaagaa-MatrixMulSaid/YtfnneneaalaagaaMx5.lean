/- Layer 26: a matrix as rows in a block; rows that change places; a column. -/
import Derived.Test.YtfnneneaalaagaaMx4
namespace Go.Proofs.Ytfnneneaalaagaa
open Go.RowKit
set_option linter.unusedSimpArgs false
set_option linter.unusedVariables false

def mcells (M : List (List UInt8)) (tail : List Value) : List Value := M.flatten.map cb ++ tail
/-- r rows of c. -/
structure Mat (M : List (List UInt8)) (r c : Nat) : Prop where
  len : M.length = r
  row : ∀ l ∈ M, l.length = c
theorem flat_len {c : Nat} : ∀ (M : List (List UInt8)), (∀ l ∈ M, l.length = c) → M.flatten.length = M.length * c
  | [], _ => by simp
  | l :: M, h => by rw [List.flatten_cons, List.length_append, h l (by simp), flat_len M (fun x hx => h x (by simp [hx])), List.length_cons, Nat.succ_mul, Nat.add_comm]
theorem Mat.flat {M : List (List UInt8)} {r c : Nat} (h : Mat M r c) : M.flatten.length = r * c := by rw [flat_len M h.row, h.len]
theorem Mat.cells {M : List (List UInt8)} {r c : Nat} (h : Mat M r c) (tail : List Value) : (mcells M tail).length = r * c + tail.length := by rw [mcells, List.length_append, List.length_map, h.flat]
theorem Mat.get {M : List (List UInt8)} {r c i : Nat} (h : Mat M r c) (hi : i < r) : (M.getD i []).length = c := by
  rw [List.getD_eq_getElem?_getD, List.getElem?_eq_getElem (by rw [h.len]; exact hi)]
  exact h.row _ (List.getElem_mem _)
theorem Mat.set {M : List (List UInt8)} {r c : Nat} (h : Mat M r c) (i : Nat) (l : List UInt8) (hl : l.length = c) : Mat (M.set i l) r c :=
  ⟨by rw [List.length_set]; exact h.len, fun x hx => by
    rcases List.mem_or_eq_of_mem_set hx with hx | rfl
    · exact h.row x hx
    · exact hl⟩
theorem Mat.split {M : List (List UInt8)} {r c i : Nat} (h : Mat M r c) (hi : i < r) (tail : List Value) (l : List UInt8) :
    mcells (M.set i l) tail = (M.take i).flatten.map cb ++ (l.map cb ++ ((M.drop (i + 1)).flatten.map cb ++ tail)) ∧ ((M.take i).flatten.map cb).length = i * c := by
  have hl : i < M.length := by rw [h.len]; exact hi
  refine ⟨?_, ?_⟩
  · rw [mcells, List.set_eq_take_append_cons_drop, if_pos hl, List.flatten_append, List.flatten_cons, List.map_append, List.map_append]
    simp only [List.append_assoc]
  · rw [List.length_map, flat_len (c := c) _ (fun x hx => h.row x (List.mem_of_mem_take hx)), List.length_take, Nat.min_eq_left (by omega)]
theorem set_getD (M : List (List UInt8)) (i : Nat) : M.set i (M.getD i []) = M := by
  rcases Nat.lt_or_ge i M.length with h | h
  · rw [List.getD_eq_getElem?_getD, List.getElem?_eq_getElem h]; exact List.set_getElem_self h
  · exact List.set_eq_of_length_le h
theorem Mat.self {M : List (List UInt8)} {r c i : Nat} (h : Mat M r c) (hi : i < r) (tail : List Value) :
    mcells M tail = (M.take i).flatten.map cb ++ ((M.getD i []).map cb ++ ((M.drop (i + 1)).flatten.map cb ++ tail)) ∧ ((M.take i).flatten.map cb).length = i * c := by
  have := h.split hi tail (M.getD i [])
  rw [set_getD] at this
  exact this
theorem Mat.lay {M : List (List UInt8)} {r c i : Nat} (h : Mat M r c) (hi : i < r) (tail : List Value) (l : List UInt8) (hl : l.length = c) : lay (mcells M tail) (i * c) (l.map cb) = mcells (M.set i l) tail := by
  obtain ⟨e1, e2⟩ := h.self hi tail
  obtain ⟨e3, _⟩ := h.split hi tail l
  rw [e1, e3, Go.Proofs.Ytfnneneaalaagaa.lay, List.take_left' e2, List.length_map, hl, ← List.drop_drop, List.drop_left' e2, List.drop_left' (by rw [List.length_map, h.get hi]), List.append_assoc]
theorem Mat.rowAt {M : List (List UInt8)} {r c i : Nat} (h : Mat M r c) (hi : i < r) (tail : List Value) : ((mcells M tail).drop (i * c)).take c = (M.getD i []).map cb := by
  obtain ⟨e1, e2⟩ := h.self hi tail
  rw [e1, List.drop_left' e2, List.take_left' (by rw [List.length_map, h.get hi])]
theorem Mat.at_ {M : List (List UInt8)} {r c i k : Nat} (h : Mat M r c) (hi : i < r) (hk : k < c) (tail : List Value) : (mcells M tail)[i * c + k]? = some (cb ((M.getD i []).getD k 0)) := by
  obtain ⟨e1, e2⟩ := h.self hi tail
  have hl := h.get hi
  rw [e1, List.getElem?_append_right (by omega), e2, Nat.add_sub_cancel_left, List.getElem?_append_left (by rw [List.length_map, hl]; exact hk), List.getElem?_map, List.getD_eq_getElem?_getD (l := M.getD i []), List.getElem?_eq_getElem (by omega)]; rfl
theorem Mat.fits {M : List (List UInt8)} {r c i : Nat} (h : Mat M r c) (hi : i < r) (tail : List Value) : i * c + c ≤ (mcells M tail).length := by
  have h2 := Nat.mul_le_mul_right c (show i + 1 ≤ r from hi)
  rw [Nat.add_mul, Nat.one_mul] at h2
  rw [h.cells]
  omega
theorem Mat.set1 {M : List (List UInt8)} {r c i k : Nat} (h : Mat M r c) (hi : i < r) (hk : k < c) (tail : List Value) (x : UInt8) : Go.Proofs.Ytfnneneaalaagaa.lay (mcells M tail) (i * c + k) [cb x] = mcells (M.set i ((M.getD i []).set k x)) tail := by
  have hl := h.get hi
  have e := h.lay hi tail (M.getD i []) hl
  rw [set_getD] at e
  have f := h.fits hi tail
  rw [← h.lay hi tail ((M.getD i []).set k x) (by rw [List.length_set]; exact hl), List.map_set, ← lay_lay1 _ _ _ _ _ (by rw [List.length_map, hl]; exact f) (by rw [List.length_map, hl]; exact hk), e]
/-- The rows that m's elements are. -/
theorem getD_set_self (M : List (List UInt8)) (i : Nat) (l : List UInt8) (h : i < M.length) : (M.set i l).getD i [] = l := by
  rw [List.getD_eq_getElem?_getD, List.getElem?_set_self h]; rfl
theorem getD_set_ne' (M : List (List UInt8)) (i j : Nat) (l : List UInt8) (h : i ≠ j) : (M.set i l).getD j [] = M.getD j [] := by
  rw [List.getD_eq_getElem?_getD, List.getElem?_set_ne h, ← List.getD_eq_getElem?_getD]
def swapK (M : List (List UInt8)) (i j k : Nat) : List (List UInt8) := (M.set i ((M.getD j []).take k ++ (M.getD i []).drop k)).set j ((M.getD i []).take k ++ (M.getD j []).drop k)
theorem take_getD' (b : List UInt8) (k : Nat) (h : k < b.length) : b.take (k + 1) = b.take k ++ [b.getD k 0] := by
  rw [List.take_succ_eq_append_getElem h, List.getD_eq_getElem?_getD, List.getElem?_eq_getElem h]; rfl
theorem mix_set (a b : List UInt8) (k : Nat) (ha : k < a.length) (hab : a.length = b.length) : (a.take k ++ b.drop k).set k (a.getD k 0) = a.take (k + 1) ++ b.drop (k + 1) := by
  have hl : (a.take k).length = k := by rw [List.length_take]; omega
  have e : b.drop k = b.getD k 0 :: b.drop (k + 1) := by rw [List.drop_eq_getElem_cons (by omega), List.getD_eq_getElem?_getD, List.getElem?_eq_getElem (by omega)]; rfl
  rw [e, List.set_append_right _ _ (by omega), hl, Nat.sub_self, List.set_cons_zero, take_getD' a k ha, List.append_assoc]; rfl

theorem set4 {α : Type} (M : List α) (i j : Nat) (hij : i ≠ j) (X Y X' Y' : α) : (((M.set i X).set j Y).set i X').set j Y' = (M.set i X').set j Y' := by
  rw [List.set_comm Y X' (Ne.symm hij), List.set_set, List.set_set]
theorem swapK_step {M : List (List UInt8)} {r c i j k : Nat} (h : Mat M r c) (hi : i < r) (hj : j < r) (hk : k < c) (hij : i ≠ j) :
    Mat (swapK M i j k) r c ∧ ((swapK M i j k).getD i []).getD k 0 = (M.getD i []).getD k 0 ∧ ((swapK M i j k).getD j []).getD k 0 = (M.getD j []).getD k 0 ∧
      ((swapK M i j k).set i (((swapK M i j k).getD i []).set k ((M.getD j []).getD k 0))).set j ((((swapK M i j k).set i (((swapK M i j k).getD i []).set k ((M.getD j []).getD k 0))).getD j []).set k ((M.getD i []).getD k 0)) = swapK M i j (k + 1) := by
  have hli := h.get hi
  have hlj := h.get hj
  obtain ⟨a, ha⟩ : ∃ a, a = M.getD i [] := ⟨_, rfl⟩
  obtain ⟨b, hb⟩ : ∃ b, b = M.getD j [] := ⟨_, rfl⟩
  rw [← ha] at hli
  rw [← hb] at hlj
  have hM : Mat (swapK M i j k) r c := by
    unfold swapK
    rw [← ha, ← hb]
    exact (h.set i _ (by rw [List.length_append, List.length_take, List.length_drop]; omega)).set j _ (by rw [List.length_append, List.length_take, List.length_drop]; omega)
  have ei : (swapK M i j k).getD i [] = b.take k ++ a.drop k := by
    rw [swapK, getD_set_ne' _ _ _ _ (Ne.symm hij), getD_set_self _ _ _ (by rw [h.len]; exact hi), ← ha, ← hb]
  have ej : (swapK M i j k).getD j [] = a.take k ++ b.drop k := by
    rw [swapK, getD_set_self _ _ _ (by rw [List.length_set, h.len]; exact hj), ← ha, ← hb]
  have at_ : ∀ (x y : List UInt8), x.length = c → y.length = c → (x.take k ++ y.drop k).getD k 0 = y.getD k 0 := fun x y hx hy => by
    rw [List.getD_eq_getElem?_getD, List.getElem?_append_right (by rw [List.length_take]; omega), List.length_take, Nat.min_eq_left (by omega), Nat.sub_self, List.getElem?_drop, Nat.add_zero, ← List.getD_eq_getElem?_getD]
  refine ⟨hM, by rw [ei, at_ b a hlj hli, ha], by rw [ej, at_ a b hli hlj, hb], ?_⟩
  rw [getD_set_ne' _ _ _ _ hij, ei, ej, ← ha, ← hb, mix_set b a k (by omega) (by omega), mix_set a b k (by omega) (by omega), swapK, swapK, ← ha, ← hb, set4 _ _ _ hij]
theorem swapK_zero (M : List (List UInt8)) (i j : Nat) : swapK M i j 0 = M := by
  rw [swapK, List.take_zero, List.take_zero, List.nil_append, List.nil_append, List.drop_zero, List.drop_zero, set_getD]
  rcases Nat.lt_or_ge j M.length with h | h
  · exact set_getD M j
  · exact List.set_eq_of_length_le h
def swapM (M : List (List UInt8)) (i j : Nat) : List (List UInt8) := (M.set i (M.getD j [])).set j (M.getD i [])
theorem swapK_all {M : List (List UInt8)} {r c i j : Nat} (h : Mat M r c) (hi : i < r) (hj : j < r) : swapK M i j c = swapM M i j := by
  have hli := h.get hi
  have hlj := h.get hj
  rw [swapK, swapM, List.take_of_length_le (by omega), List.take_of_length_le (by omega), List.drop_of_length_le (by omega), List.drop_of_length_le (by omega), List.append_nil, List.append_nil]
theorem swapM_self (M : List (List UInt8)) (i : Nat) : swapM M i i = M := by rw [swapM, List.set_set, set_getD]
end Go.Proofs.Ytfnneneaalaagaa
