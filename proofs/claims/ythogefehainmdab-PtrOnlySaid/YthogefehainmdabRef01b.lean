/- The reference's short number, taken. -/
import Derived.Test.YthogefehainmdabRef01
namespace Go.Proofs.Ythogefehainmdab
open Go.RowKit

theorem strB {w : World} {v : Value} {xs : List UInt8} (h : RB w v xs) : (convert 22 9 v).run Try.prog w = .ok (.string (str xs)) w :=
  RR.string (P := Try.prog) h Try.underlying22 Try.underlying5 Try.underlying9

def nxt (acc k c : Nat) : Nat := (acc + c % 128 * 128 ^ k) % 18446744073709551616
theorem nxt_eq (acc k c : Nat) : IntKind.u64.wrap ((acc : Int) + IntKind.u64.wrap ((c : Int) % 128 * 2 ^ (7 * k))) = ((nxt acc k c : Nat) : Int) := by
  have hp : (2 : Nat) ^ (7 * k) = 128 ^ k := by rw [Nat.pow_mul]
  have e1 : ((c : Int) % 128 * 2 ^ (7 * k)) = ((c % 128 * 128 ^ k : Nat) : Int) := by
    rw [← hp]; simp
  rw [e1]
  unfold nxt
  generalize c % 128 * 128 ^ k = q
  simp only [IntKind.wrap, IntKind.bits, IntKind.signed, Bool.false_and, Bool.false_eq_true, if_false]
  omega
theorem nxt_w (acc k c : Nat) : W64 (nxt acc k c) := by unfold W64 nxt; exact Nat.mod_lt _ (by omega)

theorem short_iff (xs : List UInt8) (acc k : Nat) (c : UInt8) (hk : k < xs.length) (h10 : k < 10) (hc : xs[k] = c) (hlt : c.toNat < 128) (ht : tkGo (10 - k) k acc (xs.drop k) = tk xs) :
    (putL (nxt acc k c.toNat) = xs.take (k + 1) → tk xs = (0, nxt acc k c.toNat, k + 1)) ∧ (putL (nxt acc k c.toNat) ≠ xs.take (k + 1) → tk xs = (3, 0, 0)) := by
  rw [List.drop_eq_getElem_cons hk, show 10 - k = (10 - (k + 1)) + 1 by omega, tkGo, hc, if_pos hlt] at ht
  constructor
  · intro h
    have hx : xs = putL (nxt acc k c.toNat) ++ xs.drop (k + 1) := by rw [h, List.take_append_drop]
    have h1 := tk_put (nxt acc k c.toNat) (xs.drop (k + 1)) (nxt_w _ _ _)
    rw [← hx, h, List.length_take, Nat.min_eq_left (by omega)] at h1
    exact h1
  · intro h
    by_cases hs : shortB k c = true
    · rw [if_pos hs] at ht
      exfalso
      apply h
      have hE : tkE xs = 0 := by unfold tkE; rw [← ht]
      have hN : tkN xs = acc + c.toNat * 128 ^ k := by unfold tkN; rw [← ht]
      obtain ⟨h1, h2, h3⟩ := tk_ok xs hE
      have hn : nxt acc k c.toNat = tkN xs := by
        unfold nxt
        rw [Nat.mod_eq_of_lt (show c.toNat < 128 from hlt), ← hN]
        exact Nat.mod_eq_of_lt h2
      rw [hn]
      rw [← ht] at h3
      conv => rhs; rw [h1]
      simp only at h3
      rw [h3, List.take_left]
    · rw [if_neg hs] at ht
      exact ht.symm

end Go.Proofs.Ythogefehainmdab
