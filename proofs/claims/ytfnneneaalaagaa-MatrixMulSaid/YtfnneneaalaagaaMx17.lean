/- Layer 26: each question of MatrixPick, asked of both. -/
import Derived.Test.YtfnneneaalaagaaMx16
import Derived.Test.YtfnneneaalaagaaMx11
import Derived.Test.YtfnneneaalaagaaMx9
import Derived.Test.YtfnneneaalaagaaLaw26a
namespace Go.Proofs.Ytfnneneaalaagaa
open Go.RowKit
set_option linter.unusedSimpArgs false
set_option linter.unusedVariables false

def GivesP (T : AT Try.prog MX) (w : World) (r c : Int) (l : List UInt8) (E : Int) (e : Ending) (w' : World) : Prop := ∃ A cp, e = .returned (.tuple #[.agg (T.enc (r, c, A, l.length, cp)).toArray, .int .i64 E]) ∧ OB w' w.heap.size (.slice A l.length cp) l ∧ Below w.heap.size w w'
theorem GivesP.zero {T : AT Try.prog MX} {w : World} {e : Ending} {w' : World} (hz : T.zero = (0, 0, none, 0, 0)) (h : e = .returned (.tuple #[.agg (T.enc T.zero).toArray, .int .i64 1]) ∧ Below w.heap.size w w') : GivesP T w 0 0 [] 1 e w' := ⟨none, 0, by rw [h.1, hz]; rfl, OR.nil _ _, h.2⟩
theorem GivesP.of {T : AT Try.prog MX} {w : World} {r c : Nat} {l : List UInt8} {E : Int} {e : Ending} {w' : World} (h : GivesMx T w r c l E e w') : GivesP T w r c l E e w' := h
theorem Unit_pair (k : Int) : ∃ r c l E, (∀ w, Calls Try.prog 24 #[.int .i64 k] w fun e w' => GivesP mxT w r c l E e w') ∧ (∀ w, Calls Try.prog 25 #[.int .i64 k] w fun e w' => GivesP rxT w r c l E e w') := by
  cases h : sizeB k with
  | true =>
    have h2 := (sizeB_iff k).1 h
    obtain ⟨n, rfl⟩ : ∃ n : Nat, k = (n : Int) := ⟨k.toNat, by omega⟩
    exact ⟨n, n, _, 0, fun w => (Unit_ok n w (by omega) (by omega)).mono fun e w' h => .of h, fun w => (rUnit_ok n w (by omega) (by omega)).mono fun e w' h => .of h⟩
  | false => exact ⟨0, 0, [], 1, fun w => (Unit_bad k w h).mono fun e w' h => .zero rfl h, fun w => (rUnit_bad k w h).mono fun e w' h => .zero rfl h⟩
theorem Code_pair (k n : Int) : ∃ r c l E, (∀ w, Calls Try.prog 26 #[.int .i64 k, .int .i64 n] w fun e w' => GivesP mxT w r c l E e w') ∧ (∀ w, Calls Try.prog 27 #[.int .i64 k, .int .i64 n] w fun e w' => GivesP rxT w r c l E e w') := by
  by_cases h : 1 ≤ k ∧ k ≤ n ∧ n ≤ 32
  · obtain ⟨a, rfl⟩ : ∃ a : Nat, k = (a : Int) := ⟨k.toNat, by omega⟩
    obtain ⟨b, rfl⟩ : ∃ b : Nat, n = (b : Int) := ⟨n.toNat, by omega⟩
    exact ⟨b, a, _, 0, fun w => (Code_ok a b w (by omega) (by omega) (by omega)).mono fun e w' h => .of h, fun w => (rCode_ok a b w (by omega) (by omega) (by omega)).mono fun e w' h => .of h⟩
  · have h2 : k < 1 ∨ n < k ∨ 32 < n := by omega
    exact ⟨0, 0, [], 1, fun w => (Code_bad k n w h2).mono fun e w' h => .zero rfl h, fun w => (rCode_bad k n w h2).mono fun e w' h => .zero rfl h⟩
theorem Pick_pair (l : List UInt8) (r c : Int) (A0 : Option Addr) (cp0 : Nat) (vr : Value) (rs : List Int) (hcp : l.length ≤ cp0) : ∃ r' c' l' E,
    (∀ w, RB w (.slice A0 l.length cp0) l → RI w vr rs → Calls Try.prog 21 #[.agg (mxT.enc (r, c, A0, l.length, cp0)).toArray, vr] w fun e w' => GivesP mxT w r' c' l' E e w') ∧
    (∀ w, RB w (.slice A0 l.length cp0) l → RI w vr rs → Calls Try.prog 22 #[.agg (rxT.enc (r, c, A0, l.length, cp0)).toArray, vr] w fun e w' => GivesP rxT w r' c' l' E e w') := by
  cases hm : mayB r c l.length with
  | false => exact ⟨0, 0, [], 1, fun w _ hr => (Pick_bad r c _ A0 cp0 vr rs w hr (.inl hm)).mono fun e w' h => .zero rfl h, fun w _ hr => (rPick_bad r c _ A0 cp0 vr rs w hr (.inl hm)).mono fun e w' h => .zero rfl h⟩
  | true =>
    cases hs : sizeB (rs.length : Int) with
    | false => exact ⟨0, 0, [], 1, fun w _ hr => (Pick_bad r c _ A0 cp0 vr rs w hr (.inr (.inl ⟨hm, hs⟩))).mono fun e w' h => .zero rfl h, fun w _ hr => (rPick_bad r c _ A0 cp0 vr rs w hr (.inr ⟨hm, hs⟩)).mono fun e w' h => .zero rfl h⟩
    | true =>
      have h0 := hm
      unfold mayB at h0
      split at h0
      case isFalse => cases h0
      rename_i hr
      split at h0
      case isFalse => cases h0
      rename_i hc
      have hr2 := (sizeB_iff r).1 hr
      have hc2 := (sizeB_iff c).1 hc
      have hs2 := (sizeB_iff _).1 hs
      obtain ⟨a, rfl⟩ : ∃ a : Nat, r = (a : Int) := ⟨r.toNat, by omega⟩
      obtain ⟨b, rfl⟩ : ∃ b : Nat, c = (b : Int) := ⟨c.toNat, by omega⟩
      have hl : l.length = a * b := by have := beq_iff_eq.1 h0; exact_mod_cast this
      have P1 := fun w h1 h2 => Pick_main l a b l.length A0 cp0 vr rs w (by omega) (by omega) (by omega) (by omega) hl rfl h1 hcp h2 (by omega) (by omega)
      have P2 := fun w h1 h2 => rPick_main l a b l.length A0 cp0 vr rs w (by omega) (by omega) (by omega) (by omega) hl rfl h1 hcp h2 (by omega) (by omega)
      cases hb : rs.any (badRow (a : Int)) with
      | false =>
        have K : ∀ {T : AT Try.prog MX} {w e w'}, PickPost T w l a b rs e w' → GivesP T w rs.length b (pickL l b rs) 0 e w' := fun h => h.elim (fun h => .of h.2) (fun h => by rw [hb] at h; cases h.1)
        exact ⟨rs.length, b, _, 0, fun w h1 h2 => (P1 w h1 h2).mono fun e w' h => K h, fun w h1 h2 => (P2 w h1 h2).mono fun e w' h => K h⟩
      | true =>
        have K : ∀ {T : AT Try.prog MX} {w e w'}, T.zero = (0, 0, none, 0, 0) → PickPost T w l a b rs e w' → GivesP T w 0 0 [] 1 e w' := fun hz h => h.elim (fun h => by rw [hb] at h; cases h.1) (fun h => .zero hz h.2)
        exact ⟨0, 0, [], 1, fun w h1 h2 => (P1 w h1 h2).mono fun e w' h => K rfl h, fun w h1 h2 => (P2 w h1 h2).mono fun e w' h => K rfl h⟩
end Go.Proofs.Ytfnneneaalaagaa
