/- Layer 26: rows that are named; slices of numbers. -/
import Derived.Test.YtfnneneaalaagaaMx12
namespace Go.Proofs.Ytfnneneaalaagaa
open Go.RowKit
set_option linter.unusedSimpArgs false
set_option linter.unusedVariables false

def I64T : Ty Int where
  id := 3
  sz := 1
  bytes := 8
  zero := .int .i64 0
  enc := fun x => [.int .i64 x]
  hlen := fun _ => rfl
  hone := fun x u hu => by rw [List.mem_singleton] at hu; subst hu; rfl
  hsz := by decide
  hby := by decide
abbrev RI (w : World) (v : Value) (xs : List Int) : Prop := RR I64T w v xs
theorem RI.byte {w : World} {A : Option Addr} {n c : Nat} {xs : List Int} (h : RI w (.slice A n c) xs) (k : Nat) (hk : k < xs.length) : ∃ ad, A = some ad ∧ w.cell? (ad.add k) = some (.int .i64 (xs.getD k 0)) := by
  obtain ⟨ad, e, hc⟩ := h.at_ k hk
  refine ⟨ad, e, ?_⟩
  have := hc 0 (.int .i64 xs[k]) rfl
  rw [show k * I64T.sz + 0 = k from by show k * 1 + 0 = k; omega] at this
  rw [this, List.getD_eq_getElem?_getD, List.getElem?_eq_getElem hk]
  rfl
/-- The place of the first that names no row. -/
def badR (r : Int) : List Int → Nat → Int
  | [], _ => -1
  | x :: t, k => if badRow r x = true then (k : Int) else badR r t (k + 1)
theorem badR_any (r : Int) : ∀ (l : List Int) (k : Nat), decide (0 ≤ badR r l k) = l.any (badRow r)
  | [], k => rfl
  | x :: t, k => by
    rw [badR, List.any_cons]
    cases h : badRow r x with
    | true => simp
    | false => simp [badR_any r t (k + 1)]
theorem badR_range (r : Int) : ∀ (l : List Int) (k : Nat), -1 ≤ badR r l k ∧ badR r l k ≤ (k : Int) + (l.length : Int)
  | [], k => by rw [badR]; simp
  | x :: t, k => by
    rw [badR]
    split
    · rw [List.length_cons]; omega
    · have := badR_range r t (k + 1)
      rw [List.length_cons]; push_cast at this ⊢; omega
set_option maxHeartbeats 800000 in
set_option maxRecDepth 100000 in
theorem idx2_any (r : Int) (b : Nat) (v : Value) (l : List Int) (w : World) (hb : w.cell? ⟨b, 0, none⟩ = some (.int .i64 r)) (hv : RI w v l) (hl : l.length ≤ 1000000) :
    Calls Try.prog 72 #[v, fnV 48 #[.pointer (some ⟨b, 0, none⟩)]] w fun e w' => e = .returned (.int .i64 (badR r l 0)) ∧ w = w' := by
  obtain ⟨A, c, rfl, hc⟩ := id hv.len
  have hcell : ∀ k, k < l.length → ∃ ad, A = some ad ∧ w.cell? (ad.add k) = some (.int .i64 (l.getD k 0)) := fun k hk => RI.byte hv k hk
  obtain ⟨q, hq⟩ : ∃ q, q = badR r l 0 := ⟨_, rfl⟩
  rw [← hq]
  have HC := Lib.hid hcell
  have HR := Lib.hid hq
  have CN := Lib.hid (fun x => Pick1_any r x b w hb)
  clear hcell hv hq hb
  go_enter Try.func72, Try.ntmps72
  go_wp2
  go_loop [8] (fun v8 => ∃ k : Nat, v8 = .int .i64 (k : Int) ∧ k ≤ l.length ∧ Hid (badR r (l.drop k) k = q)) (fun v => l.length - (intOf v).toNat)
  case atStart => exact ⟨0, rfl, by omega, HR.out.symm⟩
  case round =>
    obtain ⟨k, rfl, hk, HK⟩ := hrel
    by_cases hkn : k < l.length
    · have hki : (k : Int) < (l.length : Int) := by omega
      obtain ⟨ad, rfl, hcl⟩ := HC.out k hkn
      have e : l.drop k = l.getD k 0 :: l.drop (k + 1) := by rw [List.drop_eq_getElem_cons hkn, List.getD_eq_getElem?_getD, List.getElem?_eq_getElem hkn]; rfl
      have hh := HK.out
      rw [e, badR] at hh
      have cN := CN.out (l.getD k 0)
      generalize l.getD k 0 = x at hcl hh cN
      cases hb : badRow r x with
      | false =>
        rw [hb] at cN
        rw [if_neg (by rw [hb]; simp)] at hh
        have HH := Lib.hid hh
        clear hh e hb
        go_wp2_with (first
          | (go_at_call 48; (with_reducible refine cN.mono ?_); rintro e w2 ⟨rfl, rfl⟩))
        go_round
        case rel => exact ⟨k + 1, by go_num, by omega, HH⟩
        case measure => simp [intOf] <;> omega
      | true =>
        rw [hb] at cN
        rw [if_pos hb] at hh
        have HH := Lib.hid hh
        clear hh e hb
        go_wp2_with (first
          | (go_at_call 48; (with_reducible refine cN.mono ?_); rintro e w2 ⟨rfl, rfl⟩))
        go_ret
        exact ⟨by rw [← HH.out]; rfl, rfl⟩
    · have hh := HK.out
      rw [List.drop_of_length_le (by omega), badR] at hh
      have HH := Lib.hid hh
      clear hh
      go_wp2
      go_ret
      exact ⟨by rw [← HH.out]; rfl, rfl⟩
theorem contains_any (r : Int) (b : Nat) (v : Value) (l : List Int) (w : World) (hb : w.cell? ⟨b, 0, none⟩ = some (.int .i64 r)) (hv : RI w v l) (hl : l.length ≤ 1000000) :
    Calls Try.prog 50 #[v, fnV 48 #[.pointer (some ⟨b, 0, none⟩)]] w fun e w' => e = .returned (.bool (l.any (badRow r))) ∧ w = w' := by
  have cI := idx2_any r b v l w hb hv hl
  have ha := badR_any r l 0
  obtain ⟨A, c, rfl, hc⟩ := id hv.len
  generalize l.any (badRow r) = z at *
  generalize badR r l 0 = q at *
  clear hv hb
  go_enter Try.func50, Try.ntmps50
  go_wp2_with (first
    | (go_at_call 72; (with_reducible refine cI.mono ?_); rintro e w2 ⟨rfl, rfl⟩))
  go_ret
  exact ⟨by simp [ha], rfl⟩
end Go.Proofs.Ytfnneneaalaagaa
