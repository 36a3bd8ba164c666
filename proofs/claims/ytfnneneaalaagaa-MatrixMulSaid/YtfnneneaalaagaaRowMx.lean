/- A matrix, a slice of numbers, two numbers, that came in. -/
import Derived.Test.YtfnneneaalaagaaRowPtrB
import Derived.Test.YtfnneneaalaagaaLaw26b
namespace Go.Proofs.Ytfnneneaalaagaa
open Go.RowKit Go.ChangeShapes Go.WideShapes

theorem open_ints8 {H : Type} {enc : TypeId × Value → H} {P : Program} {W : World} {base : Nat} {spare : Nat → Bool} {held : Bool} {t e : TypeId} {cs : List Value} {x : DataW H × List MemPlace} {fuel : Nat}
    (hu : P.underlying t = some (.slice e)) (he : P.underlying e = some (.int .u8)) (hc : P.cellsOf e = 1)
    (h : DataW.trod enc P W base spare held fuel t cs = some x) : ∃ (A : Option Addr) (xs : List UInt8) (cap : Nat), cs = [.slice A xs.length cap] ∧ RR (U8 e) W (.slice A xs.length cap) xs ∧ xs.length ≤ cap := by
  have hcs : ∃ a len cap, cs = [.slice a len cap] := by
    rcases open_ints hu he hc h with ⟨h1, _⟩ | ⟨x, l, c, zs, h1, _⟩
    · exact ⟨_, _, _, h1⟩
    · exact ⟨_, _, _, h1⟩
  obtain ⟨a, len, cap, rfl⟩ := hcs
  obtain ⟨d, ps⟩ := x
  obtain ⟨xs, hx⟩ := open_bytes (a := a) (len := len) (cap := cap) (d := d) (ps := ps) hu he hc ⟨fuel, by simpa [Value.cells] using h⟩
  obtain ⟨A', c', e', h1, h2⟩ := id hx
  injection e' with e1 e2 e3
  subst e2
  subst e3
  exact ⟨a, xs, cap, rfl, hx, h1⟩
theorem open_i64s {H : Type} {enc : TypeId × Value → H} {P : Program} {W : World} {base : Nat} {spare : Nat → Bool} {held : Bool} {t e : TypeId} {a : Option Addr} {len cap : Nat} {d : DataW H} {ps : List MemPlace}
    (hu : P.underlying t = some (.slice e)) (he : P.underlying e = some (.int .i64)) (hc : P.cellsOf e = 1)
    (h : DataW.Trod enc P W base spare held t (.slice a len cap) d ps) : ∃ xs : List Int, RI W (.slice a len cap) xs := by
  obtain ⟨fuel, hf⟩ := h
  rcases open_ints hu he hc hf with ⟨hcs, _⟩ | ⟨x, l, c, zs, hcs, _, hl, hm, hz, _, hcell, hwz⟩
  · simp [Value.cells] at hcs
    obtain ⟨rfl, rfl, rfl⟩ := hcs
    exact ⟨[], RR.nil W⟩
  · simp [Value.cells] at hcs
    obtain ⟨rfl, rfl, rfl⟩ := hcs
    have hlz : len ≤ zs.length := by
      rw [hz]
      split
      · exact hl
      · exact Nat.le_refl _
    have hz2 : (zs.take len).length = len := by simp; omega
    refine ⟨zs.take len, some x, cap, by rw [hz2], by omega, by simp only [maxLen] at hm; omega, fun _ => ⟨x, rfl, fun j u hj => ?_⟩⟩
    have hall : ∀ ys : List Int, I64T.all ys = ys.map fun n => .int .i64 n := fun ys => by
      induction ys with
      | nil => rfl
      | cons y ys ih => rw [Ty.all_cons, ih]; rfl
    rw [hall] at hj
    have hjl : j < len := by have := (List.getElem?_eq_some_iff.1 hj).1; simp at this; omega
    rw [hcell j (by omega), ← hj]
    simp [List.getElem?_map, List.getElem?_take, hjl, List.getElem?_eq_getElem (show j < zs.length by omega), List.getD_eq_getElem?_getD]
theorem open_mx {H : Type} {enc : TypeId × Value → H} {W : World} {base : Nat} {spare : Nat → Bool} {held : Bool} {v : Value} {d : DataW H} {ps : List MemPlace} {r : Reach} {b2 : Nat} {W2 : World}
    (h : DataW.Trod enc Try.prog W base spare held 32 v d ps) (hv : Value.okWide Try.prog W2 r b2 32 v) : ∃ (x y : Int) (A : Option Addr) (l : List UInt8) (cp : Nat), v = .agg (mxT.enc (x, y, A, l.length, cp)).toArray ∧ RB W (.slice A l.length cp) l ∧ l.length ≤ cp := by
  obtain ⟨cs, rfl, _⟩ := okWide_struct Try.underlying32 hv
  obtain ⟨fuel, hf⟩ := h
  cases fuel with
  | zero => simp [DataW.trod] at hf
  | succ fuel =>
    have hc3 : Try.prog.cellsOf 32 = 3 := by kernel_rfl
    have hc1 : Try.prog.cellsOf 3 = 1 := by kernel_rfl
    have hcs : Try.prog.cellsOf 22 = 1 := by kernel_rfl
    have hcu : Try.prog.cellsOf 5 = 1 := by kernel_rfl
    obtain ⟨hl, hff⟩ := trod_fields Try.underlying32 hf
    rw [hc3] at hl
    simp only [List.mem_cons, List.not_mem_nil, or_false, forall_eq_or_imp, forall_eq] at hff
    obtain ⟨⟨y0, h0⟩, ⟨y1, h1⟩, ⟨y2, h2⟩⟩ := hff
    rw [hc1] at h0 h1
    rw [hcs] at h2
    obtain ⟨n0, e0, _⟩ := trod_leaf Try.underlying3 h0
    obtain ⟨n1, e1, _⟩ := trod_leaf Try.underlying3 h1
    obtain ⟨A, xs, cap, e2, hx, hcap⟩ := open_ints8 Try.underlying22 Try.underlying5 hcu h2
    have g0 := take_one e0
    have g1 := take_one e1
    have g2 := take_one e2
    refine ⟨n0, n1, A, xs, cap, ?_, hx, hcap⟩
    have hcells : (Value.agg cs).cells = cs := by simp [Value.cells]
    rw [hcells] at g0 g1 g2 hl
    rcases cs with ⟨cl⟩
    simp only at g0 g1 g2 hl
    rcases cl with _ | ⟨a, _ | ⟨b, _ | ⟨c, _ | ⟨d, t⟩⟩⟩⟩ <;> simp at hl g0 g1 g2
    subst g0 g1 g2
    rfl
set_option maxRecDepth 100000 in
theorem open_i2 {H : Type} {enc : TypeId × Value → H} {W : World} {base : Nat} {spare : Nat → Bool} {held : Bool} {v : Value} {d : DataW H} {ps : List MemPlace} {r : Reach} {b2 : Nat} {W2 : World}
    (h : DataW.Trod enc Try.prog W base spare held 34 v d ps) (hv : Value.okWide Try.prog W2 r b2 34 v) : ∃ x y : Int, v = .agg (i2T.enc (x, y)).toArray := by
  have hw : ∃ cs, v = .agg cs := by
    simp only [Value.okWide, Try.underlying34] at hv
    obtain ⟨cs, h1, _⟩ := hv
    exact ⟨cs, h1⟩
  obtain ⟨cs, rfl⟩ := hw
  obtain ⟨fuel, hf⟩ := h
  cases fuel with
  | zero => simp [DataW.trod] at hf
  | succ fuel =>
    have hc : Try.prog.cellsOf 34 = 2 := by kernel_rfl
    have hc1 : Try.prog.cellsOf 3 = 1 := by kernel_rfl
    obtain ⟨hl, ha⟩ := trod_array Try.underlying34 hf
    rw [hc] at hl
    obtain ⟨y0, h0⟩ := ha 0 (by omega)
    obtain ⟨y1, h1⟩ := ha 1 (by omega)
    rw [hc1] at h0 h1
    obtain ⟨n0, e0, _⟩ := trod_leaf Try.underlying3 h0
    obtain ⟨n1, e1, _⟩ := trod_leaf Try.underlying3 h1
    have g0 := take_one e0
    have g1 := take_one e1
    refine ⟨n0, n1, ?_⟩
    have hcells : (Value.agg cs).cells = cs := by simp [Value.cells]
    rw [hcells] at g0 g1 hl
    rcases cs with ⟨cl⟩
    simp only at g0 g1 hl
    rcases cl with _ | ⟨a, _ | ⟨b, _ | ⟨c, t⟩⟩⟩ <;> simp at hl g0 g1
    subst g0 g1
    rfl
end Go.Proofs.Ytfnneneaalaagaa
