/- A pointer, and four of them, that came in. -/
import Derived.Test.YtfnneneaalaagaaRowKit
namespace Go.Proofs.Ytfnneneaalaagaa
open Go.RowKit Go.ChangeShapes Go.WideShapes

theorem trod_leaf {H : Type} {enc : TypeId × Value → H} {P : Program} {W : World} {base : Nat} {spare : Nat → Bool} {held : Bool} {t : TypeId} {k : IntKind} {cs : List Value} {x : DataW H × List MemPlace} {fuel : Nat}
    (hu : P.underlying t = some (.int k)) (h : DataW.trod enc P W base spare held fuel t cs = some x) : ∃ n, cs = [.int k n] ∧ (Lit.int k n).wf = true := by
  cases fuel with
  | zero => simp [DataW.trod] at h
  | succ fuel =>
    rcases cs with _ | ⟨v, _ | ⟨u, r⟩⟩
    · simp [DataW.trod, hu] at h
    · cases v <;> simp [DataW.trod, hu] at h
      rename_i k' n
      obtain ⟨⟨rfl, h1⟩, _⟩ := h
      exact ⟨n, rfl, h1⟩
    · simp [DataW.trod, hu] at h
theorem mapM_each {β γ : Type} (f : β → Option γ) : ∀ (l : List β) (r : List γ), l.mapM f = some r → ∀ x ∈ l, ∃ y, f x = some y
  | [], _, _, x, hx => by simp at hx
  | b :: l, r, h, x, hx => by
    simp only [List.mapM_cons, Option.bind_eq_bind, Option.pure_def] at h
    cases hb : f b with
    | none => simp [hb] at h
    | some y =>
      cases hl : l.mapM f with
      | none => simp [hb, hl] at h
      | some ys =>
        rcases List.mem_cons.mp hx with rfl | hx
        · exact ⟨y, hb⟩
        · exact mapM_each f l ys hl x hx
/-- A row of m elements, each one of which reads. -/
theorem trod_array {H : Type} {enc : TypeId × Value → H} {P : Program} {W : World} {base : Nat} {spare : Nat → Bool} {held : Bool} {t e : TypeId} {m : Nat} {cs : List Value} {x : DataW H × List MemPlace} {fuel : Nat}
    (hu : P.underlying t = some (.array m e)) (h : DataW.trod enc P W base spare held (fuel + 1) t cs = some x) :
    cs.length = P.cellsOf t ∧ ∀ i, i < m → ∃ y, DataW.trod enc P W base spare held fuel e ((cs.drop (i * P.cellsOf e)).take (P.cellsOf e)) = some y := by
  unfold DataW.trod at h
  rw [hu] at h
  simp only at h
  split at h
  · rename_i hl
    refine ⟨hl, fun i hi => ?_⟩
    cases hm : (List.range m).mapM fun i => DataW.trod enc P W base spare held fuel e ((cs.drop (i * P.cellsOf e)).take (P.cellsOf e)) with
    | none => simp [hm] at h
    | some r => exact mapM_each _ _ _ hm i (by simpa using hi)
  · cases h
theorem trod_fields {H : Type} {enc : TypeId × Value → H} {P : Program} {W : World} {base : Nat} {spare : Nat → Bool} {held : Bool} {t : TypeId} {fs : Array Field} {cs : List Value} {x : DataW H × List MemPlace} {fuel : Nat}
    (hu : P.underlying t = some (.struct fs)) (h : DataW.trod enc P W base spare held (fuel + 1) t cs = some x) :
    cs.length = P.cellsOf t ∧ ∀ f ∈ fs.toList, ∃ y, DataW.trod enc P W base spare held fuel f.type ((cs.drop f.offset).take (P.cellsOf f.type)) = some y := by
  unfold DataW.trod at h
  rw [hu] at h
  simp only at h
  split at h
  · rename_i hl
    refine ⟨hl, fun f hf => ?_⟩
    cases hm : fs.toList.mapM fun f => DataW.trod enc P W base spare held fuel f.type ((cs.drop f.offset).take (P.cellsOf f.type)) with
    | none => simp [hm] at h
    | some r => exact mapM_each _ _ _ hm f hf
  · cases h

/-- A list, each cell of which is told. -/
theorem list_of {α : Type} (f : α → Value) (cs : List Value) (h : ∀ i, i < cs.length → ∃ x, cs[i]? = some (f x)) : ∃ l : List α, l.length = cs.length ∧ cs = l.map f := by
  induction cs with
  | nil => exact ⟨[], rfl, rfl⟩
  | cons c cs ih =>
    obtain ⟨x, hx⟩ := h 0 (by simp)
    obtain ⟨l, hl, he⟩ := ih (fun i hi => by
      obtain ⟨y, hy⟩ := h (i + 1) (by simpa using hi)
      exact ⟨y, by simpa using hy⟩)
    refine ⟨x :: l, by simp [hl], ?_⟩
    rw [List.map_cons, ← he]
    simp at hx
    rw [hx]
theorem wf_u32' {a : Int} (h : (Lit.int .u32 a).wf = true) : ∃ x : UInt32, a = (x.toNat : Int) := by
  obtain ⟨n, rfl, hn⟩ := wf_u32 h
  exact ⟨UInt32.ofNat n, by rw [UInt32.toNat_ofNat', Nat.mod_eq_of_lt hn]⟩
theorem take_one {cs : List Value} {i : Nat} {v : Value} (h : (cs.drop i).take 1 = [v]) : cs[i]? = some v := by
  have := congrArg (fun l => l[0]?) h
  simp only [List.getElem?_take, List.getElem?_drop, Nat.add_zero] at this
  simpa using this

end Go.Proofs.Ytfnneneaalaagaa
