/- A pointer, and four of them, that came in. -/
import Derived.Test.YthogefehainmdabRowKit
import Derived.Test.YthogefehainmdabPtr6
namespace Go.Proofs.Ythogefehainmdab
open Go.RowKit Go.ChangeShapes Go.WideShapes

theorem trod_leaf {H : Type} {enc : TypeId × Value → H} {P : Program} {W : World} {base : Nat} {spare : Nat → Bool} {held : Bool} {t : TypeId} {k : IntKind} {cs : List Value} {x : DataW H × List MemPlace} {fuel : Nat}
    (hu : P.underlying t = some (.int k)) (h : DataW.trod enc P W base spare held fuel t cs = some x) : ∃ n, cs = [.int k n] ∧ (Lit.int k n).wf = true := by
  cases fuel with
  | zero => simp [DataW.trod] at h
  | succ fuel =>
    rcases cs with _ | ⟨v, _ | ⟨u, r⟩⟩
    · simp [DataW.trod, hu] at h
    · cases v <;> simp [DataW.trod, hu] at h
      rename_i k' n
      obtain ⟨⟨rfl, h1⟩, _⟩ := h
      exact ⟨n, rfl, h1⟩
    · simp [DataW.trod, hu] at h
theorem mapM_each {β γ : Type} (f : β → Option γ) : ∀ (l : List β) (r : List γ), l.mapM f = some r → ∀ x ∈ l, ∃ y, f x = some y
  | [], _, _, x, hx => by simp at hx
  | b :: l, r, h, x, hx => by
    simp only [List.mapM_cons, Option.bind_eq_bind, Option.pure_def] at h
    cases hb : f b with
    | none => simp [hb] at h
    | some y =>
      cases hl : l.mapM f with
      | none => simp [hb, hl] at h
      | some ys =>
        rcases List.mem_cons.mp hx with rfl | hx
        · exact ⟨y, hb⟩
        · exact mapM_each f l ys hl x hx
/-- A row of m elements, each one of which reads. -/
theorem trod_array {H : Type} {enc : TypeId × Value → H} {P : Program} {W : World} {base : Nat} {spare : Nat → Bool} {held : Bool} {t e : TypeId} {m : Nat} {cs : List Value} {x : DataW H × List MemPlace} {fuel : Nat}
    (hu : P.underlying t = some (.array m e)) (h : DataW.trod enc P W base spare held (fuel + 1) t cs = some x) :
    cs.length = P.cellsOf t ∧ ∀ i, i < m → ∃ y, DataW.trod enc P W base spare held fuel e ((cs.drop (i * P.cellsOf e)).take (P.cellsOf e)) = some y := by
  unfold DataW.trod at h
  rw [hu] at h
  simp only at h
  split at h
  · rename_i hl
    refine ⟨hl, fun i hi => ?_⟩
    cases hm : (List.range m).mapM fun i => DataW.trod enc P W base spare held fuel e ((cs.drop (i * P.cellsOf e)).take (P.cellsOf e)) with
    | none => simp [hm] at h
    | some r => exact mapM_each _ _ _ hm i (by simpa using hi)
  · cases h
theorem trod_fields {H : Type} {enc : TypeId × Value → H} {P : Program} {W : World} {base : Nat} {spare : Nat → Bool} {held : Bool} {t : TypeId} {fs : Array Field} {cs : List Value} {x : DataW H × List MemPlace} {fuel : Nat}
    (hu : P.underlying t = some (.struct fs)) (h : DataW.trod enc P W base spare held (fuel + 1) t cs = some x) :
    cs.length = P.cellsOf t ∧ ∀ f ∈ fs.toList, ∃ y, DataW.trod enc P W base spare held fuel f.type ((cs.drop f.offset).take (P.cellsOf f.type)) = some y := by
  unfold DataW.trod at h
  rw [hu] at h
  simp only at h
  split at h
  · rename_i hl
    refine ⟨hl, fun f hf => ?_⟩
    cases hm : fs.toList.mapM fun f => DataW.trod enc P W base spare held fuel f.type ((cs.drop f.offset).take (P.cellsOf f.type)) with
    | none => simp [hm] at h
    | some r => exact mapM_each _ _ _ hm f hf
  · cases h

/-- A list, each cell of which is told. -/
theorem list_of {α : Type} (f : α → Value) (cs : List Value) (h : ∀ i, i < cs.length → ∃ x, cs[i]? = some (f x)) : ∃ l : List α, l.length = cs.length ∧ cs = l.map f := by
  induction cs with
  | nil => exact ⟨[], rfl, rfl⟩
  | cons c cs ih =>
    obtain ⟨x, hx⟩ := h 0 (by simp)
    obtain ⟨l, hl, he⟩ := ih (fun i hi => by
      obtain ⟨y, hy⟩ := h (i + 1) (by simpa using hi)
      exact ⟨y, by simpa using hy⟩)
    refine ⟨x :: l, by simp [hl], ?_⟩
    rw [List.map_cons, ← he]
    simp at hx
    rw [hx]
theorem wf_u32' {a : Int} (h : (Lit.int .u32 a).wf = true) : ∃ x : UInt32, a = (x.toNat : Int) := by
  obtain ⟨n, rfl, hn⟩ := wf_u32 h
  exact ⟨UInt32.ofNat n, by rw [UInt32.toNat_ofNat', Nat.mod_eq_of_lt hn]⟩
theorem take_one {cs : List Value} {i : Nat} {v : Value} (h : (cs.drop i).take 1 = [v]) : cs[i]? = some v := by
  have := congrArg (fun l => l[0]?) h
  simp only [List.getElem?_take, List.getElem?_drop, Nat.add_zero] at this
  simpa using this

theorem open_pt {H : Type} {enc : TypeId × Value → H} {W : World} {base : Nat} {spare : Nat → Bool} {held : Bool} {cs : List Value} {x : DataW H × List MemPlace} {fuel : Nat}
    (h : DataW.trod enc Try.prog W base spare held fuel 33 cs = some x) : ∃ p : PT, cs = p.cells := by
  cases fuel with
  | zero => simp [DataW.trod] at h
  | succ fuel =>
    have hc35 : Try.prog.cellsOf 33 = 35 := by kernel_rfl
    have hc32 : Try.prog.cellsOf 29 = 32 := by kernel_rfl
    have hc2 : Try.prog.cellsOf 31 = 2 := by kernel_rfl
    have hc1 : Try.prog.cellsOf 5 = 1 := by kernel_rfl
    have hc4 : Try.prog.cellsOf 30 = 1 := by kernel_rfl
    obtain ⟨hl, hf⟩ := trod_fields Try.underlying33 h
    rw [hc35] at hl
    simp only [List.mem_cons, List.not_mem_nil, or_false, forall_eq_or_imp, forall_eq] at hf
    obtain ⟨⟨y0, h0⟩, ⟨y1, h1⟩, ⟨y2, h2⟩⟩ := hf
    rw [hc32, List.drop_zero] at h0
    rw [hc4] at h1
    rw [hc2] at h2
    cases fuel with
    | zero => simp [DataW.trod] at h0
    | succ fuel =>
      obtain ⟨hl0, ha0⟩ := trod_array Try.underlying29 h0
      obtain ⟨hl2, ha2⟩ := trod_array Try.underlying31 h2
      obtain ⟨nb, eb, wb⟩ := trod_leaf Try.underlying30 h1
      obtain ⟨b, rfl⟩ := wf_u32' wb
      have hu8 : ∀ i, i < 32 → ∃ x : UInt8, (cs.take 32)[i]? = some (cb x) := fun i hi => by
        obtain ⟨y, hy⟩ := ha0 i hi
        rw [hc1] at hy
        obtain ⟨n, en, wn⟩ := trod_leaf Try.underlying5 hy
        obtain ⟨z, rfl⟩ := wf_u8 wn
        rw [Nat.mul_one] at en
        exact ⟨z, take_one en⟩
      have hu32 : ∀ i, i < 2 → ∃ x : UInt32, ((cs.drop 33).take 2)[i]? = some (u32 x) := fun i hi => by
        obtain ⟨y, hy⟩ := ha2 i hi
        rw [hc4] at hy
        obtain ⟨n, en, wn⟩ := trod_leaf Try.underlying30 hy
        obtain ⟨z, rfl⟩ := wf_u32' wn
        rw [Nat.mul_one] at en
        exact ⟨z, take_one en⟩
      have hlt : (cs.take 32).length = 32 := by rw [List.length_take]; omega
      obtain ⟨hh, hhl, hhe⟩ := list_of cb (cs.take 32) (fun i hi => hu8 i (by omega))
      obtain ⟨z0, hz0⟩ := hu32 0 (by omega)
      obtain ⟨z1, hz1⟩ := hu32 1 (by omega)
      refine ⟨⟨hh, by rw [hhl, hlt], b, z0, z1⟩, ?_⟩
      have e1 := take_one eb
      rw [List.getElem?_take, List.getElem?_drop] at hz0 hz1
      simp only [Nat.add_zero, Nat.reduceAdd] at hz0 hz1
      rw [if_pos (by omega)] at hz0 hz1
      obtain ⟨k0, g0⟩ := List.getElem?_eq_some_iff.1 e1
      obtain ⟨k1, g1⟩ := List.getElem?_eq_some_iff.1 hz0
      obtain ⟨k2, g2⟩ := List.getElem?_eq_some_iff.1 hz1
      have hd : cs.drop 32 = [u32 b, u32 z0, u32 z1] := by
        rw [List.drop_eq_getElem_cons k0, List.drop_eq_getElem_cons k1, List.drop_eq_getElem_cons k2, g0, g1, g2, List.drop_of_length_le (by omega)]
        rfl
      unfold PT.cells
      rw [← hhe, ← hd, List.take_append_drop]

theorem open_ptr {H : Type} {enc : TypeId × Value → H} {W : World} {base : Nat} {spare : Nat → Bool} {held : Bool} {v : Value} {d : DataW H} {ps : List MemPlace} {r : Reach} {b2 : Nat} {W2 : World}
    (h : DataW.Trod enc Try.prog W base spare held 33 v d ps) (hv : Value.okWide Try.prog W2 r b2 33 v) : ∃ p : PT, v = p.val := by
  obtain ⟨cs, rfl, _⟩ := okWide_struct Try.underlying33 hv
  obtain ⟨fuel, hf⟩ := h
  obtain ⟨p, hp⟩ := open_pt hf
  refine ⟨p, ?_⟩
  unfold PT.val
  rw [← hp]
  simp [Value.cells]

theorem open_pts : ∀ (n : Nat) (cs : List Value), cs.length = n * 35 → (∀ i, i < n → ∃ p : PT, (cs.drop (i * 35)).take 35 = p.cells) → ∃ l : List PT, l.length = n ∧ cs = l.flatMap PT.cells
  | 0, cs, hl, _ => ⟨[], rfl, by simpa using List.length_eq_zero_iff.mp (by omega)⟩
  | n + 1, cs, hl, h => by
    obtain ⟨p, hp⟩ := h 0 (by omega)
    obtain ⟨l, h1, h2⟩ := open_pts n (cs.drop 35) (by rw [List.length_drop]; omega) (fun i hi => by
      obtain ⟨q, hq⟩ := h (i + 1) (by omega)
      exact ⟨q, by rw [List.drop_drop, ← hq]; congr 2; omega⟩)
    refine ⟨p :: l, by simp [h1], ?_⟩
    rw [List.flatMap_cons, ← hp, ← h2]
    simp
theorem open_ptr4 {H : Type} {enc : TypeId × Value → H} {W : World} {base : Nat} {spare : Nat → Bool} {held : Bool} {v : Value} {d : DataW H} {ps : List MemPlace} {r : Reach} {b2 : Nat} {W2 : World}
    (h : DataW.Trod enc Try.prog W base spare held 36 v d ps) (hv : Value.okWide Try.prog W2 r b2 36 v) : ∃ l : PL, v = l.val := by
  have hw : ∃ cs, v = .agg cs := by
    simp only [Value.okWide, Try.underlying36] at hv
    obtain ⟨cs, h1, _⟩ := hv
    exact ⟨cs, h1⟩
  obtain ⟨cs, rfl⟩ := hw
  obtain ⟨fuel, hf⟩ := h
  cases fuel with
  | zero => simp [DataW.trod] at hf
  | succ fuel =>
    have hc : Try.prog.cellsOf 36 = 140 := by kernel_rfl
    have hc35 : Try.prog.cellsOf 33 = 35 := by kernel_rfl
    obtain ⟨hl, ha⟩ := trod_array Try.underlying36 hf
    rw [hc] at hl
    obtain ⟨l, h1, h2⟩ := open_pts 4 (Value.agg cs).cells.toList (by rw [hl]) (fun i hi => by
      obtain ⟨y, hy⟩ := ha i hi
      rw [hc35] at hy
      exact open_pt hy)
    refine ⟨⟨l, h1⟩, ?_⟩
    unfold PL.val PL.cells
    rw [← h2]
    simp [Value.cells]
end Go.Proofs.Ythogefehainmdab
