/- A region that draws its order, whose writers wait for all others: what is read may be taken first, whatever the writers do. -/
import Derived.Test.YtfnneneaalaagaaSep2
import Derived.OrdersHeld
namespace Go.Proofs.Ytfnneneaalaagaa
open Go.RowKit
section
variable {P : Program} {ops : Array Oper} {Q : Exit → Act → World → Prop} {md : Region.Mode} {S : World → Prop} {W : Nat → Bool}

/-- Number j waits for number i, at once or by others. -/
def reachB (md : Region.Mode) (ops : Array Oper) : Nat → Nat → Nat → Bool
  | 0, _, _ => false
  | f + 1, j, i => ((ops[j]?).map fun o => o.after.any fun e => Region.binds md e && (e.on == i || reachB md ops f e.on i)).getD false
/-- Each writer waits for number i. -/
def waitsB (md : Region.Mode) (ops : Array Oper) (W : Nat → Bool) (i : Nat) : Bool := (List.range ops.size).all fun j => !W j || reachB md ops 4 j i
def Closed (md : Region.Mode) (ops : Array Oper) (listed : Array Bool) : Prop := ∀ (k : Nat) (o : Oper), ops[k]? = some o → listed.getD k false = true → ∀ e ∈ o.after, Region.binds md e = true → listed.getD e.on false = true
def closedB (md : Region.Mode) (ops : Array Oper) (listed : Array Bool) : Bool := (List.range ops.size).all fun k => !listed.getD k false || ((ops[k]?).map fun o => o.after.all fun e => !Region.binds md e || listed.getD e.on false).getD true
theorem closedB_spec {listed : Array Bool} (h : closedB md ops listed = true) : Closed md ops listed := fun k o hk hl e he hb => by
  simp only [closedB, List.all_eq_true, List.mem_range] at h
  have h1 := h k (Array.getElem?_eq_some_iff.1 hk).1
  rw [hl, hk] at h1
  simp only [Bool.not_true, Bool.false_or, Option.map_some, Option.getD_some, Array.all_eq_true_iff_forall_mem] at h1
  have h2 := h1 e he
  rw [hb] at h2
  simpa using h2
theorem Closed.set {listed : Array Bool} (h : Closed md ops listed) {j : Nat} (hj : j ∈ Region.ready md ops listed) : Closed md ops (listed.setIfInBounds j true) := fun k o hk hl e he hb => by
  obtain ⟨_, oj, hoj, hall⟩ := mem_ready.1 hj
  by_cases hjk : j = k
  · subst hjk
    rw [hoj] at hk
    injection hk with hk
    subst hk
    exact getD_set_true (hall e he hb)
  · rw [getD_set_ne false hjk] at hl
    exact getD_set_true (h k o hk hl e he hb)
theorem reachB_spec {listed : Array Bool} (h : Closed md ops listed) {i : Nat} : ∀ (f j : Nat) (o : Oper), ops[j]? = some o → (∀ e ∈ o.after, Region.binds md e = true → listed.getD e.on false = true) → reachB md ops f j i = true → listed.getD i false = true
  | 0, _, _, _, _, hr => by simp [reachB] at hr
  | f + 1, j, o, ho, hall, hr => by
    rw [reachB, ho] at hr
    simp only [Option.map_some, Option.getD_some] at hr
    obtain ⟨e, he, hb⟩ := Array.any_eq_true'.1 hr
    simp only [Bool.and_eq_true, Bool.or_eq_true, beq_iff_eq] at hb
    have hl := hall e he hb.1
    rcases hb.2 with h1 | h1
    · rw [← h1]; exact hl
    · cases ho2 : ops[e.on]? with
      | none =>
        cases f with
        | zero => simp [reachB] at h1
        | succ f => rw [reachB, ho2] at h1; simp at h1
      | some o2 => exact reachB_spec h f e.on o2 ho2 (h e.on o2 ho2 hl) h1
theorem waitsB_spec {i : Nat} (h : waitsB md ops W i = true) {listed : Array Bool} (hc : Closed md ops listed) {j : Nat} (hj : j ∈ Region.ready md ops listed) (hW : W j = true) : listed.getD i false = true := by
  obtain ⟨_, oj, hoj, hall⟩ := mem_ready.1 hj
  simp only [waitsB, List.all_eq_true, List.mem_range] at h
  have h1 := h j (Array.getElem?_eq_some_iff.1 hoj).1
  rw [hW] at h1
  simp only [Bool.not_true, Bool.false_or] at h1
  exact reachB_spec hc 4 j oj hoj hall h1
/-- Whatever order: an operation that is no writer keeps S. -/
def wpAnyL (P : Program) (md : Region.Mode) (ops : Array Oper) (Q : Exit → Act → World → Prop) (S : World → Prop) (W : Nat → Bool) : Nat → Array Bool → Act → World → Prop
  | 0, listed, a, w => Region.ready md ops listed = [] ∧ Q .normal a w
  | fuel + 1, listed, a, w =>
    (Region.ready md ops listed = [] → Q .normal a w) ∧
    ∀ i ∈ Region.ready md ops listed, wpOp P ops Q i (fun a' w' => (W i = false → S w → S w') ∧ wpAnyL P md ops Q S W fuel (listed.setIfInBounds i true) a' w') a w
theorem wpAny_of_L : ∀ (fuel : Nat) (listed : Array Bool) (a : Act) (w : World), wpAnyL P md ops Q S W fuel listed a w → wpAny P md ops Q fuel listed a w
  | 0, _, _, _, h => h
  | fuel + 1, _, _, _, h => ⟨h.1, fun i hi => wpOp_mono (fun a' w' h' => wpAny_of_L fuel _ a' w' h'.2) (h.2 i hi)⟩
theorem wpAnyL_first {T : World → Prop} {i : Nat} {oi : Oper} {v : Value} (hi : ops[i]? = some oi) (hT : ∀ (j : Nat) (listed : Array Bool) (w w' : World), Closed md ops listed → j ∈ Region.ready md ops listed → listed.getD i true = false → (W j = false → S w → S w') → T w → T w') (hsel : ∀ (j : Nat) (o : Oper) cs b, ops[j]? = some o → o.op ≠ .select cs b)
    (hQ : ∀ c a w, Q (.panic c) (a.put oi.dst v) w → Q (.panic c) a w) :
    ∀ (fuel : Nat) (listed : Array Bool) (a : Act) (w : World),
      (∀ j oj, ops[j]? = some oj → j ≠ i → listed.getD j true = false → (∀ e ∈ oj.after, Region.binds md e = true → e.on ≠ i) → oi.apart ops oj = true) →
      Closed md ops listed → i ∈ Region.ready md ops listed → YieldsIf P ops T oi v a → T w →
      wpAnyL P md ops Q S W fuel (listed.setIfInBounds i true) (a.put oi.dst v) w → wpAnyL P md ops Q S W (fuel + 1) listed a w := by
  intro fuel
  induction fuel with
  | zero =>
    intro listed a w _ hcl hr hy hS H
    refine ⟨fun h => (by rw [h] at hr; cases hr), fun j hj => ?_⟩
    by_cases hji : j = i
    · subst hji; exact hy.wpOp hi hS ⟨fun _ h => h, H⟩
    · have := ready_mono hj hji
      rw [H.1] at this
      cases this
  | succ fuel ih =>
    intro listed a w hfree hcl hr hy hS H
    refine ⟨fun h => (by rw [h] at hr; cases hr), fun j hj => ?_⟩
    by_cases hji : j = i
    · subst hji; exact hy.wpOp hi hS ⟨fun _ h => h, H⟩
    · have h1 := H.2 j (ready_mono hj hji)
      obtain ⟨hjun, oj, hoj, hall⟩ := mem_ready.1 hj
      have hnot : ∀ e ∈ oj.after, Region.binds md e = true → e.on ≠ i := fun e he hb heq => by
        have h1 := hall e he hb
        have h0 := (mem_ready.1 hr).1
        rw [heq] at h1
        rcases Nat.lt_or_ge i listed.size with h' | h'
        · simp [h'] at h0 h1; rw [h0] at h1; cases h1
        · simp [Array.getElem?_eq_none h'] at h1
      have h2 := wpOp_putIf hoj (hfree j oj hoj hji hjun hnot) (fun cs b => hsel i oi cs b hi) (fun cs b => hsel j oj cs b hoj) hQ hy h1
      have hfree' : ∀ k ok, ops[k]? = some ok → k ≠ i → (listed.setIfInBounds j true).getD k true = false →
          (∀ e ∈ ok.after, Region.binds md e = true → e.on ≠ i) → oi.apart ops ok = true := fun k ok hk hki hun hno => by
        refine hfree k ok hk hki ?_ hno
        by_cases hjk : j = k
        · subst hjk; exact hjun
        · rw [getD_set_ne true hjk] at hun; exact hun
      refine wpOp_mono (fun a' w' h3 => ⟨h3.2.1, ih (listed.setIfInBounds j true) a' w' hfree' (hcl.set hj) (ready_mono hr (Ne.symm hji)) h3.1 (hT j listed w w' hcl hj (mem_ready.1 hr).1 h3.2.1 hS) ?_⟩) h2
      rw [Array.setIfInBounds_comm _ _ hji]
      exact h3.2.2

theorem startL (S : World → Prop) (W : Nat → Bool) {id : Nat} {a : Act} {w : World} (hm : P.follows .mixedOrders = true) (h : wpAnyL P .any ops Q S W ops.size (Array.replicate ops.size false) a w.drew) : (Code.region id ops true).wp P Q a w :=
  wp_region_any hm (wpAny_of_L _ _ _ _ h)
/-- What is read in worlds of S. -/
theorem takeL (i : Nat) {oi : Oper} {v : Value} {fuel : Nat} {listed : Array Bool} {a : Act} {w : World} (h0 : S w) (hi : ops.toList[i]? = some oi) (hWt : waitsB .any ops W i = true) (hs : Region.noSelect ops = true) (hf : Region.free .any ops listed i = true) (hr : (Region.ready .any ops listed).contains i = true) (hcl : closedB .any ops listed = true)
    (hQ : ∀ c a w, Q (.panic c) (a.put oi.dst v) w → Q (.panic c) a w) (hw : Region.wanted oi (yielded ops a.tmps) = true)
    (hy : ∀ w', S w' → (execOp a.eval oi).run P w' = .ok (.value v) w') (h : wpAnyL P .any ops Q S W fuel (listed.setIfInBounds i true) (a.put oi.dst v) w) : wpAnyL P .any ops Q S W (fuel + 1) listed a w :=
  have hi2 : ops[i]? = some oi := by simpa using hi
  wpAnyL_first (T := S) hi2 (fun j listed w w' hc hj hi0 hk hS => by
    cases hWj : W j with
    | false => exact hk hWj hS
    | true =>
      have h1 := waitsB_spec hWt hc hj hWj
      rcases Nat.lt_or_ge i listed.size with h' | h'
      · simp [h'] at hi0 h1; rw [hi0] at h1; cases h1
      · simp [Array.getElem?_eq_none h'] at h1) (Region.noSelect_spec hs) hQ fuel listed a w (Region.free_spec hi2 hf) (closedB_spec hcl) (by simpa using hr) (.inl ⟨hw, hy⟩) h0 h
/-- What is told in every world. -/
theorem takeP (i : Nat) {oi : Oper} {v : Value} {fuel : Nat} {listed : Array Bool} {a : Act} {w : World} (hi : ops.toList[i]? = some oi) (hs : Region.noSelect ops = true) (hf : Region.free .any ops listed i = true) (hr : (Region.ready .any ops listed).contains i = true) (hcl : closedB .any ops listed = true)
    (hQ : ∀ c a w, Q (.panic c) (a.put oi.dst v) w → Q (.panic c) a w) (hw : Region.wanted oi (yielded ops a.tmps) = true)
    (hy : ∀ w', (execOp a.eval oi).run P w' = .ok (.value v) w') (h : wpAnyL P .any ops Q S W fuel (listed.setIfInBounds i true) (a.put oi.dst v) w) : wpAnyL P .any ops Q S W (fuel + 1) listed a w :=
  have hi2 : ops[i]? = some oi := by simpa using hi
  wpAnyL_first (T := fun _ => True) hi2 (fun _ _ _ _ _ _ _ _ _ => trivial) (Region.noSelect_spec hs) hQ fuel listed a w (Region.free_spec hi2 hf) (closedB_spec hcl) (by simpa using hr) (.inl ⟨hw, fun w' _ => hy w'⟩) trivial h
theorem skipL (i : Nat) {oi : Oper} {fuel : Nat} {listed : Array Bool} {a : Act} {w : World} (hi : ops.toList[i]? = some oi) (hs : Region.noSelect ops = true) (hf : Region.free .any ops listed i = true) (hr : (Region.ready .any ops listed).contains i = true) (hcl : closedB .any ops listed = true)
    (hQ : ∀ c a w, Q (.panic c) (a.put oi.dst undef) w → Q (.panic c) a w) (hw : Region.wanted oi (yielded ops a.tmps) = false)
    (h : wpAnyL P .any ops Q S W fuel (listed.setIfInBounds i true) (a.put oi.dst undef) w) : wpAnyL P .any ops Q S W (fuel + 1) listed a w :=
  have hi2 : ops[i]? = some oi := by simpa using hi
  wpAnyL_first (T := fun _ => True) hi2 (fun _ _ _ _ _ _ _ _ _ => trivial) (Region.noSelect_spec hs) hQ fuel listed a w (Region.free_spec hi2 hf) (closedB_spec hcl) (by simpa using hr) (.inr ⟨hw, rfl⟩) trivial h
theorem stepL (i : Nat) {oi : Oper} {fuel : Nat} {listed : Array Bool} {a : Act} {w : World} (hi : ops.toList[i]? = some oi) (hr : Region.ready .any ops listed = [i]) (hw : Region.wanted oi (yielded ops a.tmps) = true)
    (h : ∀ K : Act → World → Prop, Shut (∀ a' w', (W i = false → S w → S w') → wpAnyL P .any ops Q S W fuel (listed.setIfInBounds i true) a' w' → K a' w') → oi.wp P a w K Q) : wpAnyL P .any ops Q S W (fuel + 1) listed a w := by
  have hi2 : ops[i]? = some oi := by simpa using hi
  refine ⟨fun h0 => (by rw [h0] at hr; cases hr), fun j hj => ?_⟩
  rw [hr] at hj
  obtain rfl := List.mem_singleton.mp hj
  unfold wpOp
  simp only [hi2, hw, if_true]
  exact .inl (h _ (fun a' w' h1 h2 => ⟨h1, h2⟩))
theorem doneL {fuel : Nat} {listed : Array Bool} {a : Act} {w : World} (hr : Region.ready .any ops listed = []) (h : Q .normal a w) : wpAnyL P .any ops Q S W fuel listed a w := by
  cases fuel with
  | zero => exact ⟨hr, h⟩
  | succ fuel => exact ⟨fun _ => h, by rw [hr]; simp⟩
end
section
variable {P : Program} {ops : Array Oper} {o : Oper} {a : Act} {Q : Exit → Act → World → Prop} {F : Nat → Prop} {w0 w : World} {L : List Own} {K : Act → World → Prop}
theorem opS {w' : World} (hr : (execOp a.eval o).run P w = .ok .skip w') (h : K (a.put o.dst undef) w') : o.wp P a w K Q := by
  unfold Oper.wp; rw [hr]; exact h
theorem oCell (t' : TypeId) (v : Value) (hs : (P.info? t').map (·.size) = some 1) (hc : v.cells = [v].toArray) (h1 : v.oneCell' = true) (H : SH F w0 w L) (i : Nat) {b off : Nat} {t : TypeId} {cs : List Value} (hi : L[i]? = some (.blk b t cs)) (hl : off + 1 ≤ cs.length) (new : List Value) (hn : lay cs off [v] = new) (p y : Operand) (ho : o.op = .store t' p y) (hx : a.eval p = .pointer (some ⟨b, off, none⟩)) (hy : a.eval y = v)
    (h : ∀ w', SH F w0 w' (L.set i (.blk b t new)) → K (a.put o.dst undef) w') : o.wp P a w K Q := by
  subst hn
  exact opS (exec_lay t' p y ho b off hx [v] cs (by rw [hy]; exact hc) t (H.va i hi) (by simpa using hs) hl (fun u hu => by rw [List.mem_singleton.mp hu]; exact h1)) (h _ (H.setRow i hi _))
end
section
variable {P : Program} {ops : Array Oper} {rest : List Oper} {o : Oper} {a : Act} {Q : Exit → Act → World → Prop} {F : Nat → Prop} {w0 w : World} {L : List Own}
/-- A number is put into a variable of its own. -/
theorem wBox1 (t : TypeId) (v : Value) (hc : v.cells = [v].toArray) (H : SH F w0 w L) (y : Operand) (ho : o.op = .box t y) (hx : a.eval y = v) (hw : Region.wanted o (yielded ops a.tmps) = true)
    (h : ∀ w', SH F w0 w' (.blk w.heap.size t [v] :: L) → wpList P ops Q rest (a.put o.dst (.pointer (some ⟨w.heap.size, 0, none⟩))) w') : wpList P ops Q (o :: rest) a w := by
  refine stepV (w' := w.alloc (.cells v.cells t)) ?_ hw (h _ (by rw [hc]; exact H.new t [v]))
  unfold execOp
  simp only [ho, hx]
  rfl
theorem wAlloc1 (t : TypeId) (z : Value) (hz : (P.info? t).map (·.zero) = some (some z)) (hc : z.cells = [z].toArray) (H : SH F w0 w L) (ho : o.op = .alloc t) (hw : Region.wanted o (yielded ops a.tmps) = true)
    (h : ∀ w', SH F w0 w' (.blk w.heap.size t [z] :: L) → wpList P ops Q rest (a.put o.dst (.pointer (some ⟨w.heap.size, 0, none⟩))) w') : wpList P ops Q (o :: rest) a w :=
  stepV (exec_alloc t ho z [z] hz hc) hw (h _ (H.new t [z]))
end
end Go.Proofs.Ytfnneneaalaagaa
