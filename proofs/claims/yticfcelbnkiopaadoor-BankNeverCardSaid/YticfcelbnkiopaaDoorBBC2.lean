/- Ground of the statements BankHealed, part 2: Auto, Sha1, Sha2, Sha3, Sha4, Sha5, Sha6. -/
import Derived.Laws.BitsAllLaws
import Derived.Test.YticfcelbnkiopaaDoorBBC1
namespace Go.Proofs.YticfcelbnkiopaaDoor
set_option maxRecDepth 100000
open Go.RowKit
variable {P : Program} {α : Type}

/-- The things of a list hold. -/
def HOLD (L : List Own) (w : World) : Prop := ∀ o ∈ L, o.holds w
theorem HOLD.tail {o : Own} {L : List Own} {w : World} (h : HOLD (o :: L) w) : HOLD L w := fun o' h' => h o' (List.mem_cons_of_mem _ h')
theorem SH.hold {F : Nat → Prop} {w0 w : World} {L : List Own} (h : SH F w0 w L) : HOLD L w := h.holds
theorem HOLD.below {L : List Own} {w w' : World} (h : HOLD L w) (hb : Below w.heap.size w w') : HOLD L w' := fun o ho => o.keep w w' (h o ho) hb.size (fun b hf => hb.block b (o.lt w b (h o ho) hf))
theorem HOLD.drew {L : List Own} {w : World} (h : HOLD L w) : HOLD L w.drew := fun o ho => o.keep w w.drew (h o ho) (Nat.le_refl _) (fun _ _ => rfl)

/-- Block b stands in the list. -/
class HasB (L : List Own) (b : Nat) (t : outParam TypeId) (cs : outParam (List Value)) (put : outParam (List Value → List Own)) : Prop where
  ix : ∃ i, L[i]? = some (.blk b t cs) ∧ ∀ new, L.set i (.blk b t new) = put new
instance HasB.here {L : List Own} {b : Nat} {t : TypeId} {cs : List Value} : HasB (.blk b t cs :: L) b t cs (fun new => .blk b t new :: L) := ⟨0, rfl, fun _ => rfl⟩
instance (priority := low) HasB.there {o : Own} {L : List Own} {b : Nat} {t : TypeId} {cs : List Value} {put : List Value → List Own} [h : HasB L b t cs put] : HasB (o :: L) b t cs (fun new => o :: put new) := by
  obtain ⟨i, h1, h2⟩ := h.ix
  exact ⟨i + 1, by simpa using h1, fun new => by rw [List.set_cons_succ, h2]⟩
/-- Row v stands in the list. -/
class HasR (L : List Own) (v : Value) (α : outParam Type) (T : outParam (Ty α)) (xs : outParam (List α)) (put : outParam (Value → List α → List Own)) : Prop where
  ix : ∃ i, L[i]? = some (.row T v xs) ∧ ∀ v' ys, L.set i (.row T v' ys) = put v' ys
instance HasR.here {L : List Own} {v : Value} {T : Ty α} {xs : List α} : HasR (.row T v xs :: L) v α T xs (fun v' ys => .row T v' ys :: L) := ⟨0, rfl, fun _ _ => rfl⟩
instance (priority := low) HasR.there {o : Own} {L : List Own} {v : Value} {T : Ty α} {xs : List α} {put : Value → List α → List Own} [h : HasR L v α T xs put] : HasR (o :: L) v α T xs (fun v' ys => o :: put v' ys) := by
  obtain ⟨i, h1, h2⟩ := h.ix
  exact ⟨i + 1, by simpa using h1, fun v' ys => by rw [List.set_cons_succ, h2]⟩
theorem HOLD.va {L : List Own} {w : World} {b : Nat} {t : TypeId} {cs : List Value} {put : List Value → List Own} (h : HOLD L w) [hb : HasB L b t cs put] : VA w b t cs := by
  obtain ⟨i, h1, _⟩ := hb.ix
  exact h _ (List.mem_of_getElem? h1)
theorem HOLD.or {L : List Own} {w : World} {v : Value} {T : Ty α} {xs : List α} {put : Value → List α → List Own} (h : HOLD L w) [hr : HasR L v α T xs put] : OR T w 0 v xs := by
  obtain ⟨i, h1, _⟩ := hr.ix
  exact h _ (List.mem_of_getElem? h1)
theorem HOLD.rr {L : List Own} {w : World} (v : Value) {T : Ty α} {xs : List α} {put : Value → List α → List Own} (h : HOLD L w) [HasR L v α T xs put] : RR T w v xs := h.or.reads
theorem SH.ow {w0 w : World} {L : List Own} (v : Value) {T : Ty α} {xs : List α} {put : Value → List α → List Own} (h : SH Nil w0 w L) [hr : HasR L v α T xs put] : OR T w w0.heap.size v xs := by
  obtain ⟨i, h1, _⟩ := hr.ix
  exact h.orow i h1

/-- Two stretches of a walk: what lay there, and what came since. -/
theorem SH.join {F : Nat → Prop} {w0 w w' : World} {L L' : List Own} (h : SH F w0 w L) (k : SH Nil w w' L') : SH F w0 w' (L' ++ L) := by
  have h2 := h.step k.below
  refine ⟨h2.chg, fun o ho => ?_, fun o ho b hb => ?_, List.pairwise_append.2 ⟨k.apart, h.apart, fun o ho o' ho' b hb hb' => ?_⟩⟩
  · rcases List.mem_append.mp ho with ho | ho
    · exact k.holds o ho
    · exact h2.holds o ho
  · rcases List.mem_append.mp ho with ho | ho
    · rcases k.foot o ho b hb with h3 | h3
      · exact h3.elim
      · exact .inr (Nat.le_trans h.size h3)
    · exact h2.foot o ho b hb
  · have h4 := o'.lt w b (h.holds o' ho') hb'
    rcases k.foot o ho b hb with h3 | h3
    · exact h3.elim
    · omega
/-- A thing is brought to the front. -/
theorem SH.bring {F : Nat → Prop} {w0 w : World} {L : List Own} (h : SH F w0 w L) (i : Nat) {o : Own} (hi : L[i]? = some o) : SH F w0 w (o :: L.eraseIdx i) := by
  obtain ⟨hl, he⟩ := List.getElem?_eq_some_iff.1 hi
  have hm := List.mem_of_getElem? hi
  refine ⟨h.chg, fun x hx => ?_, fun x hx => ?_, List.Pairwise.cons (fun x hx b h1 h2 => ?_) (h.apart.sublist (List.eraseIdx_sublist L i))⟩
  · rcases List.mem_cons.mp hx with rfl | hx
    · exact h.holds _ hm
    · exact h.holds x ((List.eraseIdx_sublist L i).subset hx)
  · rcases List.mem_cons.mp hx with rfl | hx
    · exact h.foot _ hm
    · exact h.foot x ((List.eraseIdx_sublist L i).subset hx)
  · obtain ⟨j, hj, rfl⟩ := List.mem_iff_getElem.1 hx
    have hap := List.pairwise_iff_getElem.1 h.apart
    rw [List.length_eraseIdx, if_pos hl] at hj
    rw [List.getElem_eraseIdx] at h2
    split at h2
    · rw [← he] at h1; exact hap j i (by omega) hl (by omega) b h2 h1
    · rw [← he] at h1; exact hap i (j + 1) hl (by omega) (by omega) b h1 h2
/-- Two things, as one. -/
theorem SH.merge {F : Nat → Prop} {w0 w : World} {o1 o2 : Own} {L : List Own} (h : SH F w0 w (o1 :: o2 :: L)) (o : Own) (hh : o1.holds w → o2.holds w → o.holds w) (hf : ∀ b, o.foot b → o1.foot b ∨ o2.foot b) : SH F w0 w (o :: L) := by
  have m1 : o1 ∈ o1 :: o2 :: L := by simp
  have m2 : o2 ∈ o1 :: o2 :: L := by simp
  have ap := List.pairwise_cons.1 h.apart
  have ap2 := List.pairwise_cons.1 ap.2
  refine ⟨h.chg, fun x hx => ?_, fun x hx b hb => ?_, List.Pairwise.cons (fun x hx b h1 h2 => ?_) ap2.2⟩
  · rcases List.mem_cons.mp hx with rfl | hx
    · exact hh (h.holds _ m1) (h.holds _ m2)
    · exact h.holds x (by simp [hx])
  · rcases List.mem_cons.mp hx with rfl | hx
    · rcases hf b hb with h1 | h1
      · exact h.foot _ m1 b h1
      · exact h.foot _ m2 b h1
    · exact h.foot x (by simp [hx]) b hb
  · rcases hf b h1 with h3 | h3
    · exact ap.1 x (by simp [hx]) b h3 h2
    · exact ap2.1 x hx b h3 h2
/-- A callee that was handed a block. -/
theorem SH.viaB {F : Nat → Prop} {w0 w w' : World} {L : List Own} {b : Nat} {t : TypeId} {cs new : List Value} {put : List Value → List Own} (h : SH F w0 w L) [hb : HasB L b t cs put] (k : SH (fun k => k = b) w w' [.blk b t new]) : SH F w0 w' (put new) := by
  obtain ⟨i, h1, h2⟩ := hb.ix
  rw [← h2]
  exact h.via i h1 k
/-- A callee that was handed a row. -/
theorem SH.viaR {F : Nat → Prop} {w0 w w' : World} {L : List Own} {v v' : Value} {T : Ty α} {xs ys : List α} {put : Value → List α → List Own} (h : SH F w0 w L) [hb : HasR L v α T xs put] (k : SH (rowF v) w w' [.row T v' ys]) : SH F w0 w' (put v' ys) := by
  obtain ⟨i, h1, h2⟩ := hb.ix
  rw [← h2]
  exact h.via i h1 k
/-- What a type of several cells is. -/
class TI (P : Program) (t : TypeId) (n : outParam Nat) (zero : outParam (List Value)) : Prop where
  under : ∃ d, P.underlying t = some d ∧ d.isRow = true
  size : (P.info? t).map (·.size) = some n
  zinfo : (P.info? t).map (·.zero) = some (some (.agg zero.toArray))
  zbuilt : P.built t [] = some zero.toArray
  zlen : zero.length = n
/-- What a type of one cell is. -/
class TS (P : Program) (t : TypeId) (z : outParam Value) : Prop where
  under : ∃ d, P.underlying t = some d ∧ d.isRow = false
  size : (P.info? t).map (·.size) = some 1
  zinfo : (P.info? t).map (·.zero) = some (some z)
  cells : z.cells = [z].toArray

section
variable {ops : Array Oper} {rest : List Oper} {o : Oper} {a : Act} {Q : Exit → Act → World → Prop} {F : Nat → Prop} {w0 w : World} {L : List Own} {ρ : Operand → Value}
variable {b off n : Nat} {t t2 : TypeId} {cs vs new z : List Value} {v zv : Value} {put : List Value → List Own} {y p : Operand}

theorem xLoad (h : HOLD L w) (y : Operand) (ho : o.op = .load t y) (hx : ρ y = .pointer (some ⟨b, off, none⟩)) [HasB L b t2 cs put] [T : TI P t n z] (hp : (cs.drop off).take n = vs) (hl : vs.length = n) : (execOp ρ o).run P w = .ok (.value (.agg vs.toArray)) w := by
  obtain ⟨d, h1, h2⟩ := T.under
  exact exec_load t y ho b off hx vs d (h.va.range off vs (by rw [hl]; exact hp)) h1 h2 (by rw [hl]; exact T.size)
theorem run_loadVar1 {P : Program} {w : World} {ad : Addr} {t : TypeId} {v z : Value} (hc : w.cell? ad = some v) [T : TS P t z] : (loadVar t ad).run P w = .ok v w := by
  obtain ⟨d, h1, h2⟩ := T.under
  have hagg : (isAgg t).run P w = .ok false w := by
    unfold isAgg
    rw [Sem.run_bind, run_underlying h1 w]
    cases d <;> simp_all [TypeDesc.isRow]
  simp [loadVar, Sem.run_bind, hagg, hc]
theorem xLoadC (y : Operand) (ho : o.op = .load t y) {ad : Addr} (hx : ρ y = .pointer (some ad)) [TS P t zv] (hc : w.cell? ad = some v) : (execOp ρ o).run P w = .ok (.value v) w := by
  unfold execOp
  simp only [ho, hx, Instr.loadAt, Instr.sureAddr, Sem.run_bind, Sem.run_pure, Result.andThen_ok, run_loadVar1 (P := P) (t := t) hc]
theorem xLoad1 (h : HOLD L w) (y : Operand) (ho : o.op = .load t y) (hx : ρ y = .pointer (some ⟨b, off, none⟩)) [HasB L b t2 cs put] [TS P t zv] (hc : cs[off]? = some v) : (execOp ρ o).run P w = .ok (.value v) w :=
  xLoadC y ho hx (h.va.cell off |>.trans hc)

theorem gDst (k : Nat) {op : Op} {ty : TypeId} {q : String} {af : Array Edge} {gd : Option (Nat × Bool)} (h : wpList P ops Q (⟨some k, op, ty, q, af, gd⟩ :: rest) a w) : wpList P ops Q (⟨some k, op, ty, q, af, gd⟩ :: rest) a w := h
theorem gSto (p y : Operand) {t : TypeId} {d : Option Tmp} {ty : TypeId} {q : String} {af : Array Edge} {gd : Option (Nat × Bool)} (h : wpList P ops Q (⟨d, .store t p y, ty, q, af, gd⟩ :: rest) a w) : wpList P ops Q (⟨d, .store t p y, ty, q, af, gd⟩ :: rest) a w := h

theorem aBox (H : SH F w0 w L) (y : Operand) (ho : o.op = .box t y) (hx : a.eval y = .agg cs.toArray) (hw : Region.wanted o (yielded ops a.tmps) = true)
    (h : ∀ b w', SH F w0 w' (.blk b t cs :: L) → wpList P ops Q rest (a.put o.dst (.pointer (some ⟨b, 0, none⟩))) w') : wpList P ops Q (o :: rest) a w :=
  stepV (exec_box t y ho cs hx) hw (h _ _ (H.new _ _))
theorem aBox1 (H : SH F w0 w L) (y : Operand) (ho : o.op = .box t y) (hx : a.eval y = v) (hc : v.cells = [v].toArray) (hw : Region.wanted o (yielded ops a.tmps) = true)
    (h : ∀ b w', SH F w0 w' (.blk b t [v] :: L) → wpList P ops Q rest (a.put o.dst (.pointer (some ⟨b, 0, none⟩))) w') : wpList P ops Q (o :: rest) a w := by
  refine stepV (w' := w.alloc (.cells v.cells t)) ?_ hw (h _ _ (by rw [hc]; exact H.new t [v]))
  unfold execOp
  simp only [ho, hx]
  rfl
theorem aAlloc (H : SH F w0 w L) (ho : o.op = .alloc t) [T : TI P t n z] (hw : Region.wanted o (yielded ops a.tmps) = true)
    (h : ∀ b w', SH F w0 w' (.blk b t z :: L) → wpList P ops Q rest (a.put o.dst (.pointer (some ⟨b, 0, none⟩))) w') : wpList P ops Q (o :: rest) a w :=
  stepV (exec_alloc t ho _ z T.zinfo rfl) hw (h _ _ (H.new _ _))
theorem aAlloc1 (H : SH F w0 w L) (ho : o.op = .alloc t) [T : TS P t zv] (hw : Region.wanted o (yielded ops a.tmps) = true)
    (h : ∀ b w', SH F w0 w' (.blk b t [zv] :: L) → wpList P ops Q rest (a.put o.dst (.pointer (some ⟨b, 0, none⟩))) w') : wpList P ops Q (o :: rest) a w :=
  stepV (exec_alloc t ho zv [zv] T.zinfo T.cells) hw (h _ _ (H.new _ _))
theorem aZero (ho : o.op = .build t #[]) [T : TI P t n z] (hw : Region.wanted o (yielded ops a.tmps) = true) (h : wpList P ops Q rest (a.put o.dst (.agg z.toArray)) w) : wpList P ops Q (o :: rest) a w :=
  stepV (exec_zero t ho _ T.zbuilt) hw h
theorem aLoad (H : SH F w0 w L) (y : Operand) (ho : o.op = .load t y) (hx : a.eval y = .pointer (some ⟨b, off, none⟩)) [HasB L b t2 cs put] [TI P t n z] (hp : (cs.drop off).take n = vs) (hl : vs.length = n) (hw : Region.wanted o (yielded ops a.tmps) = true)
    (h : wpList P ops Q rest (a.put o.dst (.agg vs.toArray)) w) : wpList P ops Q (o :: rest) a w :=
  stepV (xLoad H.hold y ho hx hp hl) hw h
theorem aLoad1 (H : SH F w0 w L) (y : Operand) (ho : o.op = .load t y) (hx : a.eval y = .pointer (some ⟨b, off, none⟩)) [HasB L b t2 cs put] [TS P t zv] (hc : cs[off]? = some v) (hw : Region.wanted o (yielded ops a.tmps) = true)
    (h : wpList P ops Q rest (a.put o.dst v) w) : wpList P ops Q (o :: rest) a w :=
  stepV (xLoad1 H.hold y ho hx hc) hw h
/-- An element that is read: its cell is told. -/
theorem aLoadC (y : Operand) (ho : o.op = .load t y) {ad : Addr} (hx : a.eval y = .pointer (some ad)) [TS P t zv] (hc : w.cell? ad = some v) (hw : Region.wanted o (yielded ops a.tmps) = true)
    (h : wpList P ops Q rest (a.put o.dst v) w) : wpList P ops Q (o :: rest) a w :=
  stepV (xLoadC y ho hx hc) hw h
theorem xLay (H : SH F w0 w L) (p y : Operand) (ho : o.op = .store t p y) (hx : ρ p = .pointer (some ⟨b, off, none⟩)) (hy : ρ y = .agg vs.toArray) [hb : HasB L b t2 cs put] [T : TI P t n z] (hl : off + n ≤ cs.length ∧ vs.length = n) (h1 : (vs.all fun u => u.oneCell') = true) (hn : lay cs off vs = new) :
    ∃ w', (execOp ρ o).run P w = .ok .skip w' ∧ SH F w0 w' (put new) := by
  obtain ⟨i, h2, h3⟩ := hb.ix
  subst hn
  refine ⟨_, exec_lay t p y ho b off hx vs cs (by rw [hy]; rfl) t2 (H.va i h2) (by rw [hl.2]; exact T.size) (by rw [hl.2]; exact hl.1) (List.all_eq_true.1 h1), ?_⟩
  rw [← h3]
  exact H.setRow i h2 _
theorem xCell (H : SH F w0 w L) (p y : Operand) (ho : o.op = .store t p y) (hx : ρ p = .pointer (some ⟨b, off, none⟩)) (hy : ρ y = v) [hb : HasB L b t2 cs put] [T : TS P t zv] (hc : v.cells = [v].toArray) (h1 : v.oneCell' = true) (hl : off < cs.length) (hn : cs.set off v = new) :
    ∃ w', (execOp ρ o).run P w = .ok .skip w' ∧ SH F w0 w' (put new) := by
  obtain ⟨i, h2, h3⟩ := hb.ix
  subst hn
  have e : lay cs off [v] = cs.set off v := by rw [lay, List.set_eq_take_append_cons_drop, if_pos hl, List.append_assoc]; rfl
  refine ⟨_, exec_lay t p y ho b off hx [v] cs (by rw [hy]; exact hc) t2 (H.va i h2) (by simpa using T.size) (by simp only [List.length_singleton]; omega) (fun u hu => by rw [List.mem_singleton.mp hu]; exact h1), ?_⟩
  rw [← h3, ← e]
  exact H.setRow i h2 _
theorem xCellC (H : SH F w0 w L) (p y : Operand) (ho : o.op = .store t p y) (hx : ρ p = .pointer (some ⟨b, off, none⟩)) (hy : ρ y = v) [hb : HasB L b t2 cs put] [T : TS P t zv] (hc : v.cells = [v].toArray) (h1 : v.oneCell' = true) (hl : off < cs.length) (hn : cs.set off v = new) :
    ∃ w', (execOp ρ o).run P w = .ok .skip w' ∧ Chg (fun k => k = b) w w' ∧ SH F w0 w' (put new) := by
  obtain ⟨i, h2, h3⟩ := hb.ix
  subst hn
  have e : lay cs off [v] = cs.set off v := by rw [lay, List.set_eq_take_append_cons_drop, if_pos hl, List.append_assoc]; rfl
  refine ⟨_, exec_lay t p y ho b off hx [v] cs (by rw [hy]; exact hc) t2 (H.va i h2) (by simpa using T.size) (by simp only [List.length_singleton]; omega) (fun u hu => by rw [List.mem_singleton.mp hu]; exact h1), ?_, ?_⟩
  · have := chg_grown (setRow_grown w b (lay cs off [v]).toArray)
    exact ⟨this.os, this.tape, this.output, this.size, fun k hk hn => this.block k hk (fun e => hn (by injection e with e; exact e.symm))⟩
  · rw [← h3, ← e]
    exact H.setRow i h2 _
theorem aCellC (H : SH F w0 w L) (p y : Operand) (ho : o.op = .store t p y) (hx : a.eval p = .pointer (some ⟨b, off, none⟩)) (hy : a.eval y = v) [HasB L b t2 cs put] [TS P t zv] (hc : v.cells = [v].toArray) (h1 : v.oneCell' = true) (hl : off < cs.length) (hn : cs.set off v = new) (hw : Region.wanted o (yielded ops a.tmps) = true)
    (h : ∀ w', Chg (fun k => k = b) w w' → SH F w0 w' (put new) → wpList P ops Q rest (a.put o.dst undef) w') : wpList P ops Q (o :: rest) a w := by
  obtain ⟨w', hr, hch, H'⟩ := xCellC (P := P) (ρ := a.eval) H p y ho hx hy hc h1 hl hn
  exact stepS hr hw (h w' hch H')
theorem oCellC {K : Act → World → Prop} (H : SH F w0 w L) (p y : Operand) (ho : o.op = .store t p y) (hx : a.eval p = .pointer (some ⟨b, off, none⟩)) (hy : a.eval y = v) [HasB L b t2 cs put] [TS P t zv] (hc : v.cells = [v].toArray) (h1 : v.oneCell' = true) (hl : off < cs.length) (hn : cs.set off v = new)
    (h : ∀ w', Chg (fun k => k = b) w w' → SH F w0 w' (put new) → K (a.put o.dst undef) w') : o.wp P a w K Q := by
  obtain ⟨w', hr, hch, H'⟩ := xCellC (P := P) (ρ := a.eval) H p y ho hx hy hc h1 hl hn
  exact opS hr (h w' hch H')
theorem aLay (H : SH F w0 w L) (p y : Operand) (ho : o.op = .store t p y) (hx : a.eval p = .pointer (some ⟨b, off, none⟩)) (hy : a.eval y = .agg vs.toArray) [HasB L b t2 cs put] [TI P t n z] (hl : off + n ≤ cs.length ∧ vs.length = n) (h1 : (vs.all fun u => u.oneCell') = true) (hn : lay cs off vs = new) (hw : Region.wanted o (yielded ops a.tmps) = true)
    (h : ∀ w', SH F w0 w' (put new) → wpList P ops Q rest (a.put o.dst undef) w') : wpList P ops Q (o :: rest) a w := by
  obtain ⟨w', hr, H'⟩ := xLay (P := P) (ρ := a.eval) H p y ho hx hy hl h1 hn
  exact stepS hr hw (h w' H')
theorem lay_whole {cs vs : List Value} (h : cs.length = vs.length) : lay cs 0 vs = vs := by
  rw [lay, List.take_zero, List.nil_append, Nat.zero_add, List.drop_of_length_le (by omega), List.append_nil]
/-- The whole of a variable. -/
theorem aStore (H : SH F w0 w L) (p y : Operand) (ho : o.op = .store t p y) (hx : a.eval p = .pointer (some ⟨b, 0, none⟩)) (hy : a.eval y = .agg vs.toArray) [HasB L b t cs put] [TI P t n z] (hl : cs.length = n ∧ vs.length = n) (h1 : (vs.all fun u => u.oneCell') = true) (hw : Region.wanted o (yielded ops a.tmps) = true)
    (h : ∀ w', SH F w0 w' (put vs) → wpList P ops Q rest (a.put o.dst undef) w') : wpList P ops Q (o :: rest) a w :=
  aLay H p y ho hx hy (by omega) h1 (lay_whole (by omega)) hw h
theorem aCell (H : SH F w0 w L) (p y : Operand) (ho : o.op = .store t p y) (hx : a.eval p = .pointer (some ⟨b, off, none⟩)) (hy : a.eval y = v) [HasB L b t2 cs put] [TS P t zv] (hc : v.cells = [v].toArray) (h1 : v.oneCell' = true) (hl : off < cs.length) (hn : cs.set off v = new) (hw : Region.wanted o (yielded ops a.tmps) = true)
    (h : ∀ w', SH F w0 w' (put new) → wpList P ops Q rest (a.put o.dst undef) w') : wpList P ops Q (o :: rest) a w := by
  obtain ⟨w', hr, H'⟩ := xCell (P := P) (ρ := a.eval) H p y ho hx hy hc h1 hl hn
  exact stepS hr hw (h w' H')
end
/-! What lay there before the call. -/
section
variable {ops : Array Oper} {rest : List Oper} {o : Oper} {a : Act} {Q : Exit → Act → World → Prop} {w0 w : World} {L R : List Own} {ρ : Operand → Value}
variable {b off n : Nat} {t t2 : TypeId} {cs vs new z : List Value} {v zv : Value} {put : List Value → List Own} {y p : Operand}
/-- Things of before, in the world at hand. -/
theorem SH.old (H : SH Nil w0 w L) (RO : HOLD R w0) : HOLD R w := RO.below H.below
theorem aLoadR (RO : HOLD R w0) (H : SH Nil w0 w L) (y : Operand) (ho : o.op = .load t y) (hx : a.eval y = .pointer (some ⟨b, off, none⟩)) [HasB R b t2 cs put] [TI P t n z] (hp : (cs.drop off).take n = vs) (hl : vs.length = n) (hw : Region.wanted o (yielded ops a.tmps) = true)
    (h : wpList P ops Q rest (a.put o.dst (.agg vs.toArray)) w) : wpList P ops Q (o :: rest) a w :=
  stepV (xLoad (H.old RO) y ho hx hp hl) hw h
theorem aLoadR1 (RO : HOLD R w0) (H : SH Nil w0 w L) (y : Operand) (ho : o.op = .load t y) (hx : a.eval y = .pointer (some ⟨b, off, none⟩)) [HasB R b t2 cs put] [TS P t zv] (hc : cs[off]? = some v) (hw : Region.wanted o (yielded ops a.tmps) = true)
    (h : wpList P ops Q rest (a.put o.dst v) w) : wpList P ops Q (o :: rest) a w :=
  stepV (xLoad1 (H.old RO) y ho hx hc) hw h
/-- What is told of a block, as a list of one. -/
theorem HOLD.one {w : World} {b : Nat} {t : TypeId} {cs : List Value} (h : VA w b t cs) : HOLD [.blk b t cs] w := fun o ho => by rw [List.mem_singleton.mp ho]; exact h
theorem HOLD.cons {w : World} {b : Nat} {t : TypeId} {cs : List Value} {L : List Own} (h : VA w b t cs) (hl : HOLD L w) : HOLD (.blk b t cs :: L) w := fun o ho => by
  rcases List.mem_cons.mp ho with rfl | ho
  · exact h
  · exact hl o ho
theorem HOLD.nil (w : World) : HOLD [] w := fun _ h => by cases h
end
section
variable {ops : Array Oper} {rest : List Oper} {o : Oper} {a : Act} {Q : Exit → Act → World → Prop} {F : Nat → Prop} {w0 w : World} {L : List Own}
theorem aAppend (T : ST P α) (H : SH F w0 w L) (s x : Operand) (ho : o.op = .call { callee := .builtin .append, args := #[s, x], argTypes := #[T.t, T.t] }) {A : Option Addr} {len cap : Nat} {vy : Value} {xs ys : List α} {put : Value → List α → List Own} (hs : a.eval s = .slice A len cap) (hx : a.eval x = vy) [hr : HasR L (.slice A len cap) α T.toTy xs put] (HR : RR T.toTy w vy ys) (hl : (xs.length + ys.length) * T.bytes ≤ 140737488355328)
    (hw : Region.wanted o (yielded ops a.tmps) = true) (h : ∀ v1 w1 zs, Hid (zs = xs ++ ys) → SH F w0 w1 (put v1 zs) → wpList P ops Q rest (a.put o.dst v1) w1) : wpList P ops Q (o :: rest) a w := by
  obtain ⟨i, h1, h2⟩ := hr.ix
  exact wAppend T H i h1 vy ys HR hl s x ho hs hx hw fun v1 w1 k => h v1 w1 _ (Lib.hid rfl) (by rw [← h2]; exact k)
theorem aAppLit (T : ST P α) (ys : List α) (cs : Array Value) (hcs : cs.toList = T.all ys) (hm : ys.length ≤ 1000000000) (n : Nat) (hn : ys.length = n) (H : SH F w0 w L) (s x : Operand) (ho : o.op = .call { callee := .builtin .append, args := #[s, x], argTypes := #[T.t, T.t] }) {A : Option Addr} {len cap : Nat} {xs : List α} {put : Value → List α → List Own} (hs : a.eval s = .slice A len cap) (hx : a.eval x = .slice (some ⟨w.heap.size, 0, none⟩) n n) [hr : HasR L (.slice A len cap) α T.toTy xs put] (hl : (xs.length + n) * T.bytes ≤ 140737488355328)
    (hw : Region.wanted o (yielded ops a.tmps) = true) (h : ∀ v1 w1 zs, Hid (zs = xs ++ ys) → SH F w0 w1 (put v1 zs) → wpList P ops Q rest (a.put o.dst v1) w1) : wpList P ops Q (o :: rest) a (w.alloc (.cells cs T.id)) := by
  obtain ⟨i, h1, h2⟩ := hr.ix
  exact wAppLit T ys cs hcs hm n hn H i h1 hl s x ho hs hx hw fun v1 w1 k => h v1 w1 _ (Lib.hid rfl) (by rw [← h2]; exact k)
theorem aAppB1 (b : UInt8) (H : SH F w0 w L) (s x : Operand) (ho : o.op = .call { callee := .builtin .append, args := #[s, x], argTypes := #[22, 22] }) {A : Option Addr} {len cap : Nat} {xs : List UInt8} {put : Value → List UInt8 → List Own} (hs : a.eval s = .slice A len cap) (hx : a.eval x = .slice (some ⟨w.heap.size, 0, none⟩) 1 1) [hr : HasR L (.slice A len cap) UInt8 B8 xs put] (hl : xs.length ≤ 1000000000)
    (hw : Region.wanted o (yielded ops a.tmps) = true) (h : ∀ v1 w1 zs, Hid (zs = xs ++ [b]) → SH F w0 w1 (put v1 zs) → wpList Tryd.prog ops Q rest (a.put o.dst v1) w1) : wpList Tryd.prog ops Q (o :: rest) a (w.alloc (.cells #[.int .u8 (b.toNat : Int)] 5)) :=
  aAppLit sB [b] #[.int .u8 (b.toNat : Int)] rfl (by simp) 1 rfl H s x ho hs hx (by show (xs.length + 1) * 1 ≤ _; omega) hw h
theorem aAppBs (H : SH F w0 w L) (s x : Operand) (ho : o.op = .call { callee := .builtin .append, args := #[s, x], argTypes := #[22, 22] }) {A : Option Addr} {len cap : Nat} {vy : Value} {xs ys : List UInt8} {put : Value → List UInt8 → List Own} (hs : a.eval s = .slice A len cap) (hx : a.eval x = vy) [hr : HasR L (.slice A len cap) UInt8 B8 xs put] (HR : RB w vy ys) (hl : xs.length ≤ 1000000000 ∧ ys.length ≤ 1000000000)
    (hw : Region.wanted o (yielded ops a.tmps) = true) (h : ∀ v1 w1 zs, Hid (zs = xs ++ ys) → SH F w0 w1 (put v1 zs) → wpList Tryd.prog ops Q rest (a.put o.dst v1) w1) : wpList Tryd.prog ops Q (o :: rest) a w :=
  aAppend sB H s x ho hs hx HR (by show (xs.length + ys.length) * 1 ≤ _; omega) hw h
theorem aMake0 (n : Nat) (hn : n ≤ 1000000) (H : SH F w0 w L) (l c : Operand) (ho : o.op = .makeSlice 22 l c) (hl : a.eval l = .int .i64 0) (hc : a.eval c = .int .i64 (n : Int)) (hw : Region.wanted o (yielded ops a.tmps) = true)
    (h : ∀ b w', SH F w0 w' (.row B8 (.slice (some ⟨b, 0, none⟩) 0 n) [] :: L) → wpList Tryd.prog ops Q rest (a.put o.dst (.slice (some ⟨b, 0, none⟩) 0 n)) w') : wpList Tryd.prog ops Q (o :: rest) a w :=
  stepV (exec_make0 n hn l c ho hl hc) hw (h _ _ (H.pushRow (alloc_belowAt w _) (World.ownsRow_made w _ n (Nat.le_refl _) (by simp [maxLen]; omega) (by simp [U8]))))
end
/-! Operations of a region that draws its order, as steps; two, or three, that may come first. -/
section
variable {ops : Array Oper} {o : Oper} {a : Act} {Q : Exit → Act → World → Prop} {F : Nat → Prop} {w0 w : World} {L : List Own} {K : Act → World → Prop}
variable {b off n : Nat} {t t2 : TypeId} {cs vs new z : List Value} {v zv : Value} {put : List Value → List Own}
theorem oAlloc (H : SH F w0 w L) (ho : o.op = .alloc t) [T : TI P t n z] (h : ∀ b w', Below w.heap.size w w' → SH F w0 w' (.blk b t z :: L) → K (a.put o.dst (.pointer (some ⟨b, 0, none⟩))) w') : o.wp P a w K Q :=
  opV (exec_alloc t ho _ z T.zinfo rfl) (h _ _ (alloc_belowAt w _) (H.new _ _))
theorem oAlloc1 (H : SH F w0 w L) (ho : o.op = .alloc t) [T : TS P t zv] (h : ∀ b w', Below w.heap.size w w' → SH F w0 w' (.blk b t [zv] :: L) → K (a.put o.dst (.pointer (some ⟨b, 0, none⟩))) w') : o.wp P a w K Q :=
  opV (exec_alloc t ho zv [zv] T.zinfo T.cells) (h _ _ (alloc_belowAt w _) (H.new _ _))
theorem oBox (H : SH F w0 w L) (y : Operand) (ho : o.op = .box t y) (hx : a.eval y = .agg cs.toArray) (h : ∀ b w', Below w.heap.size w w' → SH F w0 w' (.blk b t cs :: L) → K (a.put o.dst (.pointer (some ⟨b, 0, none⟩))) w') : o.wp P a w K Q :=
  opV (exec_box t y ho cs hx) (h _ _ (alloc_belowAt w _) (H.new _ _))
theorem oBox1 (H : SH F w0 w L) (y : Operand) (ho : o.op = .box t y) (hx : a.eval y = v) (hc : v.cells = [v].toArray) (h : ∀ b w', Below w.heap.size w w' → SH F w0 w' (.blk b t [v] :: L) → K (a.put o.dst (.pointer (some ⟨b, 0, none⟩))) w') : o.wp P a w K Q := by
  refine opV (w' := w.alloc (.cells v.cells t)) ?_ (h _ _ (alloc_belowAt w _) (by rw [hc]; exact H.new t [v]))
  unfold execOp
  simp only [ho, hx]
  rfl
theorem oLay (H : SH F w0 w L) (p y : Operand) (ho : o.op = .store t p y) (hx : a.eval p = .pointer (some ⟨b, off, none⟩)) (hy : a.eval y = .agg vs.toArray) [HasB L b t2 cs put] [TI P t n z] (hl : off + n ≤ cs.length ∧ vs.length = n) (h1 : (vs.all fun u => u.oneCell') = true) (hn : lay cs off vs = new)
    (h : ∀ w', SH F w0 w' (put new) → K (a.put o.dst undef) w') : o.wp P a w K Q := by
  obtain ⟨w', hr, H'⟩ := xLay (P := P) (ρ := a.eval) H p y ho hx hy hl h1 hn
  exact opS hr (h w' H')
theorem oStore (H : SH F w0 w L) (p y : Operand) (ho : o.op = .store t p y) (hx : a.eval p = .pointer (some ⟨b, 0, none⟩)) (hy : a.eval y = .agg vs.toArray) [HasB L b t2 cs put] [TI P t n z] (hl : cs.length = n ∧ vs.length = n) (h1 : (vs.all fun u => u.oneCell') = true)
    (h : ∀ w', SH F w0 w' (put vs) → K (a.put o.dst undef) w') : o.wp P a w K Q :=
  oLay H p y ho hx hy (by omega) h1 (lay_whole (by omega)) h
theorem oCellA (H : SH F w0 w L) (p y : Operand) (ho : o.op = .store t p y) (hx : a.eval p = .pointer (some ⟨b, off, none⟩)) (hy : a.eval y = v) [HasB L b t2 cs put] [TS P t zv] (hc : v.cells = [v].toArray) (h1 : v.oneCell' = true) (hl : off < cs.length) (hn : cs.set off v = new)
    (h : ∀ w', SH F w0 w' (put new) → K (a.put o.dst undef) w') : o.wp P a w K Q := by
  obtain ⟨w', hr, H'⟩ := xCell (P := P) (ρ := a.eval) H p y ho hx hy hc h1 hl hn
  exact opS hr (h w' H')
theorem oAppB1 (b : UInt8) (H : SH F w0 w L) (s x : Operand) (ho : o.op = .call { callee := .builtin .append, args := #[s, x], argTypes := #[22, 22] }) {A : Option Addr} {len cap : Nat} {xs : List UInt8} {put : Value → List UInt8 → List Own} (hs : a.eval s = .slice A len cap) (hx : a.eval x = .slice (some ⟨w.heap.size, 0, none⟩) 1 1) [hr : HasR L (.slice A len cap) UInt8 B8 xs put] (hl : xs.length ≤ 1000000000)
    (h : ∀ v1 w1 zs, Hid (zs = xs ++ [b]) → SH F w0 w1 (put v1 zs) → K (a.put o.dst v1) w1) : o.wp Tryd.prog a (w.alloc (.cells #[.int .u8 (b.toNat : Int)] 5)) K Q := by
  obtain ⟨i, h1, h2⟩ := hr.ix
  exact oAppLit sB [b] #[.int .u8 (b.toNat : Int)] rfl (by simp) 1 rfl H i h1 (by show (xs.length + 1) * 1 ≤ _; omega) s x ho hs hx fun v1 w1 k => h v1 w1 _ (Lib.hid rfl) (by rw [← h2]; exact k)
theorem oAppN {α : Type} (T : ST P α) (H : SH F w0 w L) (s x : Operand) (ho : o.op = .call { callee := .builtin .append, args := #[s, x], argTypes := #[T.t, T.t] }) {A : Option Addr} {len cap : Nat} {vy : Value} {xs ys : List α} {put : Value → List α → List Own} (hs : a.eval s = .slice A len cap) (hx : a.eval x = vy) [hr : HasR L (.slice A len cap) α T.toTy xs put] (HR : RR T.toTy w vy ys) (hl : (xs.length + ys.length) * T.bytes ≤ 140737488355328)
    (h : ∀ v1 w1 zs, Hid (zs = xs ++ ys) → SH F w0 w1 (put v1 zs) → K (a.put o.dst v1) w1) : o.wp P a w K Q := by
  obtain ⟨i, h1, h2⟩ := hr.ix
  exact oAppend T H i h1 vy ys HR hl s x ho hs hx fun v1 w1 k => h v1 w1 _ (Lib.hid rfl) (by rw [← h2]; exact k)
theorem oAppL {α : Type} (T : ST P α) (ys : List α) (cs : Array Value) (hcs : cs.toList = T.all ys) (hm : ys.length ≤ 1000000000) (n : Nat) (hn : ys.length = n) (H : SH F w0 w L) (s x : Operand) (ho : o.op = .call { callee := .builtin .append, args := #[s, x], argTypes := #[T.t, T.t] }) {A : Option Addr} {len cap : Nat} {xs : List α} {put : Value → List α → List Own} (hs : a.eval s = .slice A len cap) (hx : a.eval x = .slice (some ⟨w.heap.size, 0, none⟩) n n) [hr : HasR L (.slice A len cap) α T.toTy xs put] (hl : (xs.length + n) * T.bytes ≤ 140737488355328)
    (h : ∀ v1 w1 zs, Hid (zs = xs ++ ys) → SH F w0 w1 (put v1 zs) → K (a.put o.dst v1) w1) : o.wp P a (w.alloc (.cells cs T.id)) K Q := by
  obtain ⟨i, h1, h2⟩ := hr.ix
  exact oAppLit T ys cs hcs hm n hn H i h1 hl s x ho hs hx fun v1 w1 k => h v1 w1 _ (Lib.hid rfl) (by rw [← h2]; exact k)
variable {S : World → Prop} {W : Nat → Bool}
theorem stepL2 (i j : Nat) {oi oj : Oper} {fuel : Nat} {listed : Array Bool} (hi : ops.toList[i]? = some oi) (hj : ops.toList[j]? = some oj) (hr : Region.ready .any ops listed = [i, j]) (hw : Region.wanted oi (yielded ops a.tmps) = true) (hw2 : Region.wanted oj (yielded ops a.tmps) = true)
    (h : ∀ K : Act → World → Prop, Shut (∀ a' w', (W i = false → S w → S w') → wpAnyL P .any ops Q S W fuel (listed.setIfInBounds i true) a' w' → K a' w') → oi.wp P a w K Q)
    (h2 : ∀ K : Act → World → Prop, Shut (∀ a' w', (W j = false → S w → S w') → wpAnyL P .any ops Q S W fuel (listed.setIfInBounds j true) a' w' → K a' w') → oj.wp P a w K Q) : wpAnyL P .any ops Q S W (fuel + 1) listed a w := by
  have hi2 : ops[i]? = some oi := by simpa using hi
  have hj2 : ops[j]? = some oj := by simpa using hj
  refine ⟨fun h0 => (by rw [h0] at hr; cases hr), fun k hk => ?_⟩
  rw [hr] at hk
  rcases List.mem_cons.mp hk with rfl | hk
  · unfold wpOp
    simp only [hi2, hw, if_true]
    exact .inl (h _ (fun a' w' h1 h2 => ⟨h1, h2⟩))
  · obtain rfl := List.mem_singleton.mp hk
    unfold wpOp
    simp only [hj2, hw2, if_true]
    exact .inl (h2 _ (fun a' w' h1 h2 => ⟨h1, h2⟩))
theorem stepL3 (i j l : Nat) {oi oj ol : Oper} {fuel : Nat} {listed : Array Bool} (hi : ops.toList[i]? = some oi) (hj : ops.toList[j]? = some oj) (hl : ops.toList[l]? = some ol) (hr : Region.ready .any ops listed = [i, j, l]) (hw : Region.wanted oi (yielded ops a.tmps) = true) (hw2 : Region.wanted oj (yielded ops a.tmps) = true) (hw3 : Region.wanted ol (yielded ops a.tmps) = true)
    (h : ∀ K : Act → World → Prop, Shut (∀ a' w', (W i = false → S w → S w') → wpAnyL P .any ops Q S W fuel (listed.setIfInBounds i true) a' w' → K a' w') → oi.wp P a w K Q)
    (h2 : ∀ K : Act → World → Prop, Shut (∀ a' w', (W j = false → S w → S w') → wpAnyL P .any ops Q S W fuel (listed.setIfInBounds j true) a' w' → K a' w') → oj.wp P a w K Q)
    (h3 : ∀ K : Act → World → Prop, Shut (∀ a' w', (W l = false → S w → S w') → wpAnyL P .any ops Q S W fuel (listed.setIfInBounds l true) a' w' → K a' w') → ol.wp P a w K Q) : wpAnyL P .any ops Q S W (fuel + 1) listed a w := by
  have hi2 : ops[i]? = some oi := by simpa using hi
  have hj2 : ops[j]? = some oj := by simpa using hj
  have hl2 : ops[l]? = some ol := by simpa using hl
  refine ⟨fun h0 => (by rw [h0] at hr; cases hr), fun k hk => ?_⟩
  rw [hr] at hk
  rcases List.mem_cons.mp hk with rfl | hk
  · unfold wpOp
    simp only [hi2, hw, if_true]
    exact .inl (h _ (fun a' w' h1 h2 => ⟨h1, h2⟩))
  rcases List.mem_cons.mp hk with rfl | hk
  · unfold wpOp
    simp only [hj2, hw2, if_true]
    exact .inl (h2 _ (fun a' w' h1 h2 => ⟨h1, h2⟩))
  · obtain rfl := List.mem_singleton.mp hk
    unfold wpOp
    simp only [hl2, hw3, if_true]
    exact .inl (h3 _ (fun a' w' h1 h2 => ⟨h1, h2⟩))
end
/-- An empty literal. -/
theorem xEmpty {P : Program} {o : Oper} {ρ : Operand → Value} {w : World} (T : ST P α) (ho : o.op = .buildSlice T.t 0 #[]) : (execOp ρ o).run P w = .ok (.value (.slice (some ⟨w.heap.size, 0, none⟩) 0 0)) (w.alloc (.cells #[] T.id)) := by
  obtain ⟨i0, hi, hzz⟩ := Option.map_eq_some_iff.1 T.hinfo
  simp only [Prod.mk.injEq] at hzz
  unfold execOp
  simp [ho, Instr.buildSlice, run_underlying T.ht, sizeOf, typeInfo, hi, Instr.fill, newRow]
  rw [show Array.range 0 = #[] from rfl, Array.map_empty]
section
variable {ops : Array Oper} {rest : List Oper} {o : Oper} {a : Act} {Q : Exit → Act → World → Prop} {F : Nat → Prop} {w0 w : World} {L : List Own}
theorem aEmpty (T : ST P α) (H : SH F w0 w L) (ho : o.op = .buildSlice T.t 0 #[]) (hw : Region.wanted o (yielded ops a.tmps) = true)
    (h : ∀ b w', SH F w0 w' (.row T.toTy (.slice (some ⟨b, 0, none⟩) 0 0) [] :: L) → wpList P ops Q rest (a.put o.dst (.slice (some ⟨b, 0, none⟩) 0 0)) w') : wpList P ops Q (o :: rest) a w := by
  refine stepV (xEmpty T ho) hw (h _ _ (H.pushRow (alloc_belowAt w _) ?_))
  exact OR.lit T.toTy w w.heap.size [] #[] rfl (Nat.le_refl _) (by simp)
theorem gSlit {t : TypeId} {n : Nat} {ps : Array (Nat × Operand)} {d : Option Tmp} {ty : TypeId} {q : String} {af : Array Edge} {gd : Option (Nat × Bool)} (h : wpList P ops Q (⟨d, .buildSlice t n ps, ty, q, af, gd⟩ :: rest) a w) : wpList P ops Q (⟨d, .buildSlice t n ps, ty, q, af, gd⟩ :: rest) a w := h
end
/-- A slice's value, as an element of rows of slices. -/
abbrev SVV := Option Addr × Nat × Nat
def SVV.val (s : SVV) : Value := .slice s.1 s.2.1 s.2.2
/-- A row that is read: nothing is said of who may write it. -/
def Own.rd (T : Ty α) (v : Value) (xs : List α) : Own where
  foot k := 0 < xs.length ∧ ∃ (ad : Addr) (n c : Nat), v = .slice (some ad) n c ∧ ad.block = k
  holds w := RR T w v xs
  lt w k h e := by
    obtain ⟨hp, ad, n, c, rfl, rfl⟩ := e
    obtain ⟨A, c2, e2, _, _, h3⟩ := h
    obtain ⟨ad2, rfl, hc⟩ := h3 hp
    injection e2 with e3 _ _
    injection e3 with e3
    subst e3
    have hl : 0 < (T.all xs).length := by rw [Ty.all_length]; exact Nat.mul_pos hp T.hsz
    have := hc 0 _ (List.getElem?_eq_getElem hl)
    rw [Addr.add_zero'] at this
    exact World.block_lt_of_cell? w ad this
  keep w w' h hs hk := by
    obtain ⟨A, c2, rfl, h1, h2, h3⟩ := h
    refine ⟨A, c2, rfl, h1, h2, fun hp => ?_⟩
    obtain ⟨ad2, rfl, hc⟩ := h3 hp
    refine ⟨ad2, rfl, fun j u hj => ?_⟩
    rw [← hc j u hj]
    have hb : (ad2.add j).block = ad2.block := by unfold Addr.add; split <;> rfl
    exact World.cell?_of_block (w := w) (by rw [hb]; exact hk _ ⟨hp, ad2, _, _, rfl, rfl⟩)
/-- What slice v reads. -/
class HasD (L : List Own) (v : Value) (α : outParam Type) (T : outParam (Ty α)) (xs : outParam (List α)) : Prop where
  get : ∀ w, HOLD L w → RR T w v xs
instance HasD.rd {L : List Own} {v : Value} {T : Ty α} {xs : List α} : HasD (.rd T v xs :: L) v α T xs := ⟨fun _ h => h _ (List.mem_cons_self ..)⟩
instance HasD.row {L : List Own} {v : Value} {T : Ty α} {xs : List α} : HasD (.row T v xs :: L) v α T xs := ⟨fun _ h => OR.reads (h _ (List.mem_cons_self ..))⟩
instance (priority := low) HasD.there {o : Own} {L : List Own} {v : Value} {T : Ty α} {xs : List α} [h : HasD L v α T xs] : HasD (o :: L) v α T xs := ⟨fun w hw => h.get w hw.tail⟩
theorem HOLD.rd {L : List Own} {w : World} (v : Value) {T : Ty α} {xs : List α} (h : HOLD L w) [k : HasD L v α T xs] : RR T w v xs := k.get w h
theorem HOLD.rdOne {w : World} {v : Value} {T : Ty α} {xs : List α} (h : RR T w v xs) : HOLD [.rd T v xs] w := fun o ho => by rw [List.mem_singleton.mp ho]; exact h
theorem HOLD.rdCons {w : World} {v : Value} {T : Ty α} {xs : List α} {L : List Own} (h : RR T w v xs) (hl : HOLD L w) : HOLD (.rd T v xs :: L) w := fun o ho => by
  rcases List.mem_cons.mp ho with rfl | ho
  · exact h
  · exact hl o ho
section
variable {ops : Array Oper} {rest : List Oper} {o : Oper} {a : Act} {Q : Exit → Act → World → Prop} {F : Nat → Prop} {w0 w : World} {L R : List Own} {ρ : Operand → Value} {A : Option Addr} {len cap : Nat}
theorem xStr {xs : List UInt8} (y : Operand) (ho : o.op = .convert 22 9 y) (hx : ρ y = .slice A len cap) (h : HOLD L w) [HasD L (.slice A len cap) UInt8 B8 xs] : (execOp ρ o).run Tryd.prog w = .ok (.value (.string (str xs))) w := by
  have := RR.string (P := Tryd.prog) (h.rd (.slice A len cap)) Tryd.underlying22 Tryd.underlying5 Tryd.underlying9
  unfold execOp
  simp only [ho, hx, this, Sem.run_bind, Sem.run_pure, Result.andThen_ok]
theorem aStr {xs : List UInt8} (H : SH F w0 w L) (y : Operand) (ho : o.op = .convert 22 9 y) (hx : a.eval y = .slice A len cap) [HasD L (.slice A len cap) UInt8 B8 xs] (hw : Region.wanted o (yielded ops a.tmps) = true) (h : wpList Tryd.prog ops Q rest (a.put o.dst (.string (str xs))) w) : wpList Tryd.prog ops Q (o :: rest) a w :=
  stepV (xStr y ho hx H.hold) hw h
theorem aStrR {xs : List UInt8} (RO : HOLD R w0) (H : SH Nil w0 w L) (y : Operand) (ho : o.op = .convert 22 9 y) (hx : a.eval y = .slice A len cap) [HasD R (.slice A len cap) UInt8 B8 xs] (hw : Region.wanted o (yielded ops a.tmps) = true) (h : wpList Tryd.prog ops Q rest (a.put o.dst (.string (str xs))) w) : wpList Tryd.prog ops Q (o :: rest) a w :=
  stepV (xStr y ho hx (H.old RO)) hw h
theorem gConv {src dst : TypeId} {y : Operand} {d : Option Tmp} {ty : TypeId} {q : String} {af : Array Edge} {gd : Option (Nat × Bool)} (h : wpList P ops Q (⟨d, .convert src dst y, ty, q, af, gd⟩ :: rest) a w) : wpList P ops Q (⟨d, .convert src dst y, ty, q, af, gd⟩ :: rest) a w := h
end
/-! What the program's types are. -/
instance instTS1 : TS Tryd.prog 1 (.nilFunc) := ⟨⟨_, Tryd.underlying1, rfl⟩, by kernel_rfl, by kernel_rfl, rfl⟩
instance instTS2 : TS Tryd.prog 2 (.int .i64 0) := ⟨⟨_, Tryd.underlying2, rfl⟩, by kernel_rfl, by kernel_rfl, rfl⟩
instance instTS3 : TS Tryd.prog 3 (.int .i64 0) := ⟨⟨_, Tryd.underlying3, rfl⟩, by kernel_rfl, by kernel_rfl, rfl⟩
instance instTS4 : TS Tryd.prog 4 (.bool false) := ⟨⟨_, Tryd.underlying4, rfl⟩, by kernel_rfl, by kernel_rfl, rfl⟩
instance instTS5 : TS Tryd.prog 5 (.int .u8 0) := ⟨⟨_, Tryd.underlying5, rfl⟩, by kernel_rfl, by kernel_rfl, rfl⟩
instance instTI7 : TI Tryd.prog 7 4 [.int .i64 0, .int .i64 0, .bool false, .int .u8 0] := ⟨⟨_, Tryd.underlying7, rfl⟩, by kernel_rfl, by kernel_rfl, by kernel_rfl, rfl⟩
instance instTS9 : TS Tryd.prog 9 (.string ByteArray.empty) := ⟨⟨_, Tryd.underlying9, rfl⟩, by kernel_rfl, by kernel_rfl, rfl⟩
instance instTS12 : TS Tryd.prog 12 (.int .u64 0) := ⟨⟨_, Tryd.underlying12, rfl⟩, by kernel_rfl, by kernel_rfl, rfl⟩
instance instTI13 : TI Tryd.prog 13 2 [.string ByteArray.empty, .int .u64 0] := ⟨⟨_, Tryd.underlying13, rfl⟩, by kernel_rfl, by kernel_rfl, by kernel_rfl, rfl⟩
instance instTS15 : TS Tryd.prog 15 (.pointer none) := ⟨⟨_, Tryd.underlying15, rfl⟩, by kernel_rfl, by kernel_rfl, rfl⟩
instance instTS16 : TS Tryd.prog 16 (.pointer none) := ⟨⟨_, Tryd.underlying16, rfl⟩, by kernel_rfl, by kernel_rfl, rfl⟩
instance instTS17 : TS Tryd.prog 17 (.pointer none) := ⟨⟨_, Tryd.underlying17, rfl⟩, by kernel_rfl, by kernel_rfl, rfl⟩
instance instTI18 : TI Tryd.prog 18 1 [.pointer none] := ⟨⟨_, Tryd.underlying18, rfl⟩, by kernel_rfl, by kernel_rfl, by kernel_rfl, rfl⟩
instance instTS20 : TS Tryd.prog 20 (.nilIface) := ⟨⟨_, Tryd.underlying20, rfl⟩, by kernel_rfl, by kernel_rfl, rfl⟩
instance instTS21 : TS Tryd.prog 21 (.int .i32 0) := ⟨⟨_, Tryd.underlying21, rfl⟩, by kernel_rfl, by kernel_rfl, rfl⟩
instance instTS22 : TS Tryd.prog 22 (.slice none 0 0) := ⟨⟨_, Tryd.underlying22, rfl⟩, by kernel_rfl, by kernel_rfl, rfl⟩
instance instTS23 : TS Tryd.prog 23 (.pointer none) := ⟨⟨_, Tryd.underlying23, rfl⟩, by kernel_rfl, by kernel_rfl, rfl⟩
instance instTS24 : TS Tryd.prog 24 (.pointer none) := ⟨⟨_, Tryd.underlying24, rfl⟩, by kernel_rfl, by kernel_rfl, rfl⟩
instance instTS26 : TS Tryd.prog 26 (.nilFunc) := ⟨⟨_, Tryd.underlying26, rfl⟩, by kernel_rfl, by kernel_rfl, rfl⟩
instance instTS27 : TS Tryd.prog 27 (.nilFunc) := ⟨⟨_, Tryd.underlying27, rfl⟩, by kernel_rfl, by kernel_rfl, rfl⟩
instance instTS28 : TS Tryd.prog 28 (.slice none 0 0) := ⟨⟨_, Tryd.underlying28, rfl⟩, by kernel_rfl, by kernel_rfl, rfl⟩
instance instTI29 : TI Tryd.prog 29 32 (List.replicate 32 (.int .u8 0)) := ⟨⟨_, Tryd.underlying29, rfl⟩, by kernel_rfl, by kernel_rfl, by kernel_rfl, rfl⟩
instance instTS30 : TS Tryd.prog 30 (.int .u32 0) := ⟨⟨_, Tryd.underlying30, rfl⟩, by kernel_rfl, by kernel_rfl, rfl⟩
instance instTI31 : TI Tryd.prog 31 2 [.int .u32 0, .int .u32 0] := ⟨⟨_, Tryd.underlying31, rfl⟩, by kernel_rfl, by kernel_rfl, by kernel_rfl, rfl⟩
instance instTI32 : TI Tryd.prog 32 35 (List.replicate 32 (.int .u8 0) ++ [.int .u32 0, .int .u32 0, .int .u32 0]) := ⟨⟨_, Tryd.underlying32, rfl⟩, by kernel_rfl, by kernel_rfl, by kernel_rfl, rfl⟩
instance instTI33 : TI Tryd.prog 33 35 (List.replicate 32 (.int .u8 0) ++ [.int .u32 0, .int .u32 0, .int .u32 0]) := ⟨⟨_, Tryd.underlying33, rfl⟩, by kernel_rfl, by kernel_rfl, by kernel_rfl, rfl⟩
instance instTS34 : TS Tryd.prog 34 (.int .i64 0) := ⟨⟨_, Tryd.underlying34, rfl⟩, by kernel_rfl, by kernel_rfl, rfl⟩
instance instTS36 : TS Tryd.prog 36 (.nilFunc) := ⟨⟨_, Tryd.underlying36, rfl⟩, by kernel_rfl, by kernel_rfl, rfl⟩
instance instTS37 : TS Tryd.prog 37 (.nilFunc) := ⟨⟨_, Tryd.underlying37, rfl⟩, by kernel_rfl, by kernel_rfl, rfl⟩
instance instTS39 : TS Tryd.prog 39 (.nilFunc) := ⟨⟨_, Tryd.underlying39, rfl⟩, by kernel_rfl, by kernel_rfl, rfl⟩
instance instTS40 : TS Tryd.prog 40 (.nilFunc) := ⟨⟨_, Tryd.underlying40, rfl⟩, by kernel_rfl, by kernel_rfl, rfl⟩
instance instTI41 : TI Tryd.prog 41 2 [.slice none 0 0, .slice none 0 0] := ⟨⟨_, Tryd.underlying41, rfl⟩, by kernel_rfl, by kernel_rfl, by kernel_rfl, rfl⟩
instance instTS42 : TS Tryd.prog 42 (.nilFunc) := ⟨⟨_, Tryd.underlying42, rfl⟩, by kernel_rfl, by kernel_rfl, rfl⟩
instance instTS43 : TS Tryd.prog 43 (.nilFunc) := ⟨⟨_, Tryd.underlying43, rfl⟩, by kernel_rfl, by kernel_rfl, rfl⟩
instance instTI44 : TI Tryd.prog 44 2 [.bool false, .bool false] := ⟨⟨_, Tryd.underlying44, rfl⟩, by kernel_rfl, by kernel_rfl, by kernel_rfl, rfl⟩
instance instTS46 : TS Tryd.prog 46 (.nilFunc) := ⟨⟨_, Tryd.underlying46, rfl⟩, by kernel_rfl, by kernel_rfl, rfl⟩
instance instTS48 : TS Tryd.prog 48 (.nilFunc) := ⟨⟨_, Tryd.underlying48, rfl⟩, by kernel_rfl, by kernel_rfl, rfl⟩
instance instTS49 : TS Tryd.prog 49 (.nilFunc) := ⟨⟨_, Tryd.underlying49, rfl⟩, by kernel_rfl, by kernel_rfl, rfl⟩
instance instTS50 : TS Tryd.prog 50 (.nilFunc) := ⟨⟨_, Tryd.underlying50, rfl⟩, by kernel_rfl, by kernel_rfl, rfl⟩
instance instTS51 : TS Tryd.prog 51 (.nilFunc) := ⟨⟨_, Tryd.underlying51, rfl⟩, by kernel_rfl, by kernel_rfl, rfl⟩
instance instTS52 : TS Tryd.prog 52 (.slice none 0 0) := ⟨⟨_, Tryd.underlying52, rfl⟩, by kernel_rfl, by kernel_rfl, rfl⟩
instance instTI53 : TI Tryd.prog 53 40 ([.int .i64 0, .int .i64 0, .int .i64 0, .int .i64 0] ++ List.replicate 32 (.int .u8 0) ++ [.int .u32 0, .int .u32 0, .int .u32 0, .slice none 0 0]) := ⟨⟨_, Tryd.underlying53, rfl⟩, by kernel_rfl, by kernel_rfl, by kernel_rfl, rfl⟩
instance instTI54 : TI Tryd.prog 54 40 ([.int .i64 0, .int .i64 0, .int .i64 0, .int .i64 0] ++ List.replicate 32 (.int .u8 0) ++ [.int .u32 0, .int .u32 0, .int .u32 0, .slice none 0 0]) := ⟨⟨_, Tryd.underlying54, rfl⟩, by kernel_rfl, by kernel_rfl, by kernel_rfl, rfl⟩
instance instTI55 : TI Tryd.prog 55 40 (List.replicate 32 (.int .u8 0) ++ [.int .u32 0, .int .u32 0, .int .u32 0, .string ByteArray.empty, .bool false, .bool false, .int .i64 0, .int .i64 0]) := ⟨⟨_, Tryd.underlying55, rfl⟩, by kernel_rfl, by kernel_rfl, by kernel_rfl, rfl⟩
instance instTI56 : TI Tryd.prog 56 40 (List.replicate 32 (.int .u8 0) ++ [.int .u32 0, .int .u32 0, .int .u32 0, .string ByteArray.empty, .bool false, .bool false, .int .i64 0, .int .i64 0]) := ⟨⟨_, Tryd.underlying56, rfl⟩, by kernel_rfl, by kernel_rfl, by kernel_rfl, rfl⟩
instance instTS57 : TS Tryd.prog 57 (.nilFunc) := ⟨⟨_, Tryd.underlying57, rfl⟩, by kernel_rfl, by kernel_rfl, rfl⟩
instance instTS58 : TS Tryd.prog 58 (.nilFunc) := ⟨⟨_, Tryd.underlying58, rfl⟩, by kernel_rfl, by kernel_rfl, rfl⟩
instance instTS59 : TS Tryd.prog 59 (.slice none 0 0) := ⟨⟨_, Tryd.underlying59, rfl⟩, by kernel_rfl, by kernel_rfl, rfl⟩
instance instTS60 : TS Tryd.prog 60 (.slice none 0 0) := ⟨⟨_, Tryd.underlying60, rfl⟩, by kernel_rfl, by kernel_rfl, rfl⟩
instance instTI61 : TI Tryd.prog 61 5 [.slice none 0 0, .slice none 0 0, .bool false, .int .i64 0, .bool false] := ⟨⟨_, Tryd.underlying61, rfl⟩, by kernel_rfl, by kernel_rfl, by kernel_rfl, rfl⟩
instance instTI62 : TI Tryd.prog 62 5 [.slice none 0 0, .slice none 0 0, .bool false, .int .i64 0, .bool false] := ⟨⟨_, Tryd.underlying62, rfl⟩, by kernel_rfl, by kernel_rfl, by kernel_rfl, rfl⟩
instance instTS63 : TS Tryd.prog 63 (.slice none 0 0) := ⟨⟨_, Tryd.underlying63, rfl⟩, by kernel_rfl, by kernel_rfl, rfl⟩
instance instTI64 : TI Tryd.prog 64 1 [.slice none 0 0] := ⟨⟨_, Tryd.underlying64, rfl⟩, by kernel_rfl, by kernel_rfl, by kernel_rfl, rfl⟩
instance instTI65 : TI Tryd.prog 65 1 [.slice none 0 0] := ⟨⟨_, Tryd.underlying65, rfl⟩, by kernel_rfl, by kernel_rfl, by kernel_rfl, rfl⟩
instance instTI66 : TI Tryd.prog 66 7 [.slice none 0 0, .slice none 0 0, .bool false, .int .i64 0, .bool false, .slice none 0 0, .int .u32 0] := ⟨⟨_, Tryd.underlying66, rfl⟩, by kernel_rfl, by kernel_rfl, by kernel_rfl, rfl⟩
instance instTI67 : TI Tryd.prog 67 7 [.slice none 0 0, .slice none 0 0, .bool false, .int .i64 0, .bool false, .slice none 0 0, .int .u32 0] := ⟨⟨_, Tryd.underlying67, rfl⟩, by kernel_rfl, by kernel_rfl, by kernel_rfl, rfl⟩
instance instTS68 : TS Tryd.prog 68 (.nilFunc) := ⟨⟨_, Tryd.underlying68, rfl⟩, by kernel_rfl, by kernel_rfl, rfl⟩
instance instTS70 : TS Tryd.prog 70 (.nilFunc) := ⟨⟨_, Tryd.underlying70, rfl⟩, by kernel_rfl, by kernel_rfl, rfl⟩
instance instTS71 : TS Tryd.prog 71 (.nilFunc) := ⟨⟨_, Tryd.underlying71, rfl⟩, by kernel_rfl, by kernel_rfl, rfl⟩
instance instTS72 : TS Tryd.prog 72 (.nilFunc) := ⟨⟨_, Tryd.underlying72, rfl⟩, by kernel_rfl, by kernel_rfl, rfl⟩
instance instTS73 : TS Tryd.prog 73 (.nilFunc) := ⟨⟨_, Tryd.underlying73, rfl⟩, by kernel_rfl, by kernel_rfl, rfl⟩
instance instTS74 : TS Tryd.prog 74 (.pointer none) := ⟨⟨_, Tryd.underlying74, rfl⟩, by kernel_rfl, by kernel_rfl, rfl⟩
instance instTS75 : TS Tryd.prog 75 (.nilFunc) := ⟨⟨_, Tryd.underlying75, rfl⟩, by kernel_rfl, by kernel_rfl, rfl⟩
instance instTS76 : TS Tryd.prog 76 (.nilFunc) := ⟨⟨_, Tryd.underlying76, rfl⟩, by kernel_rfl, by kernel_rfl, rfl⟩
instance instTS77 : TS Tryd.prog 77 (.nilFunc) := ⟨⟨_, Tryd.underlying77, rfl⟩, by kernel_rfl, by kernel_rfl, rfl⟩
instance instTS78 : TS Tryd.prog 78 (.nilFunc) := ⟨⟨_, Tryd.underlying78, rfl⟩, by kernel_rfl, by kernel_rfl, rfl⟩
instance instTI79 : TI Tryd.prog 79 37 ([.int .u32 0] ++ List.replicate 32 (.int .u8 0) ++ [.int .u32 0, .int .u32 0, .int .u32 0, .slice none 0 0]) := ⟨⟨_, Tryd.underlying79, rfl⟩, by kernel_rfl, by kernel_rfl, by kernel_rfl, rfl⟩
instance instTI80 : TI Tryd.prog 80 37 ([.int .u32 0] ++ List.replicate 32 (.int .u8 0) ++ [.int .u32 0, .int .u32 0, .int .u32 0, .slice none 0 0]) := ⟨⟨_, Tryd.underlying80, rfl⟩, by kernel_rfl, by kernel_rfl, by kernel_rfl, rfl⟩
instance instTS81 : TS Tryd.prog 81 (.nilFunc) := ⟨⟨_, Tryd.underlying81, rfl⟩, by kernel_rfl, by kernel_rfl, rfl⟩
instance instTI82 : TI Tryd.prog 82 2 [.int .i64 0, .int .i64 0] := ⟨⟨_, Tryd.underlying82, rfl⟩, by kernel_rfl, by kernel_rfl, by kernel_rfl, rfl⟩
instance instTS83 : TS Tryd.prog 83 (.nilFunc) := ⟨⟨_, Tryd.underlying83, rfl⟩, by kernel_rfl, by kernel_rfl, rfl⟩
instance instTS84 : TS Tryd.prog 84 (.nilFunc) := ⟨⟨_, Tryd.underlying84, rfl⟩, by kernel_rfl, by kernel_rfl, rfl⟩
instance instTS86 : TS Tryd.prog 86 (.nilFunc) := ⟨⟨_, Tryd.underlying86, rfl⟩, by kernel_rfl, by kernel_rfl, rfl⟩
instance instTS87 : TS Tryd.prog 87 (.nilFunc) := ⟨⟨_, Tryd.underlying87, rfl⟩, by kernel_rfl, by kernel_rfl, rfl⟩
instance instTS88 : TS Tryd.prog 88 (.nilFunc) := ⟨⟨_, Tryd.underlying88, rfl⟩, by kernel_rfl, by kernel_rfl, rfl⟩
instance instTS89 : TS Tryd.prog 89 (.nilFunc) := ⟨⟨_, Tryd.underlying89, rfl⟩, by kernel_rfl, by kernel_rfl, rfl⟩
instance instTS90 : TS Tryd.prog 90 (.slice none 0 0) := ⟨⟨_, Tryd.underlying90, rfl⟩, by kernel_rfl, by kernel_rfl, rfl⟩
instance instTS92 : TS Tryd.prog 92 (.nilFunc) := ⟨⟨_, Tryd.underlying92, rfl⟩, by kernel_rfl, by kernel_rfl, rfl⟩
instance instTS94 : TS Tryd.prog 94 (.nilFunc) := ⟨⟨_, Tryd.underlying94, rfl⟩, by kernel_rfl, by kernel_rfl, rfl⟩
instance instTS95 : TS Tryd.prog 95 (.nilFunc) := ⟨⟨_, Tryd.underlying95, rfl⟩, by kernel_rfl, by kernel_rfl, rfl⟩
instance instTS96 : TS Tryd.prog 96 (.nilFunc) := ⟨⟨_, Tryd.underlying96, rfl⟩, by kernel_rfl, by kernel_rfl, rfl⟩
instance instTS97 : TS Tryd.prog 97 (.slice none 0 0) := ⟨⟨_, Tryd.underlying97, rfl⟩, by kernel_rfl, by kernel_rfl, rfl⟩
instance instTI98 : TI Tryd.prog 98 42 ([.int .u32 0] ++ List.replicate 32 (.int .u8 0) ++ [.int .u32 0, .int .u32 0, .int .u32 0, .slice none 0 0, .bool false, .int .i64 0, .slice none 0 0, .bool false, .slice none 0 0]) := ⟨⟨_, Tryd.underlying98, rfl⟩, by kernel_rfl, by kernel_rfl, by kernel_rfl, rfl⟩
instance instTI99 : TI Tryd.prog 99 42 ([.int .u32 0] ++ List.replicate 32 (.int .u8 0) ++ [.int .u32 0, .int .u32 0, .int .u32 0, .slice none 0 0, .bool false, .int .i64 0, .slice none 0 0, .bool false, .slice none 0 0]) := ⟨⟨_, Tryd.underlying99, rfl⟩, by kernel_rfl, by kernel_rfl, by kernel_rfl, rfl⟩
instance instTS100 : TS Tryd.prog 100 (.nilFunc) := ⟨⟨_, Tryd.underlying100, rfl⟩, by kernel_rfl, by kernel_rfl, rfl⟩
instance instTS101 : TS Tryd.prog 101 (.nilFunc) := ⟨⟨_, Tryd.underlying101, rfl⟩, by kernel_rfl, by kernel_rfl, rfl⟩
instance instTS102 : TS Tryd.prog 102 (.nilFunc) := ⟨⟨_, Tryd.underlying102, rfl⟩, by kernel_rfl, by kernel_rfl, rfl⟩
instance instTS103 : TS Tryd.prog 103 (.nilFunc) := ⟨⟨_, Tryd.underlying103, rfl⟩, by kernel_rfl, by kernel_rfl, rfl⟩
instance instTS104 : TS Tryd.prog 104 (.nilFunc) := ⟨⟨_, Tryd.underlying104, rfl⟩, by kernel_rfl, by kernel_rfl, rfl⟩
instance instTS105 : TS Tryd.prog 105 (.nilFunc) := ⟨⟨_, Tryd.underlying105, rfl⟩, by kernel_rfl, by kernel_rfl, rfl⟩
instance instTS107 : TS Tryd.prog 107 (.nilFunc) := ⟨⟨_, Tryd.underlying107, rfl⟩, by kernel_rfl, by kernel_rfl, rfl⟩
instance instTS108 : TS Tryd.prog 108 (.nilFunc) := ⟨⟨_, Tryd.underlying108, rfl⟩, by kernel_rfl, by kernel_rfl, rfl⟩
instance instTS109 : TS Tryd.prog 109 (.nilFunc) := ⟨⟨_, Tryd.underlying109, rfl⟩, by kernel_rfl, by kernel_rfl, rfl⟩
instance instTS110 : TS Tryd.prog 110 (.slice none 0 0) := ⟨⟨_, Tryd.underlying110, rfl⟩, by kernel_rfl, by kernel_rfl, rfl⟩
instance instTS112 : TS Tryd.prog 112 (.nilFunc) := ⟨⟨_, Tryd.underlying112, rfl⟩, by kernel_rfl, by kernel_rfl, rfl⟩
instance instTI113 : TI Tryd.prog 113 16 (List.replicate 16 (.string ByteArray.empty)) := ⟨⟨_, Tryd.underlying113, rfl⟩, by kernel_rfl, by kernel_rfl, by kernel_rfl, rfl⟩
instance instTS114 : TS Tryd.prog 114 (.slice none 0 0) := ⟨⟨_, Tryd.underlying114, rfl⟩, by kernel_rfl, by kernel_rfl, rfl⟩
instance instTI115 : TI Tryd.prog 115 3 [.int .i64 0, .slice none 0 0, .bool false] := ⟨⟨_, Tryd.underlying115, rfl⟩, by kernel_rfl, by kernel_rfl, by kernel_rfl, rfl⟩
instance instTI116 : TI Tryd.prog 116 3 [.int .i64 0, .slice none 0 0, .bool false] := ⟨⟨_, Tryd.underlying116, rfl⟩, by kernel_rfl, by kernel_rfl, by kernel_rfl, rfl⟩
instance instTS118 : TS Tryd.prog 118 (.nilFunc) := ⟨⟨_, Tryd.underlying118, rfl⟩, by kernel_rfl, by kernel_rfl, rfl⟩
instance instTS119 : TS Tryd.prog 119 (.nilFunc) := ⟨⟨_, Tryd.underlying119, rfl⟩, by kernel_rfl, by kernel_rfl, rfl⟩
instance instTS120 : TS Tryd.prog 120 (.nilFunc) := ⟨⟨_, Tryd.underlying120, rfl⟩, by kernel_rfl, by kernel_rfl, rfl⟩
instance instTS122 : TS Tryd.prog 122 (.nilFunc) := ⟨⟨_, Tryd.underlying122, rfl⟩, by kernel_rfl, by kernel_rfl, rfl⟩
instance instTI123 : TI Tryd.prog 123 16 (List.replicate 16 (.bool false)) := ⟨⟨_, Tryd.underlying123, rfl⟩, by kernel_rfl, by kernel_rfl, by kernel_rfl, rfl⟩
instance instTS125 : TS Tryd.prog 125 (.nilFunc) := ⟨⟨_, Tryd.underlying125, rfl⟩, by kernel_rfl, by kernel_rfl, rfl⟩
instance instTS126 : TS Tryd.prog 126 (.nilFunc) := ⟨⟨_, Tryd.underlying126, rfl⟩, by kernel_rfl, by kernel_rfl, rfl⟩
instance instTS128 : TS Tryd.prog 128 (.nilFunc) := ⟨⟨_, Tryd.underlying128, rfl⟩, by kernel_rfl, by kernel_rfl, rfl⟩
instance instTS129 : TS Tryd.prog 129 (.nilFunc) := ⟨⟨_, Tryd.underlying129, rfl⟩, by kernel_rfl, by kernel_rfl, rfl⟩
instance instTS130 : TS Tryd.prog 130 (.slice none 0 0) := ⟨⟨_, Tryd.underlying130, rfl⟩, by kernel_rfl, by kernel_rfl, rfl⟩
instance instTI132 : TI Tryd.prog 132 3 [.pointer none, .pointer none, .int .u32 0] := ⟨⟨_, Tryd.underlying132, rfl⟩, by kernel_rfl, by kernel_rfl, by kernel_rfl, rfl⟩
instance instTI133 : TI Tryd.prog 133 3 [.pointer none, .pointer none, .int .u32 0] := ⟨⟨_, Tryd.underlying133, rfl⟩, by kernel_rfl, by kernel_rfl, by kernel_rfl, rfl⟩
instance instTS134 : TS Tryd.prog 134 (.nilFunc) := ⟨⟨_, Tryd.underlying134, rfl⟩, by kernel_rfl, by kernel_rfl, rfl⟩
instance instTS135 : TS Tryd.prog 135 (.nilFunc) := ⟨⟨_, Tryd.underlying135, rfl⟩, by kernel_rfl, by kernel_rfl, rfl⟩
instance instTS136 : TS Tryd.prog 136 (.nilFunc) := ⟨⟨_, Tryd.underlying136, rfl⟩, by kernel_rfl, by kernel_rfl, rfl⟩
instance instTS137 : TS Tryd.prog 137 (.nilFunc) := ⟨⟨_, Tryd.underlying137, rfl⟩, by kernel_rfl, by kernel_rfl, rfl⟩
instance instTS139 : TS Tryd.prog 139 (.nilFunc) := ⟨⟨_, Tryd.underlying139, rfl⟩, by kernel_rfl, by kernel_rfl, rfl⟩
instance instTS140 : TS Tryd.prog 140 (.slice none 0 0) := ⟨⟨_, Tryd.underlying140, rfl⟩, by kernel_rfl, by kernel_rfl, rfl⟩
instance instTI141 : TI Tryd.prog 141 4 [.slice none 0 0, .slice none 0 0, .int .i64 0, .bool false] := ⟨⟨_, Tryd.underlying141, rfl⟩, by kernel_rfl, by kernel_rfl, by kernel_rfl, rfl⟩
instance instTI142 : TI Tryd.prog 142 4 [.slice none 0 0, .slice none 0 0, .int .i64 0, .bool false] := ⟨⟨_, Tryd.underlying142, rfl⟩, by kernel_rfl, by kernel_rfl, by kernel_rfl, rfl⟩
instance instTI143 : TI Tryd.prog 143 2 [.int .i64 0, .slice none 0 0] := ⟨⟨_, Tryd.underlying143, rfl⟩, by kernel_rfl, by kernel_rfl, by kernel_rfl, rfl⟩
instance instTI144 : TI Tryd.prog 144 2 [.int .i64 0, .slice none 0 0] := ⟨⟨_, Tryd.underlying144, rfl⟩, by kernel_rfl, by kernel_rfl, by kernel_rfl, rfl⟩
instance instTS145 : TS Tryd.prog 145 (.nilFunc) := ⟨⟨_, Tryd.underlying145, rfl⟩, by kernel_rfl, by kernel_rfl, rfl⟩
instance instTS146 : TS Tryd.prog 146 (.nilFunc) := ⟨⟨_, Tryd.underlying146, rfl⟩, by kernel_rfl, by kernel_rfl, rfl⟩
instance instTS147 : TS Tryd.prog 147 (.nilFunc) := ⟨⟨_, Tryd.underlying147, rfl⟩, by kernel_rfl, by kernel_rfl, rfl⟩
instance instTS148 : TS Tryd.prog 148 (.nilFunc) := ⟨⟨_, Tryd.underlying148, rfl⟩, by kernel_rfl, by kernel_rfl, rfl⟩
instance instTS150 : TS Tryd.prog 150 (.nilFunc) := ⟨⟨_, Tryd.underlying150, rfl⟩, by kernel_rfl, by kernel_rfl, rfl⟩
instance instTS152 : TS Tryd.prog 152 (.nilFunc) := ⟨⟨_, Tryd.underlying152, rfl⟩, by kernel_rfl, by kernel_rfl, rfl⟩
instance instTS153 : TS Tryd.prog 153 (.nilFunc) := ⟨⟨_, Tryd.underlying153, rfl⟩, by kernel_rfl, by kernel_rfl, rfl⟩
instance instTS154 : TS Tryd.prog 154 (.nilFunc) := ⟨⟨_, Tryd.underlying154, rfl⟩, by kernel_rfl, by kernel_rfl, rfl⟩
instance instTS156 : TS Tryd.prog 156 (.nilFunc) := ⟨⟨_, Tryd.underlying156, rfl⟩, by kernel_rfl, by kernel_rfl, rfl⟩
instance instTS157 : TS Tryd.prog 157 (.nilFunc) := ⟨⟨_, Tryd.underlying157, rfl⟩, by kernel_rfl, by kernel_rfl, rfl⟩
instance instTS158 : TS Tryd.prog 158 (.int .u64 0) := ⟨⟨_, Tryd.underlying158, rfl⟩, by kernel_rfl, by kernel_rfl, rfl⟩
instance instTI159 : TI Tryd.prog 159 8 (List.replicate 8 (.int .u64 0)) := ⟨⟨_, Tryd.underlying159, rfl⟩, by kernel_rfl, by kernel_rfl, by kernel_rfl, rfl⟩
instance instTI160 : TI Tryd.prog 160 9 ([.int .i64 0] ++ List.replicate 8 (.int .u64 0)) := ⟨⟨_, Tryd.underlying160, rfl⟩, by kernel_rfl, by kernel_rfl, by kernel_rfl, rfl⟩
instance instTI161 : TI Tryd.prog 161 9 ([.int .i64 0] ++ List.replicate 8 (.int .u64 0)) := ⟨⟨_, Tryd.underlying161, rfl⟩, by kernel_rfl, by kernel_rfl, by kernel_rfl, rfl⟩
instance instTS162 : TS Tryd.prog 162 (.int .u64 0) := ⟨⟨_, Tryd.underlying162, rfl⟩, by kernel_rfl, by kernel_rfl, rfl⟩
instance instTI163 : TI Tryd.prog 163 44 (List.replicate 44 (.int .u8 0)) := ⟨⟨_, Tryd.underlying163, rfl⟩, by kernel_rfl, by kernel_rfl, by kernel_rfl, rfl⟩
instance instTS164 : TS Tryd.prog 164 (.nilFunc) := ⟨⟨_, Tryd.underlying164, rfl⟩, by kernel_rfl, by kernel_rfl, rfl⟩
instance instTS165 : TS Tryd.prog 165 (.nilFunc) := ⟨⟨_, Tryd.underlying165, rfl⟩, by kernel_rfl, by kernel_rfl, rfl⟩
instance instTS166 : TS Tryd.prog 166 (.nilFunc) := ⟨⟨_, Tryd.underlying166, rfl⟩, by kernel_rfl, by kernel_rfl, rfl⟩
instance instTS167 : TS Tryd.prog 167 (.nilFunc) := ⟨⟨_, Tryd.underlying167, rfl⟩, by kernel_rfl, by kernel_rfl, rfl⟩
instance instTS168 : TS Tryd.prog 168 (.nilFunc) := ⟨⟨_, Tryd.underlying168, rfl⟩, by kernel_rfl, by kernel_rfl, rfl⟩
instance instTS169 : TS Tryd.prog 169 (.nilFunc) := ⟨⟨_, Tryd.underlying169, rfl⟩, by kernel_rfl, by kernel_rfl, rfl⟩
instance instTS171 : TS Tryd.prog 171 (.nilFunc) := ⟨⟨_, Tryd.underlying171, rfl⟩, by kernel_rfl, by kernel_rfl, rfl⟩
instance instTS172 : TS Tryd.prog 172 (.nilFunc) := ⟨⟨_, Tryd.underlying172, rfl⟩, by kernel_rfl, by kernel_rfl, rfl⟩
instance instTS174 : TS Tryd.prog 174 (.nilFunc) := ⟨⟨_, Tryd.underlying174, rfl⟩, by kernel_rfl, by kernel_rfl, rfl⟩
instance instTI175 : TI Tryd.prog 175 2 [.int .i64 0, .string ByteArray.empty] := ⟨⟨_, Tryd.underlying175, rfl⟩, by kernel_rfl, by kernel_rfl, by kernel_rfl, rfl⟩
instance instTI176 : TI Tryd.prog 176 2 [.int .i64 0, .string ByteArray.empty] := ⟨⟨_, Tryd.underlying176, rfl⟩, by kernel_rfl, by kernel_rfl, by kernel_rfl, rfl⟩
instance instTS177 : TS Tryd.prog 177 (.nilFunc) := ⟨⟨_, Tryd.underlying177, rfl⟩, by kernel_rfl, by kernel_rfl, rfl⟩
instance instTS178 : TS Tryd.prog 178 (.nilFunc) := ⟨⟨_, Tryd.underlying178, rfl⟩, by kernel_rfl, by kernel_rfl, rfl⟩
instance instTS179 : TS Tryd.prog 179 (.nilFunc) := ⟨⟨_, Tryd.underlying179, rfl⟩, by kernel_rfl, by kernel_rfl, rfl⟩
instance instTS180 : TS Tryd.prog 180 (.nilFunc) := ⟨⟨_, Tryd.underlying180, rfl⟩, by kernel_rfl, by kernel_rfl, rfl⟩
instance instTS181 : TS Tryd.prog 181 (.nilFunc) := ⟨⟨_, Tryd.underlying181, rfl⟩, by kernel_rfl, by kernel_rfl, rfl⟩
instance instTS182 : TS Tryd.prog 182 (.nilFunc) := ⟨⟨_, Tryd.underlying182, rfl⟩, by kernel_rfl, by kernel_rfl, rfl⟩
instance instTS183 : TS Tryd.prog 183 (.nilFunc) := ⟨⟨_, Tryd.underlying183, rfl⟩, by kernel_rfl, by kernel_rfl, rfl⟩
instance instTS184 : TS Tryd.prog 184 (.pointer none) := ⟨⟨_, Tryd.underlying184, rfl⟩, by kernel_rfl, by kernel_rfl, rfl⟩
instance instTI185 : TI Tryd.prog 185 3 [.pointer none, .slice none 0 0, .bool false] := ⟨⟨_, Tryd.underlying185, rfl⟩, by kernel_rfl, by kernel_rfl, by kernel_rfl, rfl⟩
instance instTI186 : TI Tryd.prog 186 3 [.pointer none, .slice none 0 0, .bool false] := ⟨⟨_, Tryd.underlying186, rfl⟩, by kernel_rfl, by kernel_rfl, by kernel_rfl, rfl⟩
instance instTS187 : TS Tryd.prog 187 (.nilFunc) := ⟨⟨_, Tryd.underlying187, rfl⟩, by kernel_rfl, by kernel_rfl, rfl⟩
instance instTI188 : TI Tryd.prog 188 140 (List.replicate 32 (.int .u8 0) ++ [.int .u32 0, .int .u32 0, .int .u32 0] ++ List.replicate 32 (.int .u8 0) ++ [.int .u32 0, .int .u32 0, .int .u32 0] ++ List.replicate 32 (.int .u8 0) ++ [.int .u32 0, .int .u32 0, .int .u32 0] ++ List.replicate 32 (.int .u8 0) ++ [.int .u32 0, .int .u32 0, .int .u32 0]) := ⟨⟨_, Tryd.underlying188, rfl⟩, by kernel_rfl, by kernel_rfl, by kernel_rfl, rfl⟩
instance instTS190 : TS Tryd.prog 190 (.nilFunc) := ⟨⟨_, Tryd.underlying190, rfl⟩, by kernel_rfl, by kernel_rfl, rfl⟩
instance instTS191 : TS Tryd.prog 191 (.nilFunc) := ⟨⟨_, Tryd.underlying191, rfl⟩, by kernel_rfl, by kernel_rfl, rfl⟩
instance instTS192 : TS Tryd.prog 192 (.slice none 0 0) := ⟨⟨_, Tryd.underlying192, rfl⟩, by kernel_rfl, by kernel_rfl, rfl⟩
instance instTS193 : TS Tryd.prog 193 (.pointer none) := ⟨⟨_, Tryd.underlying193, rfl⟩, by kernel_rfl, by kernel_rfl, rfl⟩
instance instTS194 : TS Tryd.prog 194 (.nilFunc) := ⟨⟨_, Tryd.underlying194, rfl⟩, by kernel_rfl, by kernel_rfl, rfl⟩
instance instTS195 : TS Tryd.prog 195 (.nilFunc) := ⟨⟨_, Tryd.underlying195, rfl⟩, by kernel_rfl, by kernel_rfl, rfl⟩
instance instTS196 : TS Tryd.prog 196 (.nilFunc) := ⟨⟨_, Tryd.underlying196, rfl⟩, by kernel_rfl, by kernel_rfl, rfl⟩
instance instTS198 : TS Tryd.prog 198 (.nilFunc) := ⟨⟨_, Tryd.underlying198, rfl⟩, by kernel_rfl, by kernel_rfl, rfl⟩
instance instTS199 : TS Tryd.prog 199 (.nilFunc) := ⟨⟨_, Tryd.underlying199, rfl⟩, by kernel_rfl, by kernel_rfl, rfl⟩
instance instTS200 : TS Tryd.prog 200 (.nilFunc) := ⟨⟨_, Tryd.underlying200, rfl⟩, by kernel_rfl, by kernel_rfl, rfl⟩
instance instTI201 : TI Tryd.prog 201 8 (List.replicate 8 (.int .u32 0)) := ⟨⟨_, Tryd.underlying201, rfl⟩, by kernel_rfl, by kernel_rfl, by kernel_rfl, rfl⟩
instance instTS202 : TS Tryd.prog 202 (.nilFunc) := ⟨⟨_, Tryd.underlying202, rfl⟩, by kernel_rfl, by kernel_rfl, rfl⟩
instance instTS203 : TS Tryd.prog 203 (.nilFunc) := ⟨⟨_, Tryd.underlying203, rfl⟩, by kernel_rfl, by kernel_rfl, rfl⟩
instance instTS204 : TS Tryd.prog 204 (.nilFunc) := ⟨⟨_, Tryd.underlying204, rfl⟩, by kernel_rfl, by kernel_rfl, rfl⟩
instance instTS205 : TS Tryd.prog 205 (.nilFunc) := ⟨⟨_, Tryd.underlying205, rfl⟩, by kernel_rfl, by kernel_rfl, rfl⟩
instance instTS207 : TS Tryd.prog 207 (.nilFunc) := ⟨⟨_, Tryd.underlying207, rfl⟩, by kernel_rfl, by kernel_rfl, rfl⟩
instance instTS208 : TS Tryd.prog 208 (.nilFunc) := ⟨⟨_, Tryd.underlying208, rfl⟩, by kernel_rfl, by kernel_rfl, rfl⟩
instance instTS209 : TS Tryd.prog 209 (.nilFunc) := ⟨⟨_, Tryd.underlying209, rfl⟩, by kernel_rfl, by kernel_rfl, rfl⟩
instance instTI210 : TI Tryd.prog 210 281 (List.replicate 32 (.int .u8 0) ++ [.int .u32 0, .int .u32 0, .int .u32 0] ++ List.replicate 32 (.int .u8 0) ++ [.int .u32 0, .int .u32 0, .int .u32 0] ++ List.replicate 32 (.int .u8 0) ++ [.int .u32 0, .int .u32 0, .int .u32 0] ++ List.replicate 32 (.int .u8 0) ++ [.int .u32 0, .int .u32 0, .int .u32 0] ++ List.replicate 32 (.int .u8 0) ++ [.int .u32 0, .int .u32 0, .int .u32 0] ++ List.replicate 32 (.int .u8 0) ++ [.int .u32 0, .int .u32 0, .int .u32 0] ++ List.replicate 32 (.int .u8 0) ++ [.int .u32 0, .int .u32 0, .int .u32 0] ++ List.replicate 32 (.int .u8 0) ++ [.int .u32 0, .int .u32 0, .int .u32 0, .int .i64 0]) := ⟨⟨_, Tryd.underlying210, rfl⟩, by kernel_rfl, by kernel_rfl, by kernel_rfl, rfl⟩
instance instTI211 : TI Tryd.prog 211 281 (List.replicate 32 (.int .u8 0) ++ [.int .u32 0, .int .u32 0, .int .u32 0] ++ List.replicate 32 (.int .u8 0) ++ [.int .u32 0, .int .u32 0, .int .u32 0] ++ List.replicate 32 (.int .u8 0) ++ [.int .u32 0, .int .u32 0, .int .u32 0] ++ List.replicate 32 (.int .u8 0) ++ [.int .u32 0, .int .u32 0, .int .u32 0] ++ List.replicate 32 (.int .u8 0) ++ [.int .u32 0, .int .u32 0, .int .u32 0] ++ List.replicate 32 (.int .u8 0) ++ [.int .u32 0, .int .u32 0, .int .u32 0] ++ List.replicate 32 (.int .u8 0) ++ [.int .u32 0, .int .u32 0, .int .u32 0] ++ List.replicate 32 (.int .u8 0) ++ [.int .u32 0, .int .u32 0, .int .u32 0, .int .i64 0]) := ⟨⟨_, Tryd.underlying211, rfl⟩, by kernel_rfl, by kernel_rfl, by kernel_rfl, rfl⟩
instance instTS213 : TS Tryd.prog 213 (.nilFunc) := ⟨⟨_, Tryd.underlying213, rfl⟩, by kernel_rfl, by kernel_rfl, rfl⟩
instance instTS214 : TS Tryd.prog 214 (.nilFunc) := ⟨⟨_, Tryd.underlying214, rfl⟩, by kernel_rfl, by kernel_rfl, rfl⟩
instance instTS215 : TS Tryd.prog 215 (.nilFunc) := ⟨⟨_, Tryd.underlying215, rfl⟩, by kernel_rfl, by kernel_rfl, rfl⟩
instance instTS216 : TS Tryd.prog 216 (.nilFunc) := ⟨⟨_, Tryd.underlying216, rfl⟩, by kernel_rfl, by kernel_rfl, rfl⟩
instance instTS218 : TS Tryd.prog 218 (.nilFunc) := ⟨⟨_, Tryd.underlying218, rfl⟩, by kernel_rfl, by kernel_rfl, rfl⟩
instance instTS219 : TS Tryd.prog 219 (.nilFunc) := ⟨⟨_, Tryd.underlying219, rfl⟩, by kernel_rfl, by kernel_rfl, rfl⟩
instance instTI220 : TI Tryd.prog 220 64 (List.replicate 64 (.int .u8 0)) := ⟨⟨_, Tryd.underlying220, rfl⟩, by kernel_rfl, by kernel_rfl, by kernel_rfl, rfl⟩
instance instTI221 : TI Tryd.prog 221 74 (List.replicate 8 (.int .u32 0) ++ List.replicate 64 (.int .u8 0) ++ [.int .i64 0, .int .u64 0]) := ⟨⟨_, Tryd.underlying221, rfl⟩, by kernel_rfl, by kernel_rfl, by kernel_rfl, rfl⟩
instance instTI222 : TI Tryd.prog 222 74 (List.replicate 8 (.int .u32 0) ++ List.replicate 64 (.int .u8 0) ++ [.int .i64 0, .int .u64 0]) := ⟨⟨_, Tryd.underlying222, rfl⟩, by kernel_rfl, by kernel_rfl, by kernel_rfl, rfl⟩
instance instTS223 : TS Tryd.prog 223 (.nilFunc) := ⟨⟨_, Tryd.underlying223, rfl⟩, by kernel_rfl, by kernel_rfl, rfl⟩
instance instTS224 : TS Tryd.prog 224 (.nilFunc) := ⟨⟨_, Tryd.underlying224, rfl⟩, by kernel_rfl, by kernel_rfl, rfl⟩
instance instTS225 : TS Tryd.prog 225 (.nilFunc) := ⟨⟨_, Tryd.underlying225, rfl⟩, by kernel_rfl, by kernel_rfl, rfl⟩
instance instTI226 : TI Tryd.prog 226 256 (List.replicate 256 (.bool false)) := ⟨⟨_, Tryd.underlying226, rfl⟩, by kernel_rfl, by kernel_rfl, by kernel_rfl, rfl⟩
instance instTI227 : TI Tryd.prog 227 256 (List.replicate 256 (.bool false)) := ⟨⟨_, Tryd.underlying227, rfl⟩, by kernel_rfl, by kernel_rfl, by kernel_rfl, rfl⟩
instance instTS229 : TS Tryd.prog 229 (.nilFunc) := ⟨⟨_, Tryd.underlying229, rfl⟩, by kernel_rfl, by kernel_rfl, rfl⟩
instance instTS230 : TS Tryd.prog 230 (.nilFunc) := ⟨⟨_, Tryd.underlying230, rfl⟩, by kernel_rfl, by kernel_rfl, rfl⟩
instance instTS231 : TS Tryd.prog 231 (.pointer none) := ⟨⟨_, Tryd.underlying231, rfl⟩, by kernel_rfl, by kernel_rfl, rfl⟩
instance instTS232 : TS Tryd.prog 232 (.nilFunc) := ⟨⟨_, Tryd.underlying232, rfl⟩, by kernel_rfl, by kernel_rfl, rfl⟩
instance instTS233 : TS Tryd.prog 233 (.nilFunc) := ⟨⟨_, Tryd.underlying233, rfl⟩, by kernel_rfl, by kernel_rfl, rfl⟩
instance instTS234 : TS Tryd.prog 234 (.nilFunc) := ⟨⟨_, Tryd.underlying234, rfl⟩, by kernel_rfl, by kernel_rfl, rfl⟩
instance instTI235 : TI Tryd.prog 235 16 (List.replicate 16 (.int .u32 0)) := ⟨⟨_, Tryd.underlying235, rfl⟩, by kernel_rfl, by kernel_rfl, by kernel_rfl, rfl⟩
instance instTI236 : TI Tryd.prog 236 16 (List.replicate 16 (.int .u32 0)) := ⟨⟨_, Tryd.underlying236, rfl⟩, by kernel_rfl, by kernel_rfl, by kernel_rfl, rfl⟩
instance instTS237 : TS Tryd.prog 237 (.nilFunc) := ⟨⟨_, Tryd.underlying237, rfl⟩, by kernel_rfl, by kernel_rfl, rfl⟩
instance instTI238 : TI Tryd.prog 238 64 (List.replicate 64 (.int .u32 0)) := ⟨⟨_, Tryd.underlying238, rfl⟩, by kernel_rfl, by kernel_rfl, by kernel_rfl, rfl⟩
instance instTS239 : TS Tryd.prog 239 (.nilFunc) := ⟨⟨_, Tryd.underlying239, rfl⟩, by kernel_rfl, by kernel_rfl, rfl⟩
instance instTS240 : TS Tryd.prog 240 (.nilFunc) := ⟨⟨_, Tryd.underlying240, rfl⟩, by kernel_rfl, by kernel_rfl, rfl⟩
instance instTS241 : TS Tryd.prog 241 (.nilFunc) := ⟨⟨_, Tryd.underlying241, rfl⟩, by kernel_rfl, by kernel_rfl, rfl⟩
instance instTS242 : TS Tryd.prog 242 (.nilFunc) := ⟨⟨_, Tryd.underlying242, rfl⟩, by kernel_rfl, by kernel_rfl, rfl⟩
instance instTS244 : TS Tryd.prog 244 (.nilFunc) := ⟨⟨_, Tryd.underlying244, rfl⟩, by kernel_rfl, by kernel_rfl, rfl⟩
instance instTS245 : TS Tryd.prog 245 (.nilFunc) := ⟨⟨_, Tryd.underlying245, rfl⟩, by kernel_rfl, by kernel_rfl, rfl⟩
instance instTS246 : TS Tryd.prog 246 (.nilFunc) := ⟨⟨_, Tryd.underlying246, rfl⟩, by kernel_rfl, by kernel_rfl, rfl⟩
instance instTS247 : TS Tryd.prog 247 (.nilFunc) := ⟨⟨_, Tryd.underlying247, rfl⟩, by kernel_rfl, by kernel_rfl, rfl⟩
instance instTS248 : TS Tryd.prog 248 (.pointer none) := ⟨⟨_, Tryd.underlying248, rfl⟩, by kernel_rfl, by kernel_rfl, rfl⟩
instance instTI249 : TI Tryd.prog 249 256 (List.replicate 256 (.int .u8 0)) := ⟨⟨_, Tryd.underlying249, rfl⟩, by kernel_rfl, by kernel_rfl, by kernel_rfl, rfl⟩
instance instTI250 : TI Tryd.prog 250 2 [.int .u8 0, .int .u8 0] := ⟨⟨_, Tryd.underlying250, rfl⟩, by kernel_rfl, by kernel_rfl, by kernel_rfl, rfl⟩
instance instTI251 : TI Tryd.prog 251 2 [.int .u8 0, .int .u8 0] := ⟨⟨_, Tryd.underlying251, rfl⟩, by kernel_rfl, by kernel_rfl, by kernel_rfl, rfl⟩
instance instTI252 : TI Tryd.prog 252 32 (List.replicate 32 (.int .u8 0)) := ⟨⟨_, Tryd.underlying252, rfl⟩, by kernel_rfl, by kernel_rfl, by kernel_rfl, rfl⟩
instance instTI253 : TI Tryd.prog 253 4 [.pointer none, .pointer none, .pointer none, .string ByteArray.empty] := ⟨⟨_, Tryd.underlying253, rfl⟩, by kernel_rfl, by kernel_rfl, by kernel_rfl, rfl⟩
instance instTI255 : TI Tryd.prog 255 0 [] := ⟨⟨_, Tryd.underlying255, rfl⟩, by kernel_rfl, by kernel_rfl, by kernel_rfl, rfl⟩
instance instTI256 : TI Tryd.prog 256 0 [] := ⟨⟨_, Tryd.underlying256, rfl⟩, by kernel_rfl, by kernel_rfl, by kernel_rfl, rfl⟩
instance instTS260 : TS Tryd.prog 260 (.nilFunc) := ⟨⟨_, Tryd.underlying260, rfl⟩, by kernel_rfl, by kernel_rfl, rfl⟩
instance instTS261 : TS Tryd.prog 261 (.pointer none) := ⟨⟨_, Tryd.underlying261, rfl⟩, by kernel_rfl, by kernel_rfl, rfl⟩
instance instTI264 : TI Tryd.prog 264 11 [.int .u64 0, .int .u64 0, .int .u32 0, .int .u8 0, .int .u8 0, .int .u8 0, .int .u8 0, .nilFunc, .pointer none, .int .i32 0, .int .i32 0] := ⟨⟨_, Tryd.underlying264, rfl⟩, by kernel_rfl, by kernel_rfl, by kernel_rfl, rfl⟩
/-- Lists' lengths, parts. -/
theorem one_all (xs : List UInt8) : ((xs.map cb).all fun u => u.oneCell') = true := by simp [Value.oneCell']
theorem part_all {cs : List Value} {n : Nat} (h : cs.length = n) : (cs.drop 0).take n = cs := by rw [List.drop_zero, List.take_of_length_le (by omega)]
theorem cellS {w wS : World} {ad : Addr} {v : Value} (hS : wS = w.drew) (h : w.cell? ad = some v) : wS.cell? ad = some v := by subst hS; exact h
/-- A region that draws its order: S tells that no block of before has changed. -/
theorem startA {ops : Array Oper} {Q : Exit → Act → World → Prop} (W : Nat → Bool) {id : Nat} {a : Act} {w : World} (hm : P.follows .mixedOrders = true)
    (h : ∀ wS, wS = w.drew → wpAnyL P .any ops Q (fun w' => Below wS.heap.size wS w') W ops.size (Array.replicate ops.size false) a wS) : (Code.region id ops true).wp P Q a w :=
  startL _ W hm (h _ rfl)
/-- The results of a function that lie in variables. -/
theorem res_cell {fn : Func} {d : Tmp} {t t2 : TypeId} (hf : fn.results = #[.cell d t]) (tmps : Array Value) {w : World} {L : List Own} (H : HOLD L w) {b n : Nat} {cs z : List Value} {put : List Value → List Own} (hp : tmps.getD d undef = .pointer (some ⟨b, 0, none⟩)) [HasB L b t2 cs put] [T : TI P t n z] (hl : cs.length = n) :
    (results fn tmps).run P w = .ok (.agg cs.toArray) w := by
  obtain ⟨d, h1, h2⟩ := T.under
  exact results_cell hf tmps H.va hp d h1 h2 (by rw [hl]; exact T.size)
theorem res_cell_tmp {fn : Func} {d e : Tmp} {t t2 : TypeId} (hf : fn.results = #[.cell d t, .tmp e]) (tmps : Array Value) {w : World} {L : List Own} (H : HOLD L w) {b n : Nat} {cs z : List Value} {put : List Value → List Own} (hp : tmps.getD d undef = .pointer (some ⟨b, 0, none⟩)) [HasB L b t2 cs put] [T : TI P t n z] (hl : cs.length = n) :
    (results fn tmps).run P w = .ok (.tuple #[.agg cs.toArray, tmps.getD e undef]) w := by
  obtain ⟨d, h1, h2⟩ := T.under
  exact results_cell_tmp hf tmps H.va hp d h1 h2 (by rw [hl]; exact T.size)
end Go.Proofs.YticfcelbnkiopaaDoor

namespace Go.Proofs.YticfcelbnkiopaaDoor
set_option maxRecDepth 100000
open Go.RowKit
set_option linter.unusedSimpArgs false
set_option linter.unusedVariables false

/-- One block, that a callee was handed. -/
theorem SH.ofB {w : World} {g : Nat} {t : TypeId} {cs : List Value} (h : VA w g t cs) : SH (fun k => k = g) w w [.blk g t cs] :=
  ⟨Chg.refl _ w, fun o ho => by rw [List.mem_singleton.mp ho]; exact h, fun o ho b hb => by rw [List.mem_singleton.mp ho] at hb; exact .inl hb, List.pairwise_singleton _ _⟩
/-- A number of 32 bits, as a value. -/
abbrev vw (x : UInt32) : Value := .int .u32 (x.toNat : Int)
theorem u32_lt (x : UInt32) : x.toNat < 4294967296 := x.toNat_lt
theorem xor32 (a b : UInt32) : bits .xor .u32 (a.toNat : Int) (b.toNat : Int) = ((a ^^^ b).toNat : Int) := by
  rw [u32_xor_nat _ _ (u32_lt a) (u32_lt b), UInt32.toNat_xor]
theorem and32 (a b : UInt32) : bits .and .u32 (a.toNat : Int) (b.toNat : Int) = ((a &&& b).toNat : Int) := by
  rw [u32_and_nat _ _ (u32_lt a) (u32_lt b), UInt32.toNat_and]
theorem orW32 (a b : UInt32) : bits .or .u32 (a.toNat : Int) (b.toNat : Int) = ((a ||| b).toNat : Int) := by
  rw [u32_or_nat _ _ (u32_lt a) (u32_lt b), UInt32.toNat_or]
theorem add32 (a b : UInt32) : IntKind.u32.wrap ((a.toNat : Int) + (b.toNat : Int)) = ((a + b).toNat : Int) := by
  rw [IntKind.wrap_u32, UInt32.toNat_add]
  omega
theorem shr32 (a : UInt32) (n : Nat) (h : n < 32) : (a.toNat : Int) / 2 ^ n = ((a >>> UInt32.ofNat n).toNat : Int) := by
  rw [UInt32.toNat_shiftRight, UInt32.toNat_ofNat', Nat.mod_eq_of_lt (by omega : n < 2 ^ 32), Nat.mod_eq_of_lt h, Nat.shiftRight_eq_div_pow]
  push_cast
  rfl
theorem shl32 (a : UInt32) (n : Nat) (h : n < 32) : IntKind.u32.wrap ((a.toNat : Int) * 2 ^ n) = ((a <<< UInt32.ofNat n).toNat : Int) := by
  rw [IntKind.wrap_u32, UInt32.toNat_shiftLeft, UInt32.toNat_ofNat', Nat.mod_eq_of_lt (by omega : n < 2 ^ 32), Nat.mod_eq_of_lt h, Nat.shiftLeft_eq]
  have e : (a.toNat : Int) * 2 ^ n = ((a.toNat * 2 ^ n : Nat) : Int) := by rw [Int.natCast_mul, Int.natCast_pow]; rfl
  rw [e]
  omega
/-- Turned to the right. -/
def rotr (x : UInt32) (n : Nat) : UInt32 := (x <<< UInt32.ofNat (32 - n)) ||| (x >>> UInt32.ofNat n)
def bS0 (x : UInt32) : UInt32 := (rotr x 2 ^^^ rotr x 13) ^^^ rotr x 22
def bS1 (x : UInt32) : UInt32 := (rotr x 6 ^^^ rotr x 11) ^^^ rotr x 25
def sm0 (x : UInt32) : UInt32 := (rotr x 7 ^^^ rotr x 18) ^^^ (x >>> 3)
def sm1 (x : UInt32) : UInt32 := (rotr x 17 ^^^ rotr x 19) ^^^ (x >>> 10)
def chF (e f g : UInt32) : UInt32 := g ^^^ (e &&& (f ^^^ g))
def majF (a b c : UInt32) : UInt32 := (a &&& b) ||| (c &&& (a ||| b))
theorem u32_ext {a b : UInt32} (h : ∀ i, i < 32 → a.toNat.testBit i = b.toNat.testBit i) : a = b := by
  apply UInt32.toNat_inj.mp
  refine Nat.eq_of_testBit_eq fun i => ?_
  rcases Nat.lt_or_ge i 32 with hi | hi
  · exact h i hi
  · rw [Nat.testBit_lt_two_pow (Nat.lt_of_lt_of_le (u32_lt a) (show 4294967296 ≤ 2 ^ i from Nat.pow_le_pow_right (n := 2) (by decide) hi)), Nat.testBit_lt_two_pow (Nat.lt_of_lt_of_le (u32_lt b) (show 4294967296 ≤ 2 ^ i from Nat.pow_le_pow_right (n := 2) (by decide) hi))]
theorem not32_bit (e : UInt32) (i : Nat) (hi : i < 32) : (e ^^^ 4294967295).toNat.testBit i = !e.toNat.testBit i := by
  rw [UInt32.toNat_xor, Nat.testBit_xor, show (4294967295 : UInt32).toNat = 2 ^ 32 - 1 from rfl, Nat.testBit_two_pow_sub_one]
  simp [hi]
/-- The reference's choice, and majority. -/
theorem ch_eq (e f g : UInt32) : (e &&& f) ^^^ ((e ^^^ 4294967295) &&& g) = chF e f g := by
  refine u32_ext fun i hi => ?_
  unfold chF
  rw [UInt32.toNat_xor, Nat.testBit_xor, UInt32.toNat_and, Nat.testBit_and, UInt32.toNat_and (e ^^^ 4294967295), Nat.testBit_and, not32_bit e i hi, UInt32.toNat_xor g, Nat.testBit_xor, UInt32.toNat_and, Nat.testBit_and, UInt32.toNat_xor, Nat.testBit_xor]
  cases e.toNat.testBit i <;> cases f.toNat.testBit i <;> cases g.toNat.testBit i <;> rfl
theorem maj_eq (a b c : UInt32) : ((a &&& b) ^^^ (a &&& c)) ^^^ (b &&& c) = majF a b c := by
  refine u32_ext fun i hi => ?_
  unfold majF
  simp only [UInt32.toNat_xor, UInt32.toNat_and, UInt32.toNat_or, Nat.testBit_xor, Nat.testBit_and, Nat.testBit_or]
  cases a.toNat.testBit i <;> cases b.toNat.testBit i <;> cases c.toNat.testBit i <;> rfl

/-- The steps' numbers. -/
def kL : List UInt32 := [0x428a2f98, 0x71374491, 0xb5c0fbcf, 0xe9b5dba5, 0x3956c25b, 0x59f111f1, 0x923f82a4, 0xab1c5ed5,
  0xd807aa98, 0x12835b01, 0x243185be, 0x550c7dc3, 0x72be5d74, 0x80deb1fe, 0x9bdc06a7, 0xc19bf174,
  0xe49b69c1, 0xefbe4786, 0x0fc19dc6, 0x240ca1cc, 0x2de92c6f, 0x4a7484aa, 0x5cb0a9dc, 0x76f988da,
  0x983e5152, 0xa831c66d, 0xb00327c8, 0xbf597fc7, 0xc6e00bf3, 0xd5a79147, 0x06ca6351, 0x14292967,
  0x27b70a85, 0x2e1b2138, 0x4d2c6dfc, 0x53380d13, 0x650a7354, 0x766a0abb, 0x81c2c92e, 0x92722c85,
  0xa2bfe8a1, 0xa81a664b, 0xc24b8b70, 0xc76c51a3, 0xd192e819, 0xd6990624, 0xf40e3585, 0x106aa070,
  0x19a4c116, 0x1e376c08, 0x2748774c, 0x34b0bcb5, 0x391c0cb3, 0x4ed8aa4a, 0x5b9cca4f, 0x682e6ff3,
  0x748f82ee, 0x78a5636f, 0x84c87814, 0x8cc70208, 0x90befffa, 0xa4506ceb, 0xbef9a3f7, 0xc67178f2]
def kT (t : Nat) : UInt32 := kL.getD t 0
/-- The first numbers. -/
def h0L : List UInt32 := [0x6a09e667, 0xbb67ae85, 0x3c6ef372, 0xa54ff53a, 0x510e527f, 0x9b05688c, 0x1f83d9ab, 0x5be0cd19]
/-- The number of four bytes. -/
def be4 (a b c d : UInt8) : UInt32 := UInt32.ofNat (((a.toNat * 256 + b.toNat) * 256 + c.toNat) * 256 + d.toNat)
def wordB (blk : List UInt8) (t : Nat) : UInt32 := be4 (blk.getD (4 * t) 0) (blk.getD (4 * t + 1) 0) (blk.getD (4 * t + 2) 0) (blk.getD (4 * t + 3) 0)
/-- One more number of the schedule, behind those of ws. -/
def nextW (blk : List UInt8) (ws : List UInt32) : UInt32 :=
  if ws.length < 16 then wordB blk ws.length
  else ((ws.getD (ws.length - 16) 0) + ((sm0 (ws.getD (ws.length - 15) 0) + ws.getD (ws.length - 7) 0) + sm1 (ws.getD (ws.length - 2) 0)))
def sched (blk : List UInt8) : Nat → List UInt32
  | 0 => []
  | t + 1 => sched blk t ++ [nextW blk (sched blk t)]
theorem sched_len (blk : List UInt8) : ∀ t, (sched blk t).length = t
  | 0 => rfl
  | t + 1 => by rw [sched, List.length_append, sched_len blk t]; rfl
def wT (blk : List UInt8) (t : Nat) : UInt32 := (sched blk (t + 1)).getD t 0
theorem sched_get (blk : List UInt8) (t : Nat) : ∀ n, t < n → (sched blk n).getD t 0 = wT blk t
  | 0, h => by omega
  | n + 1, h => by
    by_cases e : t = n
    · rw [e]; rfl
    · have hl := sched_len blk n
      rw [sched, List.getD_eq_getElem?_getD, List.getElem?_append_left (by omega), ← List.getD_eq_getElem?_getD]
      exact sched_get blk t n (by omega)
theorem wT_low (blk : List UInt8) (t : Nat) (h : t < 16) : wT blk t = wordB blk t := by
  have hl := sched_len blk t
  rw [wT, sched, List.getD_eq_getElem?_getD, List.getElem?_append_right (by omega), hl, Nat.sub_self, nextW, hl, if_pos h]; rfl
theorem wT_high (blk : List UInt8) (t : Nat) (h : 16 ≤ t) : wT blk t = wT blk (t - 16) + ((sm0 (wT blk (t - 15)) + wT blk (t - 7)) + sm1 (wT blk (t - 2))) := by
  have hl := sched_len blk t
  rw [show wT blk t = (sched blk (t + 1)).getD t 0 from rfl, sched, List.getD_eq_getElem?_getD, List.getElem?_append_right (by omega), hl, Nat.sub_self, nextW, hl, if_neg (by omega), sched_get blk _ t (by omega), sched_get blk _ t (by omega), sched_get blk _ t (by omega), sched_get blk _ t (by omega)]; rfl
/-- Eight numbers. -/
structure S8 where
  a : UInt32
  b : UInt32
  c : UInt32
  d : UInt32
  e : UInt32
  f : UInt32
  g : UInt32
  h : UInt32
def oneT (s : S8) (k w : UInt32) : UInt32 := (((s.h + bS1 s.e) + chF s.e s.f s.g) + k) + w
def twoT (s : S8) : UInt32 := bS0 s.a + majF s.a s.b s.c
def stepT (s : S8) (k w : UInt32) : S8 := ⟨oneT s k w + twoT s, s.a, s.b, s.c, s.d + oneT s k w, s.e, s.f, s.g⟩
def runT (blk : List UInt8) (s : S8) : Nat → S8
  | 0 => s
  | t + 1 => stepT (runT blk s t) (kT t) (wT blk t)
def S8.add (s t : S8) : S8 := ⟨s.a + t.a, s.b + t.b, s.c + t.c, s.d + t.d, s.e + t.e, s.f + t.f, s.g + t.g, s.h + t.h⟩
def S8.list (s : S8) : List UInt32 := [s.a, s.b, s.c, s.d, s.e, s.f, s.g, s.h]
/-- What stands behind a block. -/
def compB (s : S8) (blk : List UInt8) : S8 := s.add (runT blk s 64)
def S8.start : S8 := ⟨0x6a09e667, 0xbb67ae85, 0x3c6ef372, 0xa54ff53a, 0x510e527f, 0x9b05688c, 0x1f83d9ab, 0x5be0cd19⟩
/-- Behind n blocks of a text. -/
def foldB (l : List UInt8) : Nat → S8
  | 0 => S8.start
  | n + 1 => compB (foldB l n) ((l.drop (64 * n)).take 64)
def be8 (n : Nat) : List UInt8 := (List.range 8).map fun i => UInt8.ofNat (n / 256 ^ (7 - i))
/-- The padded text. -/
def padL (l : List UInt8) : List UInt8 := l ++ [128] ++ List.replicate ((119 - l.length % 64) % 64) 0 ++ be8 (l.length * 8)
def outB (s : S8) : List UInt8 := (List.range 32).map fun i => UInt8.ofNat ((s.list.getD (i / 4) 0).toNat / 256 ^ (3 - i % 4))
/-- The hash of a text. -/
def shaL (l : List UInt8) : List UInt8 := outB (foldB (padL l) ((padL l).length / 64))
theorem padL_len (l : List UInt8) : (padL l).length % 64 = 0 := by
  simp only [padL, be8, List.length_append, List.length_replicate, List.length_map, List.length_range, List.length_singleton]
  omega
theorem shaL_len (l : List UInt8) : (shaL l).length = 32 := by simp [shaL, outB]
end Go.Proofs.YticfcelbnkiopaaDoor

namespace Go.Proofs.YticfcelbnkiopaaDoor
set_option maxRecDepth 100000
open Go.RowKit
set_option linter.unusedSimpArgs false
set_option linter.unusedVariables false

theorem and31n : ∀ n : Fin 32, 1 ≤ n.val → bits .and .u64 (IntKind.u64.wrap (-((n.val : Nat) : Int))) 31 = 32 - ((n.val : Nat) : Int) := by decide +kernel
set_option maxHeartbeats 800000 in
theorem rot_any (x : UInt32) (n : Nat) (w : World) (h1 : 1 ≤ n) (h2 : n < 32) : Calls Tryd.prog 161 #[vw x, .int .i64 (-(n : Int))] w fun e w' => e = .returned (vw (rotr x n)) ∧ w = w' := by
  have ha := and31n ⟨n, h2⟩ h1
  simp only at ha
  have hs : (32 : Int) - (n : Int) = ((32 - n : Nat) : Int) := by omega
  rw [hs] at ha
  have hl := shl32 x (32 - n) (by omega)
  have hr := shr32 x n h2
  have ho := orW32 (x <<< UInt32.ofNat (32 - n)) (x >>> UInt32.ofNat n)
  obtain ⟨s, hss⟩ : ∃ s, s = 32 - n := ⟨_, rfl⟩
  have hns : (32 : Int) - (s : Int) = (n : Int) := by omega
  have e : rotr x n = (x <<< UInt32.ofNat (32 - n)) ||| (x >>> UInt32.ofNat n) := rfl
  rw [e]
  rw [← hss] at ha hl ho ⊢
  generalize x <<< UInt32.ofNat s = a at *
  generalize x >>> UInt32.ofNat n = b at *
  have hsb : (s : Int) ≤ 31 := by omega
  have hnb : (n : Int) ≤ 31 := by omega
  have hw1 : IntKind.u64.wrap (s : Int) = (s : Int) := by rw [IntKind.wrap_u64]; omega
  have hw2 : IntKind.u64.wrap (n : Int) = (n : Int) := by rw [IntKind.wrap_u64]; omega
  clear e hs hss
  go_enter Tryd.func161, Tryd.ntmps161
  go_wp2
  go_ret
  exact ⟨rfl, rfl⟩
set_option maxHeartbeats 800000 in
theorem turn_any (x : UInt32) (n : Nat) (w : World) (h1 : 1 ≤ n) (h2 : n < 32) : Calls Tryd.prog 146 #[vw x, .int .u64 (n : Int)] w fun e w' => e = .returned (vw (rotr x n)) ∧ w = w' := by
  have hl := shl32 x (32 - n) (by omega)
  have hr := shr32 x n h2
  have ho := orW32 (x >>> UInt32.ofNat n) (x <<< UInt32.ofNat (32 - n))
  obtain ⟨s, hss⟩ : ∃ s, s = 32 - n := ⟨_, rfl⟩
  have hns : (32 : Int) - (n : Int) = (s : Int) := by omega
  have e : rotr x n = (x >>> UInt32.ofNat n) ||| (x <<< UInt32.ofNat (32 - n)) := by rw [rotr, UInt32.or_comm]
  rw [e]
  rw [← hss] at hl ho ⊢
  generalize x <<< UInt32.ofNat s = a at *
  generalize x >>> UInt32.ofNat n = b at *
  have hsb : (s : Int) ≤ 31 := by omega
  have hnb : (n : Int) ≤ 31 := by omega
  have hw1 : IntKind.u64.wrap (s : Int) = (s : Int) := by rw [IntKind.wrap_u64]; omega
  clear e hss
  go_enter Tryd.func146, Tryd.ntmps146
  go_wp2
  go_ret
  exact ⟨rfl, rfl⟩
end Go.Proofs.YticfcelbnkiopaaDoor

namespace Go.Proofs.YticfcelbnkiopaaDoor
set_option maxRecDepth 100000
open Go.RowKit
set_option linter.unusedSimpArgs false
set_option linter.unusedVariables false

section
variable {P : Program} {ops : Array Oper} {rest : List Oper} {o : Oper} {a : Act} {Q : Exit → Act → World → Prop} {w : World}
theorem aBuildC (t : TypeId) (parts : Array (Nat × Operand)) (ho : o.op = .build t parts) (cs : List Value) (h : P.built t (parts.map fun (i, x) => (i, a.eval x)).toList = some cs.toArray) (hw : Region.wanted o (yielded ops a.tmps) = true)
    (k : wpList P ops Q rest (a.put o.dst (.agg cs.toArray)) w) : wpList P ops Q (o :: rest) a w :=
  stepV (exec_build t parts ho cs h) hw k
end
def U32T : Ty UInt32 := ⟨30, 1, 4, .int .u32 0, fun x => [vw x], fun _ => rfl, fun x u hu => by rw [List.mem_singleton.mp hu]; rfl, by decide, by decide⟩
def sW : ST Tryd.prog UInt32 := ⟨U32T, 130, .int .u32 0, Tryd.underlying130, by kernel_rfl, rfl⟩
theorem U32_all (xs : List UInt32) : U32T.all xs = xs.map vw := by
  unfold Ty.all
  induction xs with
  | nil => rfl
  | cons x xs ih => rw [List.flatMap_cons, ih]; rfl
theorem one_w (xs : List UInt32) : ((xs.map vw).all fun u => u.oneCell') = true := by simp [Value.oneCell']
set_option maxHeartbeats 800000 in
theorem steps_any (w : World) : Calls Tryd.prog 160 #[] w fun e w' => e = .returned (.agg (kL.map vw).toArray) ∧ Below w.heap.size w w' := by
  have H := SH.start Nil w
  go_enter Tryd.func160, Tryd.ntmps160
  go_wp2_with (first
    | ((with_reducible refine gBuild ?_); refine aBuildC _ _ rfl (kL.map vw) (by kernel_rfl) rfl ?_)
    | ((with_reducible refine gStore ?_); refine aStore H _ _ rfl rfl rfl ⟨rfl, rfl⟩ (one_w _) rfl ?_; clear H; intro w' H; try dsimp only at H)
    | ((with_reducible refine gDst 0 ?_); refine aAlloc H rfl rfl ?_; clear H; intro b0 w0 H)
    | ((with_reducible refine gStore ?_); (first | (refine aStore H _ _ rfl rfl rfl (by (first | exact ⟨rfl, rfl⟩ | exact ⟨by decide, rfl⟩ | (simp []; done) | (constructor <;> simp [] <;> omega))) (by first | rfl | simp [List.all_append, one_all]) rfl ?_) | (refine aLay H _ _ rfl rfl rfl (by (first | exact ⟨rfl, rfl⟩ | exact ⟨by decide, rfl⟩ | (simp []; done) | (constructor <;> simp [] <;> omega))) (by first | rfl | simp [List.all_append, one_all]) (by simp only [lay, List.take_succ_cons, List.take_zero, List.drop_succ_cons, List.drop_zero, List.nil_append, List.cons_append, List.length_cons, List.length_nil, Nat.zero_add, Nat.reduceAdd]; rfl) rfl ?_)); clear H; intro w' H; try dsimp only at H))
  refine bodyPost_ret (res_cell rfl _ H.hold rfl rfl) rfl ?_
  exact ⟨rfl, H.below⟩
set_option maxHeartbeats 800000 in
theorem start_any (w : World) : Calls Tryd.prog 125 #[] w fun e w' => e = .returned (.agg (S8.start.list.map vw).toArray) ∧ Below w.heap.size w w' := by
  have H := SH.start Nil w
  go_enter Tryd.func125, Tryd.ntmps125
  go_wp2_with (first
    | ((with_reducible refine gBuild ?_); refine aBuildC _ _ rfl (S8.start.list.map vw) (by kernel_rfl) rfl ?_)
    | ((with_reducible refine gStore ?_); refine aStore H _ _ rfl rfl rfl ⟨rfl, rfl⟩ (one_w _) rfl ?_; clear H; intro w' H; try dsimp only at H)
    | ((with_reducible refine gDst 0 ?_); refine aAlloc H rfl rfl ?_; clear H; intro b0 w0 H)
    | ((with_reducible refine gStore ?_); (first | (refine aStore H _ _ rfl rfl rfl (by (first | exact ⟨rfl, rfl⟩ | exact ⟨by decide, rfl⟩ | (simp []; done) | (constructor <;> simp [] <;> omega))) (by first | rfl | simp [List.all_append, one_all]) rfl ?_) | (refine aLay H _ _ rfl rfl rfl (by (first | exact ⟨rfl, rfl⟩ | exact ⟨by decide, rfl⟩ | (simp []; done) | (constructor <;> simp [] <;> omega))) (by first | rfl | simp [List.all_append, one_all]) (by simp only [lay, List.take_succ_cons, List.take_zero, List.drop_succ_cons, List.drop_zero, List.nil_append, List.cons_append, List.length_cons, List.length_nil, Nat.zero_add, Nat.reduceAdd]; rfl) rfl ?_)); clear H; intro w' H; try dsimp only at H))
  refine bodyPost_ret (res_cell rfl _ H.hold rfl rfl) rfl ?_
  exact ⟨rfl, H.below⟩
/-- A hash that goes on: numbers, block, bytes of the block, bytes of all. -/
def hashC (s : S8) (blk : List UInt8) (held long : Nat) : List Value := s.list.map vw ++ (blk.map cb ++ [.int .i64 (held : Int), .int .u64 (long : Int)])
set_option maxHeartbeats 800000 in
theorem New_any (w : World) : Calls Tryd.prog 117 #[] w fun e w' => ∃ b, e = .returned (.pointer (some ⟨b, 0, none⟩)) ∧ SH Nil w w' [.blk b 222 (hashC S8.start (List.replicate 64 0) 0 0)] := by
  have H := SH.start Nil w
  go_enter Tryd.func117, Tryd.ntmps117
  go_wp2_with (first
    | ((with_reducible refine gDst 1 ?_); refine aBuildC _ _ rfl (S8.start.list.map vw) (by kernel_rfl) rfl ?_)
    | ((with_reducible refine gDst 2 ?_); refine aBuildC _ _ rfl (hashC S8.start (List.replicate 64 0) 0 0) (by kernel_rfl) rfl ?_)
    | ((with_reducible refine gDst 3 ?_); refine aBox H _ rfl rfl rfl ?_; clear H; intro b3 w3 H))
  go_ret
  exact ⟨_, rfl, H⟩
set_option maxHeartbeats 3200000 in
theorem rsteps_any (w : World) : Calls Tryd.prog 126 #[] w fun e w' => ∃ A cp, e = .returned (.slice A 64 cp) ∧ OR U32T w' w.heap.size (.slice A 64 cp) kL ∧ Below w.heap.size w w' := by
  have H := SH.start Nil w
  go_enter Tryd.func126, Tryd.ntmps126
  go_wp2
  go_ret
  exact ⟨_, _, rfl, OR.lit U32T w w.heap.size kL _ (by kernel_rfl) (Nat.le_refl _) (by decide), alloc_belowAt w _⟩
/-! Elements of an array that is a value. -/
section
variable {ops : Array Oper} {rest : List Oper} {o : Oper} {a : Act} {Q : Exit → Act → World → Prop} {w : World} {ρ : Operand → Value}
theorem map_flat {α : Type} (f : α → Value) (xs : List α) : xs.map f = xs.flatMap fun x => [f x] := by
  induction xs with
  | nil => rfl
  | cons x xs ih => rw [List.map_cons, List.flatMap_cons, ih]; rfl
theorem size_of (t : TypeId) (h : (Tryd.prog.info? t).map (·.size) = some 1) (w : World) : (sizeOf t).run Tryd.prog w = .ok 1 w := by
  obtain ⟨i, hi, hs⟩ := Option.map_eq_some_iff.1 h
  simp [sizeOf, typeInfo, hi, hs]
theorem xIndexB {m : Nat} (t : TypeId) (ht : Tryd.prog.underlying t = some (.array m 5)) (x y : Operand) (ho : o.op = .index t x y) (xs : List UInt8) (hx : ρ x = .agg (xs.map cb).toArray) (hl : xs.length = m) (i : Nat) (hy : ρ y = .int .i64 (i : Int)) (hi : i < m) :
    (execOp ρ o).run Tryd.prog w = .ok (.value (.int .u8 ((xs.getD i 0).toNat : Int))) w := by
  have h := exec_index (w := w) (EqT.int (P := Tryd.prog) (α := UInt8) 5 .u8 Tryd.underlying5 (size_of _ (by kernel_rfl)) (fun x => (x.toNat : Int))) t x y ho ht xs (by rw [hx, map_flat]) hl i .i64 hy (by omega)
  rw [h, List.getD_eq_getElem?_getD, List.getElem?_eq_getElem (by omega)]; rfl
theorem xIndexW {m : Nat} (t : TypeId) (ht : Tryd.prog.underlying t = some (.array m 30)) (x y : Operand) (ho : o.op = .index t x y) (xs : List UInt32) (hx : ρ x = .agg (xs.map vw).toArray) (hl : xs.length = m) (i : Nat) (hy : ρ y = .int .i64 (i : Int)) (hi : i < m) :
    (execOp ρ o).run Tryd.prog w = .ok (.value (vw (xs.getD i 0))) w := by
  have h := exec_index (w := w) (EqT.int (P := Tryd.prog) (α := UInt32) 30 .u32 Tryd.underlying30 (size_of _ (by kernel_rfl)) (fun x => (x.toNat : Int))) t x y ho ht xs (by rw [hx, map_flat]) hl i .i64 hy (by omega)
  rw [h, List.getD_eq_getElem?_getD, List.getElem?_eq_getElem (by omega)]; rfl
end
end Go.Proofs.YticfcelbnkiopaaDoor

namespace Go.Proofs.YticfcelbnkiopaaDoor
set_option maxRecDepth 100000
open Go.RowKit
set_option linter.unusedSimpArgs false
set_option linter.unusedVariables false

/-- The number of the first n bytes of four. -/
def pN (blk : List UInt8) (j : Nat) : Nat → Nat
  | 0 => 0
  | n + 1 => pN blk j n * 256 + (blk.getD (4 * j + n) 0).toNat
theorem pN_lt (blk : List UInt8) (j : Nat) : ∀ n, pN blk j n < 256 ^ n
  | 0 => by rw [pN]; decide
  | n + 1 => by
    have h1 := pN_lt blk j n
    have h2 := (blk.getD (4 * j + n) 0).toNat_lt
    rw [pN, Nat.pow_succ]
    omega
def ldL (blk : List UInt8) (i : Nat) : List UInt32 := (List.range 16).map fun j => UInt32.ofNat (pN blk j (min 4 (i - 4 * j)))
theorem ldL_len (blk : List UInt8) (i : Nat) : (ldL blk i).length = 16 := by simp [ldL]
theorem ldL_get (blk : List UInt8) (i j : Nat) (h : j < 16) : (ldL blk i)[j]? = some (UInt32.ofNat (pN blk j (min 4 (i - 4 * j)))) := by
  rw [ldL, List.getElem?_map, List.getElem?_range h]; rfl
theorem ldL_zero (blk : List UInt8) : ldL blk 0 = List.replicate 16 0 := by
  refine List.ext_getElem (by rw [ldL_len, List.length_replicate]) fun j h1 h2 => ?_
  rw [ldL_len] at h1
  simp only [ldL, List.getElem_map, List.getElem_range, List.getElem_replicate]
  rw [show min 4 (0 - 4 * j) = 0 by omega]; rfl
theorem ldL_full (blk : List UInt8) : ldL blk 64 = (List.range 16).map (wordB blk) := by
  unfold ldL
  refine List.map_congr_left fun j hj => ?_
  have := List.mem_range.1 hj
  rw [show min 4 (64 - 4 * j) = 4 by omega, wordB, be4, pN, pN, pN, pN, pN, Nat.zero_mul, Nat.zero_add]; rfl
theorem ofNat32 (n : Nat) (h : n < 4294967296) : (UInt32.ofNat n).toNat = n := by rw [UInt32.toNat_ofNat', Nat.mod_eq_of_lt h]
/-- One byte more. -/
theorem ldL_step (blk : List UInt8) (i : Nat) (hi : i < 64) :
    (ldL blk i).set (i / 4) (((UInt32.ofNat (pN blk (i / 4) (i % 4))) <<< UInt32.ofNat 8) ||| UInt32.ofNat (blk.getD i 0).toNat) = ldL blk (i + 1) ∧ (ldL blk i)[i / 4]? = some (UInt32.ofNat (pN blk (i / 4) (i % 4))) := by
  have hq : i / 4 < 16 := by omega
  have hr : min 4 (i - 4 * (i / 4)) = i % 4 := by omega
  refine ⟨?_, by rw [ldL_get _ _ _ hq, hr]⟩
  have hlt := pN_lt blk (i / 4) (i % 4)
  have hx := (blk.getD i 0).toNat_lt
  have h3 : 256 ^ (i % 4) ≤ 256 ^ 3 := Nat.pow_le_pow_right (by decide) (by omega)
  have hv : ((UInt32.ofNat (pN blk (i / 4) (i % 4))) <<< UInt32.ofNat 8) ||| UInt32.ofNat (blk.getD i 0).toNat = UInt32.ofNat (pN blk (i / 4) (i % 4 + 1)) := by
    apply UInt32.toNat_inj.mp
    rw [pN, show 4 * (i / 4) + i % 4 = i by omega]
    generalize pN blk (i / 4) (i % 4) = p at *
    generalize (blk.getD i 0).toNat = x at *
    have hp : p < 16777216 := by omega
    rw [UInt32.toNat_or, UInt32.toNat_shiftLeft, ofNat32 p (by omega), ofNat32 8 (by decide), ofNat32 x (by omega), ofNat32 (p * 256 + x) (by omega)]
    show p <<< 8 % 4294967296 ||| x = _
    rw [Nat.mod_eq_of_lt (by rw [Nat.shiftLeft_eq]; omega), Nat.shiftLeft_eq]
    rw [Nat.mul_comm p (2 ^ 8), ← Nat.two_pow_add_eq_or_of_lt (i := 8) hx p]
  rw [hv]
  refine List.ext_getElem? fun j => ?_
  rw [List.getElem?_set]
  by_cases e : i / 4 = j
  · subst e
    rw [if_pos rfl, if_pos (by rw [ldL_len]; exact hq), ldL_get _ _ _ hq, show min 4 (i + 1 - 4 * (i / 4)) = i % 4 + 1 by omega]
  · rw [if_neg e]
    rcases Nat.lt_or_ge j 16 with hj | hj
    · rw [ldL_get _ _ _ hj, ldL_get _ _ _ hj, show min 4 (i + 1 - 4 * j) = min 4 (i - 4 * j) by omega]
    · rw [List.getElem?_eq_none (by rw [ldL_len]; exact hj), List.getElem?_eq_none (by rw [ldL_len]; exact hj)]
theorem map_vw_get (xs : List UInt32) (i : Nat) (x : UInt32) (h : xs[i]? = some x) : (xs.map vw)[i]? = some (vw x) := by rw [List.getElem?_map, h]; rfl
def relLd (blk : List UInt8) (w : World) (b1 b2 b3 : Nat) (v7 : Value) (wr : World) : Prop := ∃ i : Nat, v7 = .int .i64 (i : Int) ∧ i ≤ 64 ∧ SH Nil w wr [.blk b3 236 ((ldL blk i).map vw), .blk b2 236 (List.replicate 16 (.int .u32 0)), .blk b1 220 (blk.map cb)]
set_option maxHeartbeats 1600000 in
theorem load_any (blk : List UInt8) (w : World) (hb : blk.length = 64) : Calls Tryd.prog 159 #[.agg (blk.map cb).toArray] w fun e w' => e = .returned (.agg (((List.range 16).map (wordB blk)).map vw).toArray) ∧ Below w.heap.size w w' := by
  have H := SH.start Nil w
  have HB := Lib.hid hb
  have hbm : (blk.map cb).length = 64 := by rw [List.length_map, hb]
  have HBM := Lib.hid hbm
  clear hb hbm
  go_enter Tryd.func159, Tryd.ntmps159
  go_wp2_with (first
    | ((with_reducible refine gDst 6 ?_); refine aLoad H _ rfl rfl (part_all HBM.out) HBM.out rfl ?_)
    | ((with_reducible refine gDst 1 ?_); refine aBox H _ rfl rfl rfl ?_; clear H; intro b1 w1 H)
    | ((with_reducible refine gDst 2 ?_); refine aAlloc H rfl rfl ?_; clear H; intro b2 w2 H)
    | ((with_reducible refine gDst 3 ?_); refine aAlloc H rfl rfl ?_; clear H; intro b3 w3 H)
    | ((with_reducible refine gLoad ?_); first | (refine aLoad1 H _ rfl rfl (by first | exact (rfl : _ = some (Value.int _ _)) | exact (rfl : _ = some (Value.slice _ _ _)) | exact (rfl : _ = some (Value.bool _)) | exact (rfl : _ = some (Value.string _)) | exact (rfl : _ = some (Value.pointer _)) | rfl | (simp [List.getElem?_append]; done)) rfl ?_) | (refine aLoadC _ rfl rfl (by assumption) rfl ?_) | (refine aLoad H _ rfl rfl (by first | exact part_all (by first | rfl | simp []) | (simp only [List.drop_succ_cons, List.drop_zero, List.take_succ_cons, List.take_zero]; rfl) | (simp [List.drop_append, List.take_append]; rfl)) (by first | rfl | simp []) rfl ?_))
    | ((with_reducible refine gStore ?_); (first | (refine aCell H _ _ rfl rfl (by first | exact (rfl : _ = Value.int _ _) | exact (rfl : _ = Value.bool _) | exact (rfl : _ = Value.slice _ _ _) | exact (rfl : _ = Value.string _) | exact (rfl : _ = Value.pointer _) | exact (rfl : _ = Value.func _ _ _) | rfl) (by rfl) (by rfl) (by first | exact of_decide_eq_true rfl | (simp []; done) | (simp []; omega)) (by first | (simp only [List.set_cons_zero, List.set_cons_succ]; rfl) | (simp [List.set_append]; rfl)) rfl ?_) | (refine aStore H _ _ rfl rfl rfl (by (first | exact ⟨rfl, rfl⟩ | exact ⟨by decide, rfl⟩ | (simp []; done) | (constructor <;> simp [] <;> omega))) (by first | rfl | simp [List.all_append, one_all]) rfl ?_) | (refine aLay H _ _ rfl rfl rfl (by (first | exact ⟨rfl, rfl⟩ | exact ⟨by decide, rfl⟩ | (simp []; done) | (constructor <;> simp [] <;> omega))) (by first | rfl | simp [List.all_append, one_all]) (by simp only [lay, List.take_succ_cons, List.take_zero, List.drop_succ_cons, List.drop_zero, List.nil_append, List.cons_append, List.length_cons, List.length_nil, Nat.zero_add, Nat.reduceAdd]; rfl) rfl ?_)); clear H; intro w' H; try dsimp only at H))
  go_loopw [7] (fun v7 wr => relLd blk w b1 b2 b3 v7 wr) (fun v _ => 64 - (intOf v).toNat)
  case atStart => exact ⟨0, rfl, by omega, by rw [ldL_zero]; exact H⟩
  case round =>
    obtain ⟨i, rfl, hi, HS⟩ := hrel
    clear H
    have H := HS
    clear HS
    by_cases hir : i < 64
    · have hii : (i : Int) < 64 := by omega
      obtain ⟨h1, h2⟩ := ldL_step blk i hir
      have hc := ((H.hold.va (b := b3)).cell (i / 4)).trans (map_vw_get _ _ _ h2)
      have hset : ((ldL blk i).map vw).set (i / 4) _ = _ := (List.map_set).symm.trans (congrArg (List.map vw) h1)
      have hshl := shl32 (UInt32.ofNat (pN blk (i / 4) (i % 4))) 8 (by decide)
      have hx : ((blk.getD i 0).toNat : Int) = ((UInt32.ofNat (blk.getD i 0).toNat).toNat : Int) := by rw [ofNat32 _ (by have := (blk.getD i 0).toNat_lt; omega)]
      have hor := orW32 ((UInt32.ofNat (pN blk (i / 4) (i % 4))) <<< UInt32.ofNat 8) (UInt32.ofNat (blk.getD i 0).toNat)
      rw [← hx] at hor
      have hq : (i : Int).tdiv 4 = ((i / 4 : Nat) : Int) := by rw [Int.tdiv_eq_ediv_of_nonneg (by omega)]; push_cast; rfl
      have hq2 : (i : Int) / 4 = ((i / 4 : Nat) : Int) := by push_cast; rfl
      have hql : i / 4 < 16 := by omega
      have hxb := (blk.getD i 0).toNat_lt
      generalize UInt32.ofNat (pN blk (i / 4) (i % 4)) = p at *
      generalize p <<< UInt32.ofNat 8 = p8 at *
      generalize p8 ||| UInt32.ofNat (blk.getD i 0).toNat = r at *
      generalize i / 4 = q at *
      have hqb : (q : Int) < 16 := by omega
      have hqw : IntKind.i64.wrap (q : Int) = (q : Int) := i64w _ (by omega) (by omega)
      have hxw : IntKind.u32.wrap ((blk.getD i 0).toNat : Int) = ((blk.getD i 0).toNat : Int) := by rw [IntKind.wrap_u32]; omega
      have HSET := Lib.hid hset
      have h256 : (2 : Int) ^ 8 = 256 := by decide
      rw [h256] at hshl
      generalize hxx : (blk.getD i 0) = x at *
      have HXX := Lib.hid hxx
      clear h1 h2 hset hx hxx
      go_wp2_with (first
        | ((with_reducible refine gDst 10 ?_); refine stepV (v := .int .u8 (x.toNat : Int)) (by rw [← HXX.out]; exact xIndexB 220 Tryd.underlying220 _ _ rfl blk rfl HB.out i rfl hir) rfl ?_)
        | ((with_reducible refine gStore ?_); refine aCell (v := vw r) (new := (ldL blk (i + 1)).map vw) H _ _ rfl rfl rfl rfl rfl (by rw [List.length_map, ldL_len]; omega) HSET.out rfl ?_; clear H hc; intro w' H; (try dsimp only at H))
        | ((with_reducible refine gDst 1 ?_); refine aBox H _ rfl rfl rfl ?_; clear H; intro b1 w1 H)
        | ((with_reducible refine gDst 2 ?_); refine aAlloc H rfl rfl ?_; clear H; intro b2 w2 H)
        | ((with_reducible refine gDst 3 ?_); refine aAlloc H rfl rfl ?_; clear H; intro b3 w3 H)
        | ((with_reducible refine gLoad ?_); first | (refine aLoad1 H _ rfl rfl (by first | exact (rfl : _ = some (Value.int _ _)) | exact (rfl : _ = some (Value.slice _ _ _)) | exact (rfl : _ = some (Value.bool _)) | exact (rfl : _ = some (Value.string _)) | exact (rfl : _ = some (Value.pointer _)) | rfl | (simp [List.getElem?_append]; done)) rfl ?_) | (refine aLoadC _ rfl rfl (by assumption) rfl ?_) | (refine aLoad H _ rfl rfl (by first | exact part_all (by first | rfl | simp []) | (simp only [List.drop_succ_cons, List.drop_zero, List.take_succ_cons, List.take_zero]; rfl) | (simp [List.drop_append, List.take_append]; rfl)) (by first | rfl | simp []) rfl ?_))
        | ((with_reducible refine gStore ?_); (first | (refine aCell H _ _ rfl rfl (by first | exact (rfl : _ = Value.int _ _) | exact (rfl : _ = Value.bool _) | exact (rfl : _ = Value.slice _ _ _) | exact (rfl : _ = Value.string _) | exact (rfl : _ = Value.pointer _) | exact (rfl : _ = Value.func _ _ _) | rfl) (by rfl) (by rfl) (by first | exact of_decide_eq_true rfl | (simp []; done) | (simp []; omega)) (by first | (simp only [List.set_cons_zero, List.set_cons_succ]; rfl) | (simp [List.set_append]; rfl)) rfl ?_) | (refine aStore H _ _ rfl rfl rfl (by (first | exact ⟨rfl, rfl⟩ | exact ⟨by decide, rfl⟩ | (simp []; done) | (constructor <;> simp [] <;> omega))) (by first | rfl | simp [List.all_append, one_all]) rfl ?_) | (refine aLay H _ _ rfl rfl rfl (by (first | exact ⟨rfl, rfl⟩ | exact ⟨by decide, rfl⟩ | (simp []; done) | (constructor <;> simp [] <;> omega))) (by first | rfl | simp [List.all_append, one_all]) (by simp only [lay, List.take_succ_cons, List.take_zero, List.drop_succ_cons, List.drop_zero, List.nil_append, List.cons_append, List.length_cons, List.length_nil, Nat.zero_add, Nat.reduceAdd]; rfl) rfl ?_)); clear H; intro w' H; try dsimp only at H))
      go_roundw
      case rel => first | exact ⟨i + 1, by go_num, by omega, H⟩ | exact ⟨_, ⟨i + 1, by go_num, by omega, H⟩, rfl⟩ | exact ⟨_, _, ⟨i + 1, by go_num, by omega, H⟩, rfl, rfl⟩ | exact ⟨_, _, _, ⟨i + 1, by go_num, by omega, H⟩, rfl, rfl, rfl⟩ | exact ⟨_, _, _, _, ⟨i + 1, by go_num, by omega, H⟩, rfl, rfl, rfl, rfl⟩ | exact ⟨_, _, _, _, _, ⟨i + 1, by go_num, by omega, H⟩, rfl, rfl, rfl, rfl, rfl⟩ | ((repeat (apply Exists.intro)); exact ⟨⟨i + 1, by go_num, by omega, H⟩, rfl⟩)
      case measure => simp [intOf] <;> omega
    · obtain rfl : i = 64 := by omega
      rw [ldL_full] at H
      go_wp2_with (first
        | ((with_reducible refine gLoad ?_); refine aLoad H _ rfl rfl (part_all (by simp)) (by simp) rfl ?_)
        | ((with_reducible refine gStore ?_); refine aStore H _ _ rfl rfl rfl ⟨by simp, by simp⟩ (one_w _) rfl ?_; clear H; intro w' H; try dsimp only at H))
      refine bodyPost_ret (res_cell rfl _ H.hold rfl (by simp)) rfl ?_
      exact ⟨rfl, H.below⟩
end Go.Proofs.YticfcelbnkiopaaDoor

namespace Go.Proofs.YticfcelbnkiopaaDoor
set_option maxRecDepth 100000
open Go.RowKit
set_option linter.unusedSimpArgs false
set_option linter.unusedVariables false

/-- Which number stands at a place of the wheel ahead of step t. -/
def wi (t j : Nat) : Nat := if t ≤ 16 then j else t - 1 - (t - 1 + 16 - j) % 16
def winL (blk : List UInt8) (t : Nat) : List UInt32 := (List.range 16).map fun j => wT blk (wi t j)
theorem winL_len (blk : List UInt8) (t : Nat) : (winL blk t).length = 16 := by simp [winL]
theorem winL_get (blk : List UInt8) (t j : Nat) (h : j < 16) : (winL blk t)[j]? = some (wT blk (wi t j)) := by
  rw [winL, List.getElem?_map, List.getElem?_range h]; rfl
theorem winL_start (blk : List UInt8) : winL blk 0 = (List.range 16).map (wordB blk) := by
  unfold winL
  refine List.map_congr_left fun j hj => ?_
  rw [wi, if_pos (by omega), wT_low blk j (List.mem_range.1 hj)]
theorem winL_low (blk : List UInt8) (t : Nat) (h : t < 16) : winL blk (t + 1) = winL blk t := by
  unfold winL
  refine List.map_congr_left fun j hj => ?_
  rw [wi, wi, if_pos (by omega), if_pos (by omega)]
theorem wi_at (t d j : Nat) (ht : 16 ≤ t) (hd : 1 ≤ d) (hd2 : d ≤ 16) (hj : j = (t + 16 - d) % 16) : wi t j = t - d := by
  subst hj
  unfold wi
  by_cases e : t ≤ 16
  · have : t = 16 := by omega
    subst this
    rw [if_pos (by omega)]
    omega
  · rw [if_neg e]
    omega
theorem winL_step (blk : List UInt8) (t : Nat) (ht : 16 ≤ t) : (winL blk t).set (t % 16) (wT blk t) = winL blk (t + 1) := by
  refine List.ext_getElem? fun j => ?_
  rw [List.getElem?_set]
  by_cases e : t % 16 = j
  · subst e
    rw [if_pos rfl, if_pos (by rw [winL_len]; omega), winL_get _ _ _ (by omega), wi_at (t + 1) 1 (t % 16) (by omega) (by omega) (by omega) (by omega), Nat.add_sub_cancel]
  · rw [if_neg e]
    rcases Nat.lt_or_ge j 16 with hj | hj
    · rw [winL_get _ _ _ hj, winL_get _ _ _ hj]
      have : wi (t + 1) j = wi t j := by
        unfold wi
        rw [if_neg (by omega)]
        by_cases e2 : t ≤ 16
        · rw [if_pos e2]; omega
        · rw [if_neg e2]; omega
      rw [this]
    · rw [List.getElem?_eq_none (by rw [winL_len]; exact hj), List.getElem?_eq_none (by rw [winL_len]; exact hj)]
theorem one_range (f : Nat → UInt32) : (((List.range 16).map f).map vw).length = 16 := by simp
set_option maxHeartbeats 3200000 in
theorem next_any (blk : List UInt8) (t b : Nat) (w : World) (hv : VA w b 236 ((winL blk t).map vw)) (ht : t < 64) :
    Calls Tryd.prog 162 #[.pointer (some ⟨b, 0, none⟩), .int .i64 (t : Int)] w fun e w' => e = .returned (vw (wT blk t)) ∧ SH (fun k => k = b) w w' [.blk b 236 ((winL blk (t + 1)).map vw)] := by
  have H := SH.ofB hv
  have hm : ∀ d : Nat, d ≤ 20 → ((t : Int) + (d : Int)).tmod 16 = (((t + d) % 16 : Nat) : Int) := fun d _ => by rw [Int.tmod_eq_emod_of_nonneg (by omega)]; push_cast; rfl
  have hm0 : (t : Int).tmod 16 = ((t % 16 : Nat) : Int) := by rw [Int.tmod_eq_emod_of_nonneg (by omega)]; push_cast; rfl
  by_cases h16 : 16 ≤ t
  · have hti : (16 : Int) ≤ (t : Int) := by omega
    have g0 := map_vw_get _ _ _ (winL_get blk t (t % 16) (by omega))
    have g1 := map_vw_get _ _ _ (winL_get blk t ((t + 1) % 16) (by omega))
    have g2 := map_vw_get _ _ _ (winL_get blk t ((t + 14) % 16) (by omega))
    have g3 := map_vw_get _ _ _ (winL_get blk t ((t + 9) % 16) (by omega))
    rw [wi_at t 16 _ h16 (by omega) (by omega) (by omega)] at g0
    rw [wi_at t 15 _ h16 (by omega) (by omega) (by omega)] at g1
    rw [wi_at t 2 _ h16 (by omega) (by omega) (by omega)] at g2
    rw [wi_at t 7 _ h16 (by omega) (by omega) (by omega)] at g3
    have c0 := (hv.cell (t % 16)).trans g0
    have c1 := (hv.cell ((t + 1) % 16)).trans g1
    have c2 := (hv.cell ((t + 14) % 16)).trans g2
    have c3 := (hv.cell ((t + 9) % 16)).trans g3
    have hst := winL_step blk t h16
    have hset : ((winL blk t).map vw).set (t % 16) (vw (wT blk t)) = (winL blk (t + 1)).map vw := List.map_set.symm.trans (congrArg (List.map vw) hst)
    have hw := wT_high blk t h16
    have m1 : ((t : Int) + 1).tmod 16 = (((t + 1) % 16 : Nat) : Int) := hm 1 (by omega)
    have k1 : IntKind.i64.wrap ((t : Int) + 1) = (t : Int) + 1 := i64w _ (by omega) (by omega)
    have m2 : ((t : Int) + 14).tmod 16 = (((t + 14) % 16 : Nat) : Int) := hm 14 (by omega)
    have k2 : IntKind.i64.wrap ((t : Int) + 14) = (t : Int) + 14 := i64w _ (by omega) (by omega)
    have m3 : ((t : Int) + 9).tmod 16 = (((t + 9) % 16 : Nat) : Int) := hm 9 (by omega)
    have k3 : IntKind.i64.wrap ((t : Int) + 9) = (t : Int) + 9 := i64w _ (by omega) (by omega)
    have l0 : t % 16 < 16 := by omega
    have l1 : (t + 1) % 16 < 16 := by omega
    have l2 : (t + 14) % 16 < 16 := by omega
    have l3 : (t + 9) % 16 < 16 := by omega
    have hlen := winL_len blk t
    clear g0 g1 g2 g3 hst hm hv
    generalize (t + 1) % 16 = q1 at *
    generalize (t + 14) % 16 = q2 at *
    generalize (t + 9) % 16 = q3 at *
    generalize t % 16 = q0 at *
    generalize wT blk (t - 16) = x0 at *
    generalize wT blk (t - 15) = x at *
    generalize wT blk (t - 2) = y at *
    generalize wT blk (t - 7) = x7 at *
    have cR7 : ∀ W, Calls Tryd.prog 161 #[vw x, .int .i64 (-7)] W fun e w' => e = .returned (vw (rotr x 7)) ∧ W = w' := fun W => rot_any x 7 W (by decide) (by decide)
    have cR18 : ∀ W, Calls Tryd.prog 161 #[vw x, .int .i64 (-18)] W fun e w' => e = .returned (vw (rotr x 18)) ∧ W = w' := fun W => rot_any x 18 W (by decide) (by decide)
    have hx7 := xor32 (rotr x 7) (rotr x 18)
    have hs7 := shr32 x 3 (by decide)
    have hy7 := xor32 (rotr x 7 ^^^ rotr x 18) (x >>> UInt32.ofNat 3)
    have cR17 : ∀ W, Calls Tryd.prog 161 #[vw y, .int .i64 (-17)] W fun e w' => e = .returned (vw (rotr y 17)) ∧ W = w' := fun W => rot_any y 17 W (by decide) (by decide)
    have cR19 : ∀ W, Calls Tryd.prog 161 #[vw y, .int .i64 (-19)] W fun e w' => e = .returned (vw (rotr y 19)) ∧ W = w' := fun W => rot_any y 19 W (by decide) (by decide)
    have hx17 := xor32 (rotr y 17) (rotr y 19)
    have hs17 := shr32 y 10 (by decide)
    have hy17 := xor32 (rotr y 17 ^^^ rotr y 19) (y >>> UInt32.ofNat 10)
    have a1 := add32 (sm0 x) x7
    have a2 := add32 (sm0 x + x7) (sm1 y)
    have a3 := add32 x0 ((sm0 x + x7) + sm1 y)
    rw [← hw] at a3
    change _ = ((sm0 x).toNat : Int) at hy7
    change _ = ((sm1 y).toNat : Int) at hy17
    generalize wT blk t = r at *
    generalize sm0 x = s0 at *
    generalize sm1 y = s1 at *
    generalize rotr x 7 = x1 at *
    generalize rotr x 18 = x2 at *
    generalize rotr y 17 = y1 at *
    generalize rotr y 19 = y2 at *
    generalize x >>> UInt32.ofNat 3 = x3 at *
    generalize y >>> UInt32.ofNat 10 = y3 at *
    generalize x1 ^^^ x2 = x12 at *
    generalize y1 ^^^ y2 = y12 at *
    generalize s0 + x7 + s1 = z2 at *
    generalize s0 + x7 = z1 at *
    have b0 : (q0 : Int) < 16 := by omega
    have b1 : (q1 : Int) < 16 := by omega
    have b2 : (q2 : Int) < 16 := by omega
    have b3 : (q3 : Int) < 16 := by omega
    have w0 : IntKind.i64.wrap (q0 : Int) = (q0 : Int) := i64w _ (by omega) (by omega)
    have w1 : IntKind.i64.wrap (q1 : Int) = (q1 : Int) := i64w _ (by omega) (by omega)
    have w2 : IntKind.i64.wrap (q2 : Int) = (q2 : Int) := i64w _ (by omega) (by omega)
    have w3 : IntKind.i64.wrap (q3 : Int) = (q3 : Int) := i64w _ (by omega) (by omega)
    have htb : (t : Int) < 64 := by omega
    have HSET := Lib.hid hset
    have HLEN := Lib.hid hlen
    have e3 : (2 : Int) ^ 3 = 8 := by decide
    have e10 : (2 : Int) ^ 10 = 1024 := by decide
    rw [e3] at hs7
    rw [e10] at hs17
    clear hset hw hlen e3 e10 l1 l2 l3
    go_enter Tryd.func162, Tryd.ntmps162
    go_wp2
    refine startA (fun i => false) (by kernel_rfl) (fun wS hS => ?_)
    replace H := H.drew
    rw [← hS] at H
    have HH := H.hold
    have HS0 : Below wS.heap.size wS wS := Below.refl _ _
    replace c0 := cellS hS c0
    replace c1 := cellS hS c1
    replace c2 := cellS hS c2
    replace c3 := cellS hS c3
    clear hS
    refine takeP 0 rfl (by kernel_rfl) (by kernel_rfl) (by kernel_rfl) (by kernel_rfl) (fun _ _ _ h => h) rfl (v := ?_) ?_ ?_
    rotate_left
    · intro w'; go_simp; (try with_reducible rfl)
    (try simp only [Act.put, List.setIfInBounds_toArray, List.set_cons_zero, List.set_cons_succ])
    refine takeP 1 rfl (by kernel_rfl) (by kernel_rfl) (by kernel_rfl) (by kernel_rfl) (fun _ _ _ h => h) rfl (v := ?_) ?_ ?_
    rotate_left
    · intro w'; go_simp; (try with_reducible rfl)
    (try simp only [Act.put, List.setIfInBounds_toArray, List.set_cons_zero, List.set_cons_succ])
    refine takeP 2 rfl (by kernel_rfl) (by kernel_rfl) (by kernel_rfl) (by kernel_rfl) (fun _ _ _ h => h) rfl (v := ?_) ?_ ?_
    rotate_left
    · intro w'; go_simp; (try with_reducible rfl)
    (try simp only [Act.put, List.setIfInBounds_toArray, List.set_cons_zero, List.set_cons_succ])
    refine takeP 3 rfl (by kernel_rfl) (by kernel_rfl) (by kernel_rfl) (by kernel_rfl) (fun _ _ _ h => h) rfl (v := ?_) ?_ ?_
    rotate_left
    · intro w'; go_simp; (try with_reducible rfl)
    (try simp only [Act.put, List.setIfInBounds_toArray, List.set_cons_zero, List.set_cons_succ])
    refine takeP 4 rfl (by kernel_rfl) (by kernel_rfl) (by kernel_rfl) (by kernel_rfl) (fun _ _ _ h => h) rfl (v := ?_) ?_ ?_
    rotate_left
    · intro w'; go_simp; (try with_reducible rfl)
    (try simp only [Act.put, List.setIfInBounds_toArray, List.set_cons_zero, List.set_cons_succ])
    refine takeP 5 rfl (by kernel_rfl) (by kernel_rfl) (by kernel_rfl) (by kernel_rfl) (fun _ _ _ h => h) rfl (v := ?_) ?_ ?_
    rotate_left
    · intro w'; go_simp; (try with_reducible rfl)
    (try simp only [Act.put, List.setIfInBounds_toArray, List.set_cons_zero, List.set_cons_succ])
    refine takeL 6 HS0 rfl (by kernel_rfl) (by kernel_rfl) (by kernel_rfl) (by kernel_rfl) (by kernel_rfl) (fun _ _ _ h => h) rfl (v := ?_) ?_ ?_
    rotate_left
    · intro w' hw'; first | (refine Eq.trans (xLoad1 (HH.below hw') _ rfl rfl (by first | exact (rfl : _ = some (Value.int _ _)) | exact (rfl : _ = some (Value.slice _ _ _)) | exact (rfl : _ = some (Value.bool _)) | exact (rfl : _ = some (Value.string _)) | exact (rfl : _ = some (Value.pointer _)) | rfl | (simp [List.getElem?_append]; done))) ?_; with_reducible rfl) | (refine Eq.trans (xLoadC _ rfl rfl (cell_below hw' (by assumption))) ?_; with_reducible rfl)
    (try simp only [Act.put, List.setIfInBounds_toArray, List.set_cons_zero, List.set_cons_succ])
    refine takeP 7 rfl (by kernel_rfl) (by kernel_rfl) (by kernel_rfl) (by kernel_rfl) (fun _ _ _ h => h) rfl (v := ?_) ?_ ?_
    rotate_left
    · intro w'; go_simp; (try with_reducible rfl)
    (try simp only [Act.put, List.setIfInBounds_toArray, List.set_cons_zero, List.set_cons_succ])
    refine takeP 8 rfl (by kernel_rfl) (by kernel_rfl) (by kernel_rfl) (by kernel_rfl) (fun _ _ _ h => h) rfl (v := ?_) ?_ ?_
    rotate_left
    · intro w'; go_simp; (try with_reducible rfl)
    (try simp only [Act.put, List.setIfInBounds_toArray, List.set_cons_zero, List.set_cons_succ])
    refine takeP 9 rfl (by kernel_rfl) (by kernel_rfl) (by kernel_rfl) (by kernel_rfl) (fun _ _ _ h => h) rfl (v := ?_) ?_ ?_
    rotate_left
    · intro w'; go_simp; (try with_reducible rfl)
    (try simp only [Act.put, List.setIfInBounds_toArray, List.set_cons_zero, List.set_cons_succ])
    refine takeP 10 rfl (by kernel_rfl) (by kernel_rfl) (by kernel_rfl) (by kernel_rfl) (fun _ _ _ h => h) rfl (v := ?_) ?_ ?_
    rotate_left
    · intro w'; go_simp; (try with_reducible rfl)
    (try simp only [Act.put, List.setIfInBounds_toArray, List.set_cons_zero, List.set_cons_succ])
    refine takeP 11 rfl (by kernel_rfl) (by kernel_rfl) (by kernel_rfl) (by kernel_rfl) (fun _ _ _ h => h) rfl (v := ?_) ?_ ?_
    rotate_left
    · intro w'; go_simp; (try with_reducible rfl)
    (try simp only [Act.put, List.setIfInBounds_toArray, List.set_cons_zero, List.set_cons_succ])
    refine takeP 12 rfl (by kernel_rfl) (by kernel_rfl) (by kernel_rfl) (by kernel_rfl) (fun _ _ _ h => h) rfl (v := ?_) ?_ ?_
    rotate_left
    · intro w'; go_simp; (try with_reducible rfl)
    (try simp only [Act.put, List.setIfInBounds_toArray, List.set_cons_zero, List.set_cons_succ])
    refine takeL 13 HS0 rfl (by kernel_rfl) (by kernel_rfl) (by kernel_rfl) (by kernel_rfl) (by kernel_rfl) (fun _ _ _ h => h) rfl (v := ?_) ?_ ?_
    rotate_left
    · intro w' hw'; first | (refine Eq.trans (xLoad1 (HH.below hw') _ rfl rfl (by first | exact (rfl : _ = some (Value.int _ _)) | exact (rfl : _ = some (Value.slice _ _ _)) | exact (rfl : _ = some (Value.bool _)) | exact (rfl : _ = some (Value.string _)) | exact (rfl : _ = some (Value.pointer _)) | rfl | (simp [List.getElem?_append]; done))) ?_; with_reducible rfl) | (refine Eq.trans (xLoadC _ rfl rfl (cell_below hw' (by assumption))) ?_; with_reducible rfl)
    (try simp only [Act.put, List.setIfInBounds_toArray, List.set_cons_zero, List.set_cons_succ])
    refine takeP 14 rfl (by kernel_rfl) (by kernel_rfl) (by kernel_rfl) (by kernel_rfl) (fun _ _ _ h => h) rfl (v := ?_) ?_ ?_
    rotate_left
    · intro w'; go_simp; (try with_reducible rfl)
    (try simp only [Act.put, List.setIfInBounds_toArray, List.set_cons_zero, List.set_cons_succ])
    refine takeP 15 rfl (by kernel_rfl) (by kernel_rfl) (by kernel_rfl) (by kernel_rfl) (fun _ _ _ h => h) rfl (v := ?_) ?_ ?_
    rotate_left
    · intro w'; go_simp; (try with_reducible rfl)
    (try simp only [Act.put, List.setIfInBounds_toArray, List.set_cons_zero, List.set_cons_succ])
    refine doneL (by kernel_rfl) ?_
    go_wp2_with (first
      | (go_at_call 161; (with_reducible refine (cR7 _).mono ?_); rintro e w' ⟨rfl, rfl⟩)
      | (go_at_call 161; (with_reducible refine (cR18 _).mono ?_); rintro e w' ⟨rfl, rfl⟩)
      | (go_at_call 161; (with_reducible refine (cR17 _).mono ?_); rintro e w' ⟨rfl, rfl⟩)
      | (go_at_call 161; (with_reducible refine (cR19 _).mono ?_); rintro e w' ⟨rfl, rfl⟩))
    refine startA (fun i => i == 19) (by kernel_rfl) (fun wS hS => ?_)
    replace H := H.drew
    rw [← hS] at H
    have HH := H.hold
    have HS0 : Below wS.heap.size wS wS := Below.refl _ _
    replace c0 := cellS hS c0
    replace c1 := cellS hS c1
    replace c2 := cellS hS c2
    replace c3 := cellS hS c3
    clear hS
    refine takeP 0 rfl (by kernel_rfl) (by kernel_rfl) (by kernel_rfl) (by kernel_rfl) (fun _ _ _ h => h) rfl (v := ?_) ?_ ?_
    rotate_left
    · intro w'; go_simp; (try with_reducible rfl)
    (try simp only [Act.put, List.setIfInBounds_toArray, List.set_cons_zero, List.set_cons_succ])
    refine takeP 1 rfl (by kernel_rfl) (by kernel_rfl) (by kernel_rfl) (by kernel_rfl) (fun _ _ _ h => h) rfl (v := ?_) ?_ ?_
    rotate_left
    · intro w'; go_simp; (try with_reducible rfl)
    (try simp only [Act.put, List.setIfInBounds_toArray, List.set_cons_zero, List.set_cons_succ])
    refine takeP 2 rfl (by kernel_rfl) (by kernel_rfl) (by kernel_rfl) (by kernel_rfl) (fun _ _ _ h => h) rfl (v := ?_) ?_ ?_
    rotate_left
    · intro w'; go_simp; (try with_reducible rfl)
    (try simp only [Act.put, List.setIfInBounds_toArray, List.set_cons_zero, List.set_cons_succ])
    refine takeP 3 rfl (by kernel_rfl) (by kernel_rfl) (by kernel_rfl) (by kernel_rfl) (fun _ _ _ h => h) rfl (v := ?_) ?_ ?_
    rotate_left
    · intro w'; go_simp; (try with_reducible rfl)
    (try simp only [Act.put, List.setIfInBounds_toArray, List.set_cons_zero, List.set_cons_succ])
    refine takeL 4 HS0 rfl (by kernel_rfl) (by kernel_rfl) (by kernel_rfl) (by kernel_rfl) (by kernel_rfl) (fun _ _ _ h => h) rfl (v := ?_) ?_ ?_
    rotate_left
    · intro w' hw'; first | (refine Eq.trans (xLoad1 (HH.below hw') _ rfl rfl (by first | exact (rfl : _ = some (Value.int _ _)) | exact (rfl : _ = some (Value.slice _ _ _)) | exact (rfl : _ = some (Value.bool _)) | exact (rfl : _ = some (Value.string _)) | exact (rfl : _ = some (Value.pointer _)) | rfl | (simp [List.getElem?_append]; done))) ?_; with_reducible rfl) | (refine Eq.trans (xLoadC _ rfl rfl (cell_below hw' (by assumption))) ?_; with_reducible rfl)
    (try simp only [Act.put, List.setIfInBounds_toArray, List.set_cons_zero, List.set_cons_succ])
    refine takeP 5 rfl (by kernel_rfl) (by kernel_rfl) (by kernel_rfl) (by kernel_rfl) (fun _ _ _ h => h) rfl (v := ?_) ?_ ?_
    rotate_left
    · intro w'; go_simp; (try with_reducible rfl)
    (try simp only [Act.put, List.setIfInBounds_toArray, List.set_cons_zero, List.set_cons_succ])
    refine takeP 6 rfl (by kernel_rfl) (by kernel_rfl) (by kernel_rfl) (by kernel_rfl) (fun _ _ _ h => h) rfl (v := ?_) ?_ ?_
    rotate_left
    · intro w'; go_simp; (try with_reducible rfl)
    (try simp only [Act.put, List.setIfInBounds_toArray, List.set_cons_zero, List.set_cons_succ])
    refine takeP 7 rfl (by kernel_rfl) (by kernel_rfl) (by kernel_rfl) (by kernel_rfl) (fun _ _ _ h => h) rfl (v := ?_) ?_ ?_
    rotate_left
    · intro w'; go_simp; (try with_reducible rfl)
    (try simp only [Act.put, List.setIfInBounds_toArray, List.set_cons_zero, List.set_cons_succ])
    refine takeP 8 rfl (by kernel_rfl) (by kernel_rfl) (by kernel_rfl) (by kernel_rfl) (fun _ _ _ h => h) rfl (v := ?_) ?_ ?_
    rotate_left
    · intro w'; go_simp; (try with_reducible rfl)
    (try simp only [Act.put, List.setIfInBounds_toArray, List.set_cons_zero, List.set_cons_succ])
    refine takeP 9 rfl (by kernel_rfl) (by kernel_rfl) (by kernel_rfl) (by kernel_rfl) (fun _ _ _ h => h) rfl (v := ?_) ?_ ?_
    rotate_left
    · intro w'; go_simp; (try with_reducible rfl)
    (try simp only [Act.put, List.setIfInBounds_toArray, List.set_cons_zero, List.set_cons_succ])
    refine takeP 10 rfl (by kernel_rfl) (by kernel_rfl) (by kernel_rfl) (by kernel_rfl) (fun _ _ _ h => h) rfl (v := ?_) ?_ ?_
    rotate_left
    · intro w'; go_simp; (try with_reducible rfl)
    (try simp only [Act.put, List.setIfInBounds_toArray, List.set_cons_zero, List.set_cons_succ])
    refine takeP 11 rfl (by kernel_rfl) (by kernel_rfl) (by kernel_rfl) (by kernel_rfl) (fun _ _ _ h => h) rfl (v := ?_) ?_ ?_
    rotate_left
    · intro w'; go_simp; (try with_reducible rfl)
    (try simp only [Act.put, List.setIfInBounds_toArray, List.set_cons_zero, List.set_cons_succ])
    refine takeL 12 HS0 rfl (by kernel_rfl) (by kernel_rfl) (by kernel_rfl) (by kernel_rfl) (by kernel_rfl) (fun _ _ _ h => h) rfl (v := ?_) ?_ ?_
    rotate_left
    · intro w' hw'; first | (refine Eq.trans (xLoad1 (HH.below hw') _ rfl rfl (by first | exact (rfl : _ = some (Value.int _ _)) | exact (rfl : _ = some (Value.slice _ _ _)) | exact (rfl : _ = some (Value.bool _)) | exact (rfl : _ = some (Value.string _)) | exact (rfl : _ = some (Value.pointer _)) | rfl | (simp [List.getElem?_append]; done))) ?_; with_reducible rfl) | (refine Eq.trans (xLoadC _ rfl rfl (cell_below hw' (by assumption))) ?_; with_reducible rfl)
    (try simp only [Act.put, List.setIfInBounds_toArray, List.set_cons_zero, List.set_cons_succ])
    refine takeP 13 rfl (by kernel_rfl) (by kernel_rfl) (by kernel_rfl) (by kernel_rfl) (fun _ _ _ h => h) rfl (v := ?_) ?_ ?_
    rotate_left
    · intro w'; go_simp; (try with_reducible rfl)
    (try simp only [Act.put, List.setIfInBounds_toArray, List.set_cons_zero, List.set_cons_succ])
    refine takeP 14 rfl (by kernel_rfl) (by kernel_rfl) (by kernel_rfl) (by kernel_rfl) (fun _ _ _ h => h) rfl (v := ?_) ?_ ?_
    rotate_left
    · intro w'; go_simp; (try with_reducible rfl)
    (try simp only [Act.put, List.setIfInBounds_toArray, List.set_cons_zero, List.set_cons_succ])
    refine takeP 15 rfl (by kernel_rfl) (by kernel_rfl) (by kernel_rfl) (by kernel_rfl) (fun _ _ _ h => h) rfl (v := ?_) ?_ ?_
    rotate_left
    · intro w'; go_simp; (try with_reducible rfl)
    (try simp only [Act.put, List.setIfInBounds_toArray, List.set_cons_zero, List.set_cons_succ])
    refine takeP 16 rfl (by kernel_rfl) (by kernel_rfl) (by kernel_rfl) (by kernel_rfl) (fun _ _ _ h => h) rfl (v := ?_) ?_ ?_
    rotate_left
    · intro w'; go_simp; (try with_reducible rfl)
    (try simp only [Act.put, List.setIfInBounds_toArray, List.set_cons_zero, List.set_cons_succ])
    refine takeP 17 rfl (by kernel_rfl) (by kernel_rfl) (by kernel_rfl) (by kernel_rfl) (fun _ _ _ h => h) rfl (v := ?_) ?_ ?_
    rotate_left
    · intro w'; go_simp; (try with_reducible rfl)
    (try simp only [Act.put, List.setIfInBounds_toArray, List.set_cons_zero, List.set_cons_succ])
    refine takeP 18 rfl (by kernel_rfl) (by kernel_rfl) (by kernel_rfl) (by kernel_rfl) (fun _ _ _ h => h) rfl (v := ?_) ?_ ?_
    rotate_left
    · intro w'; go_simp; (try with_reducible rfl)
    (try simp only [Act.put, List.setIfInBounds_toArray, List.set_cons_zero, List.set_cons_succ])
    refine stepL 19 rfl (by kernel_rfl) rfl (fun K hK => ?_)
    (refine oCellA (v := vw r) (new := (winL blk (t + 1)).map vw) H _ _ rfl rfl rfl rfl rfl (by rw [List.length_map, HLEN.out]; exact l0) HSET.out ?_; clear H; intro w' H; (try dsimp only at H); refine hK.out _ _ (fun h => by cases h) ?_; clear K hK HS0)
    (try simp only [Act.put, List.setIfInBounds_toArray, List.set_cons_zero, List.set_cons_succ])
    refine doneL (by kernel_rfl) ?_
    have c9 := (H.hold.va (b := b)).cell q0
    have hg : ((winL blk (t + 1)).map vw)[q0]? = some (vw r) := by rw [← HSET.out, List.getElem?_set_self (by rw [List.length_map, HLEN.out]; exact l0)]
    rw [hg] at c9
    clear c0 c1 c2 c3 hg
    go_wp2_with (first
      | ((with_reducible refine gLoad ?_); refine aLoadC _ rfl rfl c9 rfl ?_))
    go_ret
    exact ⟨rfl, H⟩
  · have hti : (t : Int) < 16 := by omega
    have g0 := map_vw_get _ _ _ (winL_get blk t t (by omega))
    rw [wi, if_pos (by omega)] at g0
    have c0 := (hv.cell t).trans g0
    rw [winL_low blk t (by omega)]
    have hmt : (t : Int).tmod 16 = (t : Int) := by rw [hm0, Nat.mod_eq_of_lt (by omega)]
    have w0 : IntKind.i64.wrap (t : Int) = (t : Int) := i64w _ (by omega) (by omega)
    generalize wT blk t = r at *
    clear g0 hm hm0 hv
    go_enter Tryd.func162, Tryd.ntmps162
    go_wp2_with (first
      | ((with_reducible refine gLoad ?_); refine aLoadC _ rfl rfl c0 rfl ?_))
    go_ret
    exact ⟨rfl, H⟩
end Go.Proofs.YticfcelbnkiopaaDoor

namespace Go.Proofs.YticfcelbnkiopaaDoor
set_option maxRecDepth 100000
open Go.RowKit
set_option linter.unusedSimpArgs false
set_option linter.unusedVariables false

theorem S8.len (s : S8) : (s.list.map vw).length = 8 := rfl
theorem hashC_len (s : S8) (blk : List UInt8) (hb : blk.length = 64) (held long : Nat) : (hashC s blk held long).length = 74 := by
  rw [hashC, List.length_append, S8.len, List.length_append, List.length_map, hb]; rfl
theorem hashC_blk (s : S8) (blk : List UInt8) (hb : blk.length = 64) (held long : Nat) : ((hashC s blk held long).drop 8).take 64 = blk.map cb := by
  rw [hashC, List.drop_left' (S8.len s), List.take_left' (by rw [List.length_map, hb])]
theorem hashC_held (s : S8) (blk : List UInt8) (hb : blk.length = 64) (held long : Nat) : (hashC s blk held long)[72]? = some (.int .i64 (held : Int)) := by
  rw [hashC, List.getElem?_append_right (by rw [S8.len]; omega), S8.len, List.getElem?_append_right (by rw [List.length_map]; omega), List.length_map, hb]; rfl
theorem hashC_long (s : S8) (blk : List UInt8) (hb : blk.length = 64) (held long : Nat) : (hashC s blk held long)[73]? = some (.int .u64 (long : Int)) := by
  rw [hashC, List.getElem?_append_right (by rw [S8.len]; omega), S8.len, List.getElem?_append_right (by rw [List.length_map]; omega), List.length_map, hb]; rfl
theorem hashC_setHeld (s : S8) (blk : List UInt8) (hb : blk.length = 64) (held long n : Nat) : (hashC s blk held long).set 72 (.int .i64 (n : Int)) = hashC s blk n long := by
  rw [hashC, List.set_append_right _ _ (by rw [S8.len]; omega), S8.len, List.set_append_right _ _ (by rw [List.length_map]; omega), List.length_map, hb]; rfl
theorem hashC_setLong (s : S8) (blk : List UInt8) (hb : blk.length = 64) (held long n : Nat) : (hashC s blk held long).set 73 (.int .u64 (n : Int)) = hashC s blk held n := by
  rw [hashC, List.set_append_right _ _ (by rw [S8.len]; omega), S8.len, List.set_append_right _ _ (by rw [List.length_map]; omega), List.length_map, hb]; rfl
/-- Numbers of a state, added one by one. -/
def mixS (s t : S8) (i : Nat) : List UInt32 := (s.add t).list.take i ++ s.list.drop i
theorem mixS_step (s t : S8) (i : Nat) (hi : i < 8) : (mixS s t i).set i (s.list.getD i 0 + t.list.getD i 0) = mixS s t (i + 1) ∧ (mixS s t i)[i]? = some (s.list.getD i 0) := by
  rcases i with _ | _ | _ | _ | _ | _ | _ | _ | i
  all_goals first | exact ⟨rfl, rfl⟩ | omega
theorem kT_get (t : Nat) (ht : t < 64) : (kL.map vw)[t]? = some (vw (kT t)) := by
  have hl : kL.length = 64 := rfl
  rw [List.getElem?_map, kT, List.getD_eq_getElem?_getD, List.getElem?_eq_getElem (by omega)]; rfl
def relT (s : S8) (blk : List UInt8) (F : Nat → Prop) (w : World) (b b2 b3 held long : Nat) (v4 v5 v6 v7 v8 v9 v10 v11 v65 : Value) (wr : World) : Prop :=
  ∃ (t : Nat) (q : S8), v65 = .int .i64 (t : Int) ∧ t ≤ 64 ∧ Hid (q = runT blk s t) ∧ v4 = vw q.a ∧ v5 = vw q.b ∧ v6 = vw q.c ∧ v7 = vw q.d ∧ v8 = vw q.e ∧ v9 = vw q.f ∧ v10 = vw q.g ∧ v11 = vw q.h ∧ SH F w wr [.blk b3 238 (kL.map vw), .blk b2 236 ((winL blk t).map vw), .blk b 222 (hashC s blk held long)]
def mixC (s q : S8) (blk : List UInt8) (held long i : Nat) : List Value := (mixS s q i).map vw ++ (blk.map cb ++ [.int .i64 (held : Int), .int .u64 (long : Int)])
theorem mixS_len (s q : S8) (i : Nat) (h : i ≤ 8) : (mixS s q i).length = 8 := by
  rw [mixS, List.length_append, List.length_take, List.length_drop]
  show min i 8 + (8 - i) = 8
  omega
theorem mixC_step (s q : S8) (blk : List UInt8) (held long i : Nat) (hi : i < 8) :
    (mixC s q blk held long i)[i]? = some (vw (s.list.getD i 0)) ∧ (mixC s q blk held long i).set i (vw (s.list.getD i 0 + q.list.getD i 0)) = mixC s q blk held long (i + 1) := by
  obtain ⟨h1, h2⟩ := mixS_step s q i hi
  have hl := mixS_len s q i (by omega)
  refine ⟨?_, ?_⟩
  · rw [mixC, List.getElem?_append_left (by rw [List.length_map, hl]; exact hi)]
    exact map_vw_get _ _ _ h2
  · rw [mixC, mixC, List.set_append_left _ _ (by rw [List.length_map, hl]; exact hi), ← h1, List.map_set]
theorem mixC_len (s q : S8) (blk : List UInt8) (held long i : Nat) (hi : i ≤ 8) : 8 ≤ (mixC s q blk held long i).length := by
  rw [mixC, List.length_append, List.length_map, mixS_len s q i hi]; omega
def relT2 (s q : S8) (blk : List UInt8) (F : Nat → Prop) (w : World) (b b2 b3 held long : Nat) (v135 : Value) (wr : World) : Prop :=
  ∃ (i : Nat), v135 = .int .i64 (i : Int) ∧ i ≤ 8 ∧ SH F w wr [.blk b3 238 (kL.map vw), .blk b2 236 ((winL blk 64).map vw), .blk b 222 (mixC s q blk held long i)]
set_option maxHeartbeats 1000000 in
theorem take_any (s : S8) (blk : List UInt8) (held long b : Nat) (w : World) (hv : VA w b 222 (hashC s blk held long)) (hb : blk.length = 64) :
    Calls Tryd.prog 144 #[.pointer (some ⟨b, 0, none⟩)] w fun e w' => e = .returned (.tuple #[]) ∧ SH (fun k => k = b) w w' [.blk b 222 (hashC (compB s blk) blk 0 long)] := by
  have H := SH.ofB hv
  have cL := fun W => load_any blk W hb
  have cK := fun W => steps_any W
  rw [← winL_start] at cL
  have HB := Lib.hid hb
  have HBL := Lib.hid (hashC_blk s blk hb held long)
  have HBM := Lib.hid (show (blk.map cb).length = 64 by rw [List.length_map, hb])
  have HK64 := Lib.hid (show (kL.map vw).length = 64 from rfl)
  have HW16 := Lib.hid (fun t => show ((winL blk t).map vw).length = 16 by rw [List.length_map, winL_len])
  clear hv hb
  go_enter Tryd.func144, Tryd.ntmps144
  go_wp2_with (first
    | ((with_reducible refine gDst 22 ?_); refine aLoad H _ rfl rfl HBL.out HBM.out rfl ?_)
    | ((with_reducible refine gSto (.tmp 3) (.tmp 24) ?_); refine aStore H _ _ rfl rfl rfl ⟨rfl, HK64.out⟩ (one_w _) rfl ?_; clear H; intro w' H; try dsimp only at H)
    | ((with_reducible refine gSto (.tmp 2) (.tmp 23) ?_); refine aStore H _ _ rfl rfl rfl ⟨rfl, HW16.out 0⟩ (one_w _) rfl ?_; clear H; intro w' H; try dsimp only at H)
    | ((with_reducible refine gDst 2 ?_); refine aAlloc H rfl rfl ?_; clear H; intro b2 w2 H)
    | ((with_reducible refine gDst 3 ?_); refine aAlloc H rfl rfl ?_; clear H; intro b3 w3 H)
    | ((with_reducible refine gLoad ?_); first | (refine aLoad H _ rfl rfl (by first | exact part_all (by first | rfl | simp []) | (simp only [List.drop_succ_cons, List.drop_zero, List.take_succ_cons, List.take_zero]; rfl) | (simp [List.drop_append, List.take_append]; rfl)) (by first | rfl | simp []) rfl ?_))
    | ((with_reducible refine gStore ?_); (first | (refine aCell H _ _ rfl rfl (by first | exact (rfl : _ = Value.int _ _) | exact (rfl : _ = Value.bool _) | exact (rfl : _ = Value.slice _ _ _) | exact (rfl : _ = Value.string _) | exact (rfl : _ = Value.pointer _) | exact (rfl : _ = Value.func _ _ _) | rfl) (by rfl) (by rfl) (by first | exact of_decide_eq_true rfl | (simp []; done) | (simp []; omega)) (by first | (simp only [List.set_cons_zero, List.set_cons_succ]; rfl) | (simp [List.set_append]; rfl)) rfl ?_) | (refine aStore H _ _ rfl rfl rfl (by (first | exact ⟨rfl, rfl⟩ | exact ⟨by decide, rfl⟩ | (simp []; done) | (constructor <;> simp [] <;> omega))) (by first | rfl | simp [List.all_append, one_all]) rfl ?_) | (refine aLay H _ _ rfl rfl rfl (by (first | exact ⟨rfl, rfl⟩ | exact ⟨by decide, rfl⟩ | (simp []; done) | (constructor <;> simp [] <;> omega))) (by first | rfl | simp [List.all_append, one_all]) (by simp only [lay, List.take_succ_cons, List.take_zero, List.drop_succ_cons, List.drop_zero, List.nil_append, List.cons_append, List.length_cons, List.length_nil, Nat.zero_add, Nat.reduceAdd]; rfl) rfl ?_)); clear H; intro w' H; try dsimp only at H)
    | (go_at_call 159; (with_reducible refine (cL _).mono ?_); rintro e w' ⟨rfl, hb⟩; replace H := H.step hb; clear hb)
    | (go_at_call 160; (with_reducible refine (cK _).mono ?_); rintro e w' ⟨rfl, hb⟩; replace H := H.step hb; clear hb))
  refine startA (fun i => false) (by kernel_rfl) (fun wS hS => ?_)
  replace H := H.drew
  rw [← hS] at H
  have HH := H.hold
  have HS0 : Below wS.heap.size wS wS := Below.refl _ _
  clear hS
  refine takeP 0 rfl (by kernel_rfl) (by kernel_rfl) (by kernel_rfl) (by kernel_rfl) (fun _ _ _ h => h) rfl (v := ?_) ?_ ?_
  rotate_left
  · intro w'; go_simp; (try with_reducible rfl)
  (try simp only [Act.put, List.setIfInBounds_toArray, List.set_cons_zero, List.set_cons_succ])
  refine takeP 1 rfl (by kernel_rfl) (by kernel_rfl) (by kernel_rfl) (by kernel_rfl) (fun _ _ _ h => h) rfl (v := ?_) ?_ ?_
  rotate_left
  · intro w'; go_simp; (try with_reducible rfl)
  (try simp only [Act.put, List.setIfInBounds_toArray, List.set_cons_zero, List.set_cons_succ])
  refine takeP 2 rfl (by kernel_rfl) (by kernel_rfl) (by kernel_rfl) (by kernel_rfl) (fun _ _ _ h => h) rfl (v := ?_) ?_ ?_
  rotate_left
  · intro w'; go_simp; (try with_reducible rfl)
  (try simp only [Act.put, List.setIfInBounds_toArray, List.set_cons_zero, List.set_cons_succ])
  refine takeP 3 rfl (by kernel_rfl) (by kernel_rfl) (by kernel_rfl) (by kernel_rfl) (fun _ _ _ h => h) rfl (v := ?_) ?_ ?_
  rotate_left
  · intro w'; go_simp; (try with_reducible rfl)
  (try simp only [Act.put, List.setIfInBounds_toArray, List.set_cons_zero, List.set_cons_succ])
  refine takeL 4 HS0 rfl (by kernel_rfl) (by kernel_rfl) (by kernel_rfl) (by kernel_rfl) (by kernel_rfl) (fun _ _ _ h => h) rfl (v := ?_) ?_ ?_
  rotate_left
  · intro w' hw'; first | (refine Eq.trans (xLoad1 (HH.below hw') _ rfl rfl (by first | exact (rfl : _ = some (Value.int _ _)) | exact (rfl : _ = some (Value.slice _ _ _)) | exact (rfl : _ = some (Value.bool _)) | exact (rfl : _ = some (Value.string _)) | exact (rfl : _ = some (Value.pointer _)) | rfl | (simp [List.getElem?_append]; done))) ?_; with_reducible rfl) | (refine Eq.trans (xLoadC _ rfl rfl (cell_below hw' (by assumption))) ?_; with_reducible rfl)
  (try simp only [Act.put, List.setIfInBounds_toArray, List.set_cons_zero, List.set_cons_succ])
  refine takeP 5 rfl (by kernel_rfl) (by kernel_rfl) (by kernel_rfl) (by kernel_rfl) (fun _ _ _ h => h) rfl (v := ?_) ?_ ?_
  rotate_left
  · intro w'; go_simp; (try with_reducible rfl)
  (try simp only [Act.put, List.setIfInBounds_toArray, List.set_cons_zero, List.set_cons_succ])
  refine takeP 6 rfl (by kernel_rfl) (by kernel_rfl) (by kernel_rfl) (by kernel_rfl) (fun _ _ _ h => h) rfl (v := ?_) ?_ ?_
  rotate_left
  · intro w'; go_simp; (try with_reducible rfl)
  (try simp only [Act.put, List.setIfInBounds_toArray, List.set_cons_zero, List.set_cons_succ])
  refine takeP 7 rfl (by kernel_rfl) (by kernel_rfl) (by kernel_rfl) (by kernel_rfl) (fun _ _ _ h => h) rfl (v := ?_) ?_ ?_
  rotate_left
  · intro w'; go_simp; (try with_reducible rfl)
  (try simp only [Act.put, List.setIfInBounds_toArray, List.set_cons_zero, List.set_cons_succ])
  refine takeP 8 rfl (by kernel_rfl) (by kernel_rfl) (by kernel_rfl) (by kernel_rfl) (fun _ _ _ h => h) rfl (v := ?_) ?_ ?_
  rotate_left
  · intro w'; go_simp; (try with_reducible rfl)
  (try simp only [Act.put, List.setIfInBounds_toArray, List.set_cons_zero, List.set_cons_succ])
  refine takeL 9 HS0 rfl (by kernel_rfl) (by kernel_rfl) (by kernel_rfl) (by kernel_rfl) (by kernel_rfl) (fun _ _ _ h => h) rfl (v := ?_) ?_ ?_
  rotate_left
  · intro w' hw'; first | (refine Eq.trans (xLoad1 (HH.below hw') _ rfl rfl (by first | exact (rfl : _ = some (Value.int _ _)) | exact (rfl : _ = some (Value.slice _ _ _)) | exact (rfl : _ = some (Value.bool _)) | exact (rfl : _ = some (Value.string _)) | exact (rfl : _ = some (Value.pointer _)) | rfl | (simp [List.getElem?_append]; done))) ?_; with_reducible rfl) | (refine Eq.trans (xLoadC _ rfl rfl (cell_below hw' (by assumption))) ?_; with_reducible rfl)
  (try simp only [Act.put, List.setIfInBounds_toArray, List.set_cons_zero, List.set_cons_succ])
  refine takeP 10 rfl (by kernel_rfl) (by kernel_rfl) (by kernel_rfl) (by kernel_rfl) (fun _ _ _ h => h) rfl (v := ?_) ?_ ?_
  rotate_left
  · intro w'; go_simp; (try with_reducible rfl)
  (try simp only [Act.put, List.setIfInBounds_toArray, List.set_cons_zero, List.set_cons_succ])
  refine takeP 11 rfl (by kernel_rfl) (by kernel_rfl) (by kernel_rfl) (by kernel_rfl) (fun _ _ _ h => h) rfl (v := ?_) ?_ ?_
  rotate_left
  · intro w'; go_simp; (try with_reducible rfl)
  (try simp only [Act.put, List.setIfInBounds_toArray, List.set_cons_zero, List.set_cons_succ])
  refine takeP 12 rfl (by kernel_rfl) (by kernel_rfl) (by kernel_rfl) (by kernel_rfl) (fun _ _ _ h => h) rfl (v := ?_) ?_ ?_
  rotate_left
  · intro w'; go_simp; (try with_reducible rfl)
  (try simp only [Act.put, List.setIfInBounds_toArray, List.set_cons_zero, List.set_cons_succ])
  refine takeP 13 rfl (by kernel_rfl) (by kernel_rfl) (by kernel_rfl) (by kernel_rfl) (fun _ _ _ h => h) rfl (v := ?_) ?_ ?_
  rotate_left
  · intro w'; go_simp; (try with_reducible rfl)
  (try simp only [Act.put, List.setIfInBounds_toArray, List.set_cons_zero, List.set_cons_succ])
  refine takeL 14 HS0 rfl (by kernel_rfl) (by kernel_rfl) (by kernel_rfl) (by kernel_rfl) (by kernel_rfl) (fun _ _ _ h => h) rfl (v := ?_) ?_ ?_
  rotate_left
  · intro w' hw'; first | (refine Eq.trans (xLoad1 (HH.below hw') _ rfl rfl (by first | exact (rfl : _ = some (Value.int _ _)) | exact (rfl : _ = some (Value.slice _ _ _)) | exact (rfl : _ = some (Value.bool _)) | exact (rfl : _ = some (Value.string _)) | exact (rfl : _ = some (Value.pointer _)) | rfl | (simp [List.getElem?_append]; done))) ?_; with_reducible rfl) | (refine Eq.trans (xLoadC _ rfl rfl (cell_below hw' (by assumption))) ?_; with_reducible rfl)
  (try simp only [Act.put, List.setIfInBounds_toArray, List.set_cons_zero, List.set_cons_succ])
  refine takeP 15 rfl (by kernel_rfl) (by kernel_rfl) (by kernel_rfl) (by kernel_rfl) (fun _ _ _ h => h) rfl (v := ?_) ?_ ?_
  rotate_left
  · intro w'; go_simp; (try with_reducible rfl)
  (try simp only [Act.put, List.setIfInBounds_toArray, List.set_cons_zero, List.set_cons_succ])
  refine takeP 16 rfl (by kernel_rfl) (by kernel_rfl) (by kernel_rfl) (by kernel_rfl) (fun _ _ _ h => h) rfl (v := ?_) ?_ ?_
  rotate_left
  · intro w'; go_simp; (try with_reducible rfl)
  (try simp only [Act.put, List.setIfInBounds_toArray, List.set_cons_zero, List.set_cons_succ])
  refine takeP 17 rfl (by kernel_rfl) (by kernel_rfl) (by kernel_rfl) (by kernel_rfl) (fun _ _ _ h => h) rfl (v := ?_) ?_ ?_
  rotate_left
  · intro w'; go_simp; (try with_reducible rfl)
  (try simp only [Act.put, List.setIfInBounds_toArray, List.set_cons_zero, List.set_cons_succ])
  refine takeP 18 rfl (by kernel_rfl) (by kernel_rfl) (by kernel_rfl) (by kernel_rfl) (fun _ _ _ h => h) rfl (v := ?_) ?_ ?_
  rotate_left
  · intro w'; go_simp; (try with_reducible rfl)
  (try simp only [Act.put, List.setIfInBounds_toArray, List.set_cons_zero, List.set_cons_succ])
  refine takeL 19 HS0 rfl (by kernel_rfl) (by kernel_rfl) (by kernel_rfl) (by kernel_rfl) (by kernel_rfl) (fun _ _ _ h => h) rfl (v := ?_) ?_ ?_
  rotate_left
  · intro w' hw'; first | (refine Eq.trans (xLoad1 (HH.below hw') _ rfl rfl (by first | exact (rfl : _ = some (Value.int _ _)) | exact (rfl : _ = some (Value.slice _ _ _)) | exact (rfl : _ = some (Value.bool _)) | exact (rfl : _ = some (Value.string _)) | exact (rfl : _ = some (Value.pointer _)) | rfl | (simp [List.getElem?_append]; done))) ?_; with_reducible rfl) | (refine Eq.trans (xLoadC _ rfl rfl (cell_below hw' (by assumption))) ?_; with_reducible rfl)
  (try simp only [Act.put, List.setIfInBounds_toArray, List.set_cons_zero, List.set_cons_succ])
  refine takeP 20 rfl (by kernel_rfl) (by kernel_rfl) (by kernel_rfl) (by kernel_rfl) (fun _ _ _ h => h) rfl (v := ?_) ?_ ?_
  rotate_left
  · intro w'; go_simp; (try with_reducible rfl)
  (try simp only [Act.put, List.setIfInBounds_toArray, List.set_cons_zero, List.set_cons_succ])
  refine takeP 21 rfl (by kernel_rfl) (by kernel_rfl) (by kernel_rfl) (by kernel_rfl) (fun _ _ _ h => h) rfl (v := ?_) ?_ ?_
  rotate_left
  · intro w'; go_simp; (try with_reducible rfl)
  (try simp only [Act.put, List.setIfInBounds_toArray, List.set_cons_zero, List.set_cons_succ])
  refine takeP 22 rfl (by kernel_rfl) (by kernel_rfl) (by kernel_rfl) (by kernel_rfl) (fun _ _ _ h => h) rfl (v := ?_) ?_ ?_
  rotate_left
  · intro w'; go_simp; (try with_reducible rfl)
  (try simp only [Act.put, List.setIfInBounds_toArray, List.set_cons_zero, List.set_cons_succ])
  refine takeP 23 rfl (by kernel_rfl) (by kernel_rfl) (by kernel_rfl) (by kernel_rfl) (fun _ _ _ h => h) rfl (v := ?_) ?_ ?_
  rotate_left
  · intro w'; go_simp; (try with_reducible rfl)
  (try simp only [Act.put, List.setIfInBounds_toArray, List.set_cons_zero, List.set_cons_succ])
  refine doneL (by kernel_rfl) ?_
  go_wp2
  refine startA (fun i => false) (by kernel_rfl) (fun wS hS => ?_)
  replace H := H.drew
  rw [← hS] at H
  have HH := H.hold
  have HS0 : Below wS.heap.size wS wS := Below.refl _ _
  clear hS
  refine takeP 0 rfl (by kernel_rfl) (by kernel_rfl) (by kernel_rfl) (by kernel_rfl) (fun _ _ _ h => h) rfl (v := ?_) ?_ ?_
  rotate_left
  · intro w'; go_simp; (try with_reducible rfl)
  (try simp only [Act.put, List.setIfInBounds_toArray, List.set_cons_zero, List.set_cons_succ])
  refine takeP 1 rfl (by kernel_rfl) (by kernel_rfl) (by kernel_rfl) (by kernel_rfl) (fun _ _ _ h => h) rfl (v := ?_) ?_ ?_
  rotate_left
  · intro w'; go_simp; (try with_reducible rfl)
  (try simp only [Act.put, List.setIfInBounds_toArray, List.set_cons_zero, List.set_cons_succ])
  refine takeP 2 rfl (by kernel_rfl) (by kernel_rfl) (by kernel_rfl) (by kernel_rfl) (fun _ _ _ h => h) rfl (v := ?_) ?_ ?_
  rotate_left
  · intro w'; go_simp; (try with_reducible rfl)
  (try simp only [Act.put, List.setIfInBounds_toArray, List.set_cons_zero, List.set_cons_succ])
  refine takeP 3 rfl (by kernel_rfl) (by kernel_rfl) (by kernel_rfl) (by kernel_rfl) (fun _ _ _ h => h) rfl (v := ?_) ?_ ?_
  rotate_left
  · intro w'; go_simp; (try with_reducible rfl)
  (try simp only [Act.put, List.setIfInBounds_toArray, List.set_cons_zero, List.set_cons_succ])
  refine takeL 4 HS0 rfl (by kernel_rfl) (by kernel_rfl) (by kernel_rfl) (by kernel_rfl) (by kernel_rfl) (fun _ _ _ h => h) rfl (v := ?_) ?_ ?_
  rotate_left
  · intro w' hw'; first | (refine Eq.trans (xLoad1 (HH.below hw') _ rfl rfl (by first | exact (rfl : _ = some (Value.int _ _)) | exact (rfl : _ = some (Value.slice _ _ _)) | exact (rfl : _ = some (Value.bool _)) | exact (rfl : _ = some (Value.string _)) | exact (rfl : _ = some (Value.pointer _)) | rfl | (simp [List.getElem?_append]; done))) ?_; with_reducible rfl) | (refine Eq.trans (xLoadC _ rfl rfl (cell_below hw' (by assumption))) ?_; with_reducible rfl)
  (try simp only [Act.put, List.setIfInBounds_toArray, List.set_cons_zero, List.set_cons_succ])
  refine takeP 5 rfl (by kernel_rfl) (by kernel_rfl) (by kernel_rfl) (by kernel_rfl) (fun _ _ _ h => h) rfl (v := ?_) ?_ ?_
  rotate_left
  · intro w'; go_simp; (try with_reducible rfl)
  (try simp only [Act.put, List.setIfInBounds_toArray, List.set_cons_zero, List.set_cons_succ])
  refine takeP 6 rfl (by kernel_rfl) (by kernel_rfl) (by kernel_rfl) (by kernel_rfl) (fun _ _ _ h => h) rfl (v := ?_) ?_ ?_
  rotate_left
  · intro w'; go_simp; (try with_reducible rfl)
  (try simp only [Act.put, List.setIfInBounds_toArray, List.set_cons_zero, List.set_cons_succ])
  refine takeP 7 rfl (by kernel_rfl) (by kernel_rfl) (by kernel_rfl) (by kernel_rfl) (fun _ _ _ h => h) rfl (v := ?_) ?_ ?_
  rotate_left
  · intro w'; go_simp; (try with_reducible rfl)
  (try simp only [Act.put, List.setIfInBounds_toArray, List.set_cons_zero, List.set_cons_succ])
  refine takeP 8 rfl (by kernel_rfl) (by kernel_rfl) (by kernel_rfl) (by kernel_rfl) (fun _ _ _ h => h) rfl (v := ?_) ?_ ?_
  rotate_left
  · intro w'; go_simp; (try with_reducible rfl)
  (try simp only [Act.put, List.setIfInBounds_toArray, List.set_cons_zero, List.set_cons_succ])
  refine takeL 9 HS0 rfl (by kernel_rfl) (by kernel_rfl) (by kernel_rfl) (by kernel_rfl) (by kernel_rfl) (fun _ _ _ h => h) rfl (v := ?_) ?_ ?_
  rotate_left
  · intro w' hw'; first | (refine Eq.trans (xLoad1 (HH.below hw') _ rfl rfl (by first | exact (rfl : _ = some (Value.int _ _)) | exact (rfl : _ = some (Value.slice _ _ _)) | exact (rfl : _ = some (Value.bool _)) | exact (rfl : _ = some (Value.string _)) | exact (rfl : _ = some (Value.pointer _)) | rfl | (simp [List.getElem?_append]; done))) ?_; with_reducible rfl) | (refine Eq.trans (xLoadC _ rfl rfl (cell_below hw' (by assumption))) ?_; with_reducible rfl)
  (try simp only [Act.put, List.setIfInBounds_toArray, List.set_cons_zero, List.set_cons_succ])
  refine takeP 10 rfl (by kernel_rfl) (by kernel_rfl) (by kernel_rfl) (by kernel_rfl) (fun _ _ _ h => h) rfl (v := ?_) ?_ ?_
  rotate_left
  · intro w'; go_simp; (try with_reducible rfl)
  (try simp only [Act.put, List.setIfInBounds_toArray, List.set_cons_zero, List.set_cons_succ])
  refine takeP 11 rfl (by kernel_rfl) (by kernel_rfl) (by kernel_rfl) (by kernel_rfl) (fun _ _ _ h => h) rfl (v := ?_) ?_ ?_
  rotate_left
  · intro w'; go_simp; (try with_reducible rfl)
  (try simp only [Act.put, List.setIfInBounds_toArray, List.set_cons_zero, List.set_cons_succ])
  refine takeP 12 rfl (by kernel_rfl) (by kernel_rfl) (by kernel_rfl) (by kernel_rfl) (fun _ _ _ h => h) rfl (v := ?_) ?_ ?_
  rotate_left
  · intro w'; go_simp; (try with_reducible rfl)
  (try simp only [Act.put, List.setIfInBounds_toArray, List.set_cons_zero, List.set_cons_succ])
  refine takeP 13 rfl (by kernel_rfl) (by kernel_rfl) (by kernel_rfl) (by kernel_rfl) (fun _ _ _ h => h) rfl (v := ?_) ?_ ?_
  rotate_left
  · intro w'; go_simp; (try with_reducible rfl)
  (try simp only [Act.put, List.setIfInBounds_toArray, List.set_cons_zero, List.set_cons_succ])
  refine takeL 14 HS0 rfl (by kernel_rfl) (by kernel_rfl) (by kernel_rfl) (by kernel_rfl) (by kernel_rfl) (fun _ _ _ h => h) rfl (v := ?_) ?_ ?_
  rotate_left
  · intro w' hw'; first | (refine Eq.trans (xLoad1 (HH.below hw') _ rfl rfl (by first | exact (rfl : _ = some (Value.int _ _)) | exact (rfl : _ = some (Value.slice _ _ _)) | exact (rfl : _ = some (Value.bool _)) | exact (rfl : _ = some (Value.string _)) | exact (rfl : _ = some (Value.pointer _)) | rfl | (simp [List.getElem?_append]; done))) ?_; with_reducible rfl) | (refine Eq.trans (xLoadC _ rfl rfl (cell_below hw' (by assumption))) ?_; with_reducible rfl)
  (try simp only [Act.put, List.setIfInBounds_toArray, List.set_cons_zero, List.set_cons_succ])
  refine takeP 15 rfl (by kernel_rfl) (by kernel_rfl) (by kernel_rfl) (by kernel_rfl) (fun _ _ _ h => h) rfl (v := ?_) ?_ ?_
  rotate_left
  · intro w'; go_simp; (try with_reducible rfl)
  (try simp only [Act.put, List.setIfInBounds_toArray, List.set_cons_zero, List.set_cons_succ])
  refine takeP 16 rfl (by kernel_rfl) (by kernel_rfl) (by kernel_rfl) (by kernel_rfl) (fun _ _ _ h => h) rfl (v := ?_) ?_ ?_
  rotate_left
  · intro w'; go_simp; (try with_reducible rfl)
  (try simp only [Act.put, List.setIfInBounds_toArray, List.set_cons_zero, List.set_cons_succ])
  refine takeP 17 rfl (by kernel_rfl) (by kernel_rfl) (by kernel_rfl) (by kernel_rfl) (fun _ _ _ h => h) rfl (v := ?_) ?_ ?_
  rotate_left
  · intro w'; go_simp; (try with_reducible rfl)
  (try simp only [Act.put, List.setIfInBounds_toArray, List.set_cons_zero, List.set_cons_succ])
  refine takeP 18 rfl (by kernel_rfl) (by kernel_rfl) (by kernel_rfl) (by kernel_rfl) (fun _ _ _ h => h) rfl (v := ?_) ?_ ?_
  rotate_left
  · intro w'; go_simp; (try with_reducible rfl)
  (try simp only [Act.put, List.setIfInBounds_toArray, List.set_cons_zero, List.set_cons_succ])
  refine takeL 19 HS0 rfl (by kernel_rfl) (by kernel_rfl) (by kernel_rfl) (by kernel_rfl) (by kernel_rfl) (fun _ _ _ h => h) rfl (v := ?_) ?_ ?_
  rotate_left
  · intro w' hw'; first | (refine Eq.trans (xLoad1 (HH.below hw') _ rfl rfl (by first | exact (rfl : _ = some (Value.int _ _)) | exact (rfl : _ = some (Value.slice _ _ _)) | exact (rfl : _ = some (Value.bool _)) | exact (rfl : _ = some (Value.string _)) | exact (rfl : _ = some (Value.pointer _)) | rfl | (simp [List.getElem?_append]; done))) ?_; with_reducible rfl) | (refine Eq.trans (xLoadC _ rfl rfl (cell_below hw' (by assumption))) ?_; with_reducible rfl)
  (try simp only [Act.put, List.setIfInBounds_toArray, List.set_cons_zero, List.set_cons_succ])
  refine takeP 20 rfl (by kernel_rfl) (by kernel_rfl) (by kernel_rfl) (by kernel_rfl) (fun _ _ _ h => h) rfl (v := ?_) ?_ ?_
  rotate_left
  · intro w'; go_simp; (try with_reducible rfl)
  (try simp only [Act.put, List.setIfInBounds_toArray, List.set_cons_zero, List.set_cons_succ])
  refine takeP 21 rfl (by kernel_rfl) (by kernel_rfl) (by kernel_rfl) (by kernel_rfl) (fun _ _ _ h => h) rfl (v := ?_) ?_ ?_
  rotate_left
  · intro w'; go_simp; (try with_reducible rfl)
  (try simp only [Act.put, List.setIfInBounds_toArray, List.set_cons_zero, List.set_cons_succ])
  refine takeP 22 rfl (by kernel_rfl) (by kernel_rfl) (by kernel_rfl) (by kernel_rfl) (fun _ _ _ h => h) rfl (v := ?_) ?_ ?_
  rotate_left
  · intro w'; go_simp; (try with_reducible rfl)
  (try simp only [Act.put, List.setIfInBounds_toArray, List.set_cons_zero, List.set_cons_succ])
  refine takeP 23 rfl (by kernel_rfl) (by kernel_rfl) (by kernel_rfl) (by kernel_rfl) (fun _ _ _ h => h) rfl (v := ?_) ?_ ?_
  rotate_left
  · intro w'; go_simp; (try with_reducible rfl)
  (try simp only [Act.put, List.setIfInBounds_toArray, List.set_cons_zero, List.set_cons_succ])
  refine doneL (by kernel_rfl) ?_
  go_wp2
  go_loopw [4, 5, 6, 7, 8, 9, 10, 11, 65] (fun v4 v5 v6 v7 v8 v9 v10 v11 v65 wr => relT s blk (fun k => k = b) w b b2 b3 held long v4 v5 v6 v7 v8 v9 v10 v11 v65 wr) (fun _ _ _ _ _ _ _ _ v _ => 64 - (intOf v).toNat)
  case atStart => exact ⟨0, s, rfl, by omega, rfl, rfl, rfl, rfl, rfl, rfl, rfl, rfl, rfl, H⟩
  case round =>
    obtain ⟨t, ⟨qa, qb, qc, qd, qe, qf, qg, qh⟩, rfl, ht, HQ, rfl, rfl, rfl, rfl, rfl, rfl, rfl, rfl, HS⟩ := hrel
    clear H
    have H := HS
    clear HS
    by_cases ht64 : t < 64
    · have hti : (t : Int) < 64 := by omega
      have hnext : runT blk s (t + 1) = stepT (runT blk s t) (kT t) (wT blk t) := rfl
      rw [← HQ.out] at hnext
      have hone : oneT ⟨qa, qb, qc, qd, qe, qf, qg, qh⟩ (kT t) (wT blk t) = (((qh + bS1 qe) + chF qe qf qg) + kT t) + wT blk t := rfl
      have htwo : twoT ⟨qa, qb, qc, qd, qe, qf, qg, qh⟩ = bS0 qa + majF qa qb qc := rfl
      rw [stepT, hone, htwo] at hnext
      simp only at hnext
      have cN := fun (W : World) (h : VA W b2 236 ((winL blk t).map vw)) => next_any blk t b2 W h ht64
      have hk := kT_get t ht64
      -- choice, majority
      have x1 := xor32 qf qg
      have x2 := and32 qe (qf ^^^ qg)
      have x3 := xor32 qg (qe &&& (qf ^^^ qg))
      change _ = ((chF qe qf qg).toNat : Int) at x3
      have y1 := and32 qa qb
      have y2 := orW32 qa qb
      have y3 := and32 qc (qa ||| qb)
      have y4 := orW32 (qa &&& qb) (qc &&& (qa ||| qb))
      change _ = ((majF qa qb qc).toNat : Int) at y4
      generalize qe &&& (qf ^^^ qg) = m2 at *
      generalize qf ^^^ qg = m1 at *
      generalize qc &&& (qa ||| qb) = m5 at *
      generalize qa ||| qb = m4 at *
      generalize qa &&& qb = m3 at *
      have cR6 : ∀ W, Calls Tryd.prog 161 #[vw qe, .int .i64 (-6)] W fun e w' => e = .returned (vw (rotr qe 6)) ∧ W = w' := fun W => rot_any qe 6 W (by decide) (by decide)
      have cR11 : ∀ W, Calls Tryd.prog 161 #[vw qe, .int .i64 (-11)] W fun e w' => e = .returned (vw (rotr qe 11)) ∧ W = w' := fun W => rot_any qe 11 W (by decide) (by decide)
      have cR25 : ∀ W, Calls Tryd.prog 161 #[vw qe, .int .i64 (-25)] W fun e w' => e = .returned (vw (rotr qe 25)) ∧ W = w' := fun W => rot_any qe 25 W (by decide) (by decide)
      have cR2 : ∀ W, Calls Tryd.prog 161 #[vw qa, .int .i64 (-2)] W fun e w' => e = .returned (vw (rotr qa 2)) ∧ W = w' := fun W => rot_any qa 2 W (by decide) (by decide)
      have cR13 : ∀ W, Calls Tryd.prog 161 #[vw qa, .int .i64 (-13)] W fun e w' => e = .returned (vw (rotr qa 13)) ∧ W = w' := fun W => rot_any qa 13 W (by decide) (by decide)
      have cR22 : ∀ W, Calls Tryd.prog 161 #[vw qa, .int .i64 (-22)] W fun e w' => e = .returned (vw (rotr qa 22)) ∧ W = w' := fun W => rot_any qa 22 W (by decide) (by decide)
      have s1 := xor32 (rotr qe 6) (rotr qe 11)
      have s2 := xor32 (rotr qe 6 ^^^ rotr qe 11) (rotr qe 25)
      change _ = ((bS1 qe).toNat : Int) at s2
      have s3 := xor32 (rotr qa 2) (rotr qa 13)
      have s4 := xor32 (rotr qa 2 ^^^ rotr qa 13) (rotr qa 22)
      change _ = ((bS0 qa).toNat : Int) at s4
      generalize rotr qe 6 ^^^ rotr qe 11 = m6 at *
      generalize rotr qa 2 ^^^ rotr qa 13 = m7 at *
      generalize rotr qe 6 = r6 at *
      generalize rotr qe 11 = r11 at *
      generalize rotr qe 25 = r25 at *
      generalize rotr qa 2 = r2 at *
      generalize rotr qa 13 = r13 at *
      generalize rotr qa 22 = r22 at *
      have a1 := add32 qh (bS1 qe)
      have a2 := add32 (qh + bS1 qe) (chF qe qf qg)
      have a3 := add32 (qh + bS1 qe + chF qe qf qg) (kT t)
      have a4 := add32 (qh + bS1 qe + chF qe qf qg + kT t) (wT blk t)
      have a5 := add32 (bS0 qa) (majF qa qb qc)
      generalize chF qe qf qg = gch at *
      generalize majF qa qb qc = gmj at *
      generalize bS1 qe = gs1 at *
      generalize bS0 qa = gs0 at *
      generalize kT t = gk at *
      generalize wT blk t = gw at *
      generalize qh + gs1 + gch + gk + gw = z4 at *
      generalize qh + gs1 + gch + gk = z3 at *
      generalize qh + gs1 + gch = z2 at *
      generalize qh + gs1 = z1 at *
      generalize gs0 + gmj = z5 at *
      have a6 := add32 z4 z5
      have a7 := add32 qd z4
      have HN := Lib.hid hnext
      have HKT := Lib.hid hk
      have htb : (t : Int) ≤ 64 := by omega
      clear hnext hone htwo hk
      go_wp2
      have H0 := H.drew
      have HS0 : wr.drew.cell? ⟨b3, t, none⟩ = some (vw gk) := ((H0.hold.va (b := b3)).cell t).trans HKT.out
      clear H
      refine startS (fun w' => w'.cell? ⟨b3, t, none⟩ = some (vw gk)) (by kernel_rfl) HS0 ?_
      refine takeS 0 HS0 rfl (by kernel_rfl) (by kernel_rfl) (by kernel_rfl) (fun _ _ _ h => h) rfl (v := ?_) ?_ ?_
      rotate_left
      · intro w' hw'; clear hw'; go_simp; (try with_reducible rfl)
      (try simp only [Act.put, List.setIfInBounds_toArray, List.set_cons_zero, List.set_cons_succ])
      refine takeS 1 HS0 rfl (by kernel_rfl) (by kernel_rfl) (by kernel_rfl) (fun _ _ _ h => h) rfl (v := ?_) ?_ ?_
      rotate_left
      · intro w' hw'; clear hw'; go_simp; (try with_reducible rfl)
      (try simp only [Act.put, List.setIfInBounds_toArray, List.set_cons_zero, List.set_cons_succ])
      refine takeS 3 HS0 rfl (by kernel_rfl) (by kernel_rfl) (by kernel_rfl) (fun _ _ _ h => h) rfl (v := ?_) ?_ ?_
      rotate_left
      · intro w' hw'; clear hw'; go_simp; (try with_reducible rfl)
      (try simp only [Act.put, List.setIfInBounds_toArray, List.set_cons_zero, List.set_cons_succ])
      refine takeS 6 HS0 rfl (by kernel_rfl) (by kernel_rfl) (by kernel_rfl) (fun _ _ _ h => h) rfl (v := ?_) ?_ ?_
      rotate_left
      · intro w' hw'; clear hw'; go_simp; (try with_reducible rfl)
      (try simp only [Act.put, List.setIfInBounds_toArray, List.set_cons_zero, List.set_cons_succ])
      refine takeS 10 HS0 rfl (by kernel_rfl) (by kernel_rfl) (by kernel_rfl) (fun _ _ _ h => h) rfl (v := ?_) ?_ ?_
      rotate_left
      · intro w' hw'; clear hw'; go_simp; (try with_reducible rfl)
      (try simp only [Act.put, List.setIfInBounds_toArray, List.set_cons_zero, List.set_cons_succ])
      refine takeS 12 HS0 rfl (by kernel_rfl) (by kernel_rfl) (by kernel_rfl) (fun _ _ _ h => h) rfl (v := ?_) ?_ ?_
      rotate_left
      · intro w' hw'; clear hw'; go_simp; (try with_reducible rfl)
      (try simp only [Act.put, List.setIfInBounds_toArray, List.set_cons_zero, List.set_cons_succ])
      refine takeS 13 HS0 rfl (by kernel_rfl) (by kernel_rfl) (by kernel_rfl) (fun _ _ _ h => h) rfl (v := ?_) ?_ ?_
      rotate_left
      · intro w' hw'; clear hw'; go_simp; (try with_reducible rfl)
      (try simp only [Act.put, List.setIfInBounds_toArray, List.set_cons_zero, List.set_cons_succ])
      refine takeS 14 HS0 rfl (by kernel_rfl) (by kernel_rfl) (by kernel_rfl) (fun _ _ _ h => h) rfl (v := ?_) ?_ ?_
      rotate_left
      · intro w' hw'; refine Eq.trans (xLoadC _ rfl rfl hw') ?_; with_reducible rfl
      (try simp only [Act.put, List.setIfInBounds_toArray, List.set_cons_zero, List.set_cons_succ])
      refine takeS 16 HS0 rfl (by kernel_rfl) (by kernel_rfl) (by kernel_rfl) (fun _ _ _ h => h) rfl (v := ?_) ?_ ?_
      rotate_left
      · intro w' hw'; clear hw'; go_simp; (try with_reducible rfl)
      (try simp only [Act.put, List.setIfInBounds_toArray, List.set_cons_zero, List.set_cons_succ])
      refine stepS' 2 rfl (by kernel_rfl) rfl (fun K hK => ?_)
      (go_simp; (with_reducible refine (cR6 _).mono ?_); rintro e w' ⟨rfl, rfl⟩; refine hK.out _ _ HS0 ?_; clear K hK)
      (try simp only [Act.put, List.setIfInBounds_toArray, List.set_cons_zero, List.set_cons_succ])
      refine stepS' 4 rfl (by kernel_rfl) rfl (fun K hK => ?_)
      (go_simp; (with_reducible refine (cR11 _).mono ?_); rintro e w' ⟨rfl, rfl⟩; refine hK.out _ _ HS0 ?_; clear K hK)
      (try simp only [Act.put, List.setIfInBounds_toArray, List.set_cons_zero, List.set_cons_succ])
      refine takeS 5 HS0 rfl (by kernel_rfl) (by kernel_rfl) (by kernel_rfl) (fun _ _ _ h => h) rfl (v := ?_) ?_ ?_
      rotate_left
      · intro w' hw'; clear hw'; go_simp; (try with_reducible rfl)
      (try simp only [Act.put, List.setIfInBounds_toArray, List.set_cons_zero, List.set_cons_succ])
      refine stepS' 7 rfl (by kernel_rfl) rfl (fun K hK => ?_)
      (go_simp; (with_reducible refine (cR25 _).mono ?_); rintro e w' ⟨rfl, rfl⟩; refine hK.out _ _ HS0 ?_; clear K hK)
      (try simp only [Act.put, List.setIfInBounds_toArray, List.set_cons_zero, List.set_cons_succ])
      refine takeS 8 HS0 rfl (by kernel_rfl) (by kernel_rfl) (by kernel_rfl) (fun _ _ _ h => h) rfl (v := ?_) ?_ ?_
      rotate_left
      · intro w' hw'; clear hw'; go_simp; (try with_reducible rfl)
      (try simp only [Act.put, List.setIfInBounds_toArray, List.set_cons_zero, List.set_cons_succ])
      refine takeS 9 HS0 rfl (by kernel_rfl) (by kernel_rfl) (by kernel_rfl) (fun _ _ _ h => h) rfl (v := ?_) ?_ ?_
      rotate_left
      · intro w' hw'; clear hw'; go_simp; (try with_reducible rfl)
      (try simp only [Act.put, List.setIfInBounds_toArray, List.set_cons_zero, List.set_cons_succ])
      refine takeS 11 HS0 rfl (by kernel_rfl) (by kernel_rfl) (by kernel_rfl) (fun _ _ _ h => h) rfl (v := ?_) ?_ ?_
      rotate_left
      · intro w' hw'; clear hw'; go_simp; (try with_reducible rfl)
      (try simp only [Act.put, List.setIfInBounds_toArray, List.set_cons_zero, List.set_cons_succ])
      refine takeS 15 HS0 rfl (by kernel_rfl) (by kernel_rfl) (by kernel_rfl) (fun _ _ _ h => h) rfl (v := ?_) ?_ ?_
      rotate_left
      · intro w' hw'; clear hw'; go_simp; (try with_reducible rfl)
      (try simp only [Act.put, List.setIfInBounds_toArray, List.set_cons_zero, List.set_cons_succ])
      refine stepS' 17 rfl (by kernel_rfl) rfl (fun K hK => ?_)
      (go_simp; (with_reducible refine (cN _ H0.hold.va).mono ?_); rintro e w' ⟨rfl, k⟩; have H := SH.viaB H0 k; (try dsimp only at H); clear H0 k; have HS1 : w'.cell? ⟨b3, t, none⟩ = some (vw gk) := ((H.hold.va (b := b3)).cell t).trans HKT.out; refine hK.out _ _ HS1 ?_; clear K hK HS0; have HS0 := HS1; clear HS1)
      (try simp only [Act.put, List.setIfInBounds_toArray, List.set_cons_zero, List.set_cons_succ])
      refine takeS 18 HS0 rfl (by kernel_rfl) (by kernel_rfl) (by kernel_rfl) (fun _ _ _ h => h) rfl (v := ?_) ?_ ?_
      rotate_left
      · intro w' hw'; clear hw'; go_simp; (try with_reducible rfl)
      (try simp only [Act.put, List.setIfInBounds_toArray, List.set_cons_zero, List.set_cons_succ])
      refine takeS 19 HS0 rfl (by kernel_rfl) (by kernel_rfl) (by kernel_rfl) (fun _ _ _ h => h) rfl (v := ?_) ?_ ?_
      rotate_left
      · intro w' hw'; clear hw'; go_simp; (try with_reducible rfl)
      (try simp only [Act.put, List.setIfInBounds_toArray, List.set_cons_zero, List.set_cons_succ])
      refine doneS (by kernel_rfl) ?_
      go_wp2_with (first
        | (go_at_call 161; (with_reducible refine (cR2 _).mono ?_); rintro e w' ⟨rfl, rfl⟩)
        | (go_at_call 161; (with_reducible refine (cR13 _).mono ?_); rintro e w' ⟨rfl, rfl⟩)
        | (go_at_call 161; (with_reducible refine (cR22 _).mono ?_); rintro e w' ⟨rfl, rfl⟩))
      go_roundw
      case rel => first | exact ⟨t + 1, _, by go_num, by omega, HN.out.symm, rfl, rfl, rfl, rfl, rfl, rfl, rfl, rfl, H⟩ | exact ⟨_, ⟨t + 1, _, by go_num, by omega, HN.out.symm, rfl, rfl, rfl, rfl, rfl, rfl, rfl, rfl, H⟩, rfl⟩ | exact ⟨_, _, ⟨t + 1, _, by go_num, by omega, HN.out.symm, rfl, rfl, rfl, rfl, rfl, rfl, rfl, rfl, H⟩, rfl, rfl⟩ | exact ⟨_, _, _, ⟨t + 1, _, by go_num, by omega, HN.out.symm, rfl, rfl, rfl, rfl, rfl, rfl, rfl, rfl, H⟩, rfl, rfl, rfl⟩ | exact ⟨_, _, _, _, ⟨t + 1, _, by go_num, by omega, HN.out.symm, rfl, rfl, rfl, rfl, rfl, rfl, rfl, rfl, H⟩, rfl, rfl, rfl, rfl⟩ | exact ⟨_, _, _, _, _, ⟨t + 1, _, by go_num, by omega, HN.out.symm, rfl, rfl, rfl, rfl, rfl, rfl, rfl, rfl, H⟩, rfl, rfl, rfl, rfl, rfl⟩ | ((repeat (apply Exists.intro)); exact ⟨⟨t + 1, _, by go_num, by omega, HN.out.symm, rfl, rfl, rfl, rfl, rfl, rfl, rfl, rfl, H⟩, rfl⟩)
      case measure => simp [intOf] <;> omega
    · obtain rfl : t = 64 := by omega
      go_wp2_with (first
        | ((with_reducible refine gDst 134 ?_); refine aBuildC _ _ rfl ((S8.list ⟨qa, qb, qc, qd, qe, qf, qg, qh⟩).map vw) rfl rfl ?_))
      go_loopw [135] (fun v135 wr => relT2 s ⟨qa, qb, qc, qd, qe, qf, qg, qh⟩ blk (fun k => k = b) w b b2 b3 held long v135 wr) (fun v _ => 8 - (intOf v).toNat)
      case atStart => exact ⟨0, rfl, by omega, H⟩
      case round =>
        obtain ⟨i, rfl, hi, HS⟩ := hrel
        clear H
        have H := HS
        clear HS
        by_cases hi8 : i < 8
        · have hii : (i : Int) < 8 := by omega
          obtain ⟨m1, m2⟩ := mixC_step s ⟨qa, qb, qc, qd, qe, qf, qg, qh⟩ blk held long i hi8
          have hml := mixC_len s ⟨qa, qb, qc, qd, qe, qf, qg, qh⟩ blk held long i (by omega)
          have hc := ((H.hold.va (b := b)).cell i).trans m1
          have a1 := add32 (s.list.getD i 0) ((S8.list ⟨qa, qb, qc, qd, qe, qf, qg, qh⟩).getD i 0)
          generalize hqx : (S8.list ⟨qa, qb, qc, qd, qe, qf, qg, qh⟩).getD i 0 = x at *
          generalize s.list.getD i 0 = y at *
          generalize y + x = z at *
          have HM2 := Lib.hid m2
          have HML := Lib.hid hml
          have HQX := Lib.hid hqx
          clear m1 m2 hml hqx
          go_wp2_with (first
            | ((with_reducible refine gDst 138 ?_); refine stepV (v := vw x) (by rw [← HQX.out]; exact xIndexW 201 Tryd.underlying201 _ _ rfl (S8.list ⟨qa, qb, qc, qd, qe, qf, qg, qh⟩) rfl rfl i rfl hi8) rfl ?_))
          refine startA (fun i => i == 11) (by kernel_rfl) (fun wS hS => ?_)
          replace H := H.drew
          rw [← hS] at H
          have HH := H.hold
          have HS0 : Below wS.heap.size wS wS := Below.refl _ _
          replace hc := cellS hS hc
          clear hS
          refine takeP 0 rfl (by kernel_rfl) (by kernel_rfl) (by kernel_rfl) (by kernel_rfl) (fun _ _ _ h => h) rfl (v := ?_) ?_ ?_
          rotate_left
          · intro w'; go_simp; (try with_reducible rfl)
          (try simp only [Act.put, List.setIfInBounds_toArray, List.set_cons_zero, List.set_cons_succ])
          refine takeP 1 rfl (by kernel_rfl) (by kernel_rfl) (by kernel_rfl) (by kernel_rfl) (fun _ _ _ h => h) rfl (v := ?_) ?_ ?_
          rotate_left
          · intro w'; go_simp; (try with_reducible rfl)
          (try simp only [Act.put, List.setIfInBounds_toArray, List.set_cons_zero, List.set_cons_succ])
          refine takeP 2 rfl (by kernel_rfl) (by kernel_rfl) (by kernel_rfl) (by kernel_rfl) (fun _ _ _ h => h) rfl (v := ?_) ?_ ?_
          rotate_left
          · intro w'; go_simp; (try with_reducible rfl)
          (try simp only [Act.put, List.setIfInBounds_toArray, List.set_cons_zero, List.set_cons_succ])
          refine takeP 3 rfl (by kernel_rfl) (by kernel_rfl) (by kernel_rfl) (by kernel_rfl) (fun _ _ _ h => h) rfl (v := ?_) ?_ ?_
          rotate_left
          · intro w'; go_simp; (try with_reducible rfl)
          (try simp only [Act.put, List.setIfInBounds_toArray, List.set_cons_zero, List.set_cons_succ])
          refine takeP 4 rfl (by kernel_rfl) (by kernel_rfl) (by kernel_rfl) (by kernel_rfl) (fun _ _ _ h => h) rfl (v := ?_) ?_ ?_
          rotate_left
          · intro w'; go_simp; (try with_reducible rfl)
          (try simp only [Act.put, List.setIfInBounds_toArray, List.set_cons_zero, List.set_cons_succ])
          refine takeL 5 HS0 rfl (by kernel_rfl) (by kernel_rfl) (by kernel_rfl) (by kernel_rfl) (by kernel_rfl) (fun _ _ _ h => h) rfl (v := ?_) ?_ ?_
          rotate_left
          · intro w' hw'; first | (refine Eq.trans (xLoad1 (HH.below hw') _ rfl rfl (by first | exact (rfl : _ = some (Value.int _ _)) | exact (rfl : _ = some (Value.slice _ _ _)) | exact (rfl : _ = some (Value.bool _)) | exact (rfl : _ = some (Value.string _)) | exact (rfl : _ = some (Value.pointer _)) | rfl | (simp [List.getElem?_append]; done))) ?_; with_reducible rfl) | (refine Eq.trans (xLoadC _ rfl rfl (cell_below hw' (by assumption))) ?_; with_reducible rfl)
          (try simp only [Act.put, List.setIfInBounds_toArray, List.set_cons_zero, List.set_cons_succ])
          refine takeP 6 rfl (by kernel_rfl) (by kernel_rfl) (by kernel_rfl) (by kernel_rfl) (fun _ _ _ h => h) rfl (v := ?_) ?_ ?_
          rotate_left
          · intro w'; go_simp; (try with_reducible rfl)
          (try simp only [Act.put, List.setIfInBounds_toArray, List.set_cons_zero, List.set_cons_succ])
          refine takeP 7 rfl (by kernel_rfl) (by kernel_rfl) (by kernel_rfl) (by kernel_rfl) (fun _ _ _ h => h) rfl (v := ?_) ?_ ?_
          rotate_left
          · intro w'; go_simp; (try with_reducible rfl)
          (try simp only [Act.put, List.setIfInBounds_toArray, List.set_cons_zero, List.set_cons_succ])
          refine takeP 8 rfl (by kernel_rfl) (by kernel_rfl) (by kernel_rfl) (by kernel_rfl) (fun _ _ _ h => h) rfl (v := ?_) ?_ ?_
          rotate_left
          · intro w'; go_simp; (try with_reducible rfl)
          (try simp only [Act.put, List.setIfInBounds_toArray, List.set_cons_zero, List.set_cons_succ])
          refine takeP 9 rfl (by kernel_rfl) (by kernel_rfl) (by kernel_rfl) (by kernel_rfl) (fun _ _ _ h => h) rfl (v := ?_) ?_ ?_
          rotate_left
          · intro w'; go_simp; (try with_reducible rfl)
          (try simp only [Act.put, List.setIfInBounds_toArray, List.set_cons_zero, List.set_cons_succ])
          refine takeP 10 rfl (by kernel_rfl) (by kernel_rfl) (by kernel_rfl) (by kernel_rfl) (fun _ _ _ h => h) rfl (v := ?_) ?_ ?_
          rotate_left
          · intro w'; go_simp; (try with_reducible rfl)
          (try simp only [Act.put, List.setIfInBounds_toArray, List.set_cons_zero, List.set_cons_succ])
          refine stepL 11 rfl (by kernel_rfl) rfl (fun K hK => ?_)
          (refine oCellA (v := vw z) (new := mixC s ⟨qa, qb, qc, qd, qe, qf, qg, qh⟩ blk held long (i + 1)) H _ _ rfl rfl rfl rfl rfl (by have := HML.out; omega) HM2.out ?_; clear H; intro w' H; (try dsimp only at H); refine hK.out _ _ (fun h => by cases h) ?_; clear K hK HS0)
          (try simp only [Act.put, List.setIfInBounds_toArray, List.set_cons_zero, List.set_cons_succ])
          refine doneL (by kernel_rfl) ?_
          go_wp2
          go_roundw
          case rel => first | exact ⟨i + 1, by go_num, by omega, H⟩ | exact ⟨_, ⟨i + 1, by go_num, by omega, H⟩, rfl⟩ | exact ⟨_, _, ⟨i + 1, by go_num, by omega, H⟩, rfl, rfl⟩ | exact ⟨_, _, _, ⟨i + 1, by go_num, by omega, H⟩, rfl, rfl, rfl⟩ | exact ⟨_, _, _, _, ⟨i + 1, by go_num, by omega, H⟩, rfl, rfl, rfl, rfl⟩ | exact ⟨_, _, _, _, _, ⟨i + 1, by go_num, by omega, H⟩, rfl, rfl, rfl, rfl, rfl⟩ | ((repeat (apply Exists.intro)); exact ⟨⟨i + 1, by go_num, by omega, H⟩, rfl⟩)
          case measure => simp [intOf] <;> omega
        · obtain rfl : i = 8 := by omega
          have hcomp : mixC s ⟨qa, qb, qc, qd, qe, qf, qg, qh⟩ blk held long 8 = hashC (compB s blk) blk held long := by rw [compB, ← HQ.out]; rfl
          rw [hcomp] at H
          go_wp2_with (first
            | ((with_reducible refine gStore ?_); refine aCell (v := .int .i64 0) (new := hashC (compB s blk) blk 0 long) H _ _ rfl rfl rfl rfl rfl (by rw [hashC_len _ _ HB.out]; omega) (hashC_setHeld _ _ HB.out held long 0) rfl ?_; clear H; intro w' H; (try dsimp only at H)))
          go_end0
          exact ⟨rfl, H.tail.tail⟩
end Go.Proofs.YticfcelbnkiopaaDoor
