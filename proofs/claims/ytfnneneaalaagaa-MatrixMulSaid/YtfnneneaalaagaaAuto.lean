/- Steps of a walk that find their block by themselves: things of a list, sought by classes. -/
import Derived.Test.YtfnneneaalaagaaSep3
import Derived.Test.YtfnneneaalaagaaAggB
namespace Go.Proofs.Ytfnneneaalaagaa
open Go.RowKit
variable {P : Program} {α : Type}

/-- The things of a list hold. -/
def HOLD (L : List Own) (w : World) : Prop := ∀ o ∈ L, o.holds w
theorem HOLD.tail {o : Own} {L : List Own} {w : World} (h : HOLD (o :: L) w) : HOLD L w := fun o' h' => h o' (List.mem_cons_of_mem _ h')
theorem SH.hold {F : Nat → Prop} {w0 w : World} {L : List Own} (h : SH F w0 w L) : HOLD L w := h.holds
theorem HOLD.below {L : List Own} {w w' : World} (h : HOLD L w) (hb : Below w.heap.size w w') : HOLD L w' := fun o ho => o.keep w w' (h o ho) hb.size (fun b hf => hb.block b (o.lt w b (h o ho) hf))
theorem HOLD.drew {L : List Own} {w : World} (h : HOLD L w) : HOLD L w.drew := fun o ho => o.keep w w.drew (h o ho) (Nat.le_refl _) (fun _ _ => rfl)

/-- Block b stands in the list. -/
class HasB (L : List Own) (b : Nat) (t : outParam TypeId) (cs : outParam (List Value)) (put : outParam (List Value → List Own)) : Prop where
  ix : ∃ i, L[i]? = some (.blk b t cs) ∧ ∀ new, L.set i (.blk b t new) = put new
instance HasB.here {L : List Own} {b : Nat} {t : TypeId} {cs : List Value} : HasB (.blk b t cs :: L) b t cs (fun new => .blk b t new :: L) := ⟨0, rfl, fun _ => rfl⟩
instance (priority := low) HasB.there {o : Own} {L : List Own} {b : Nat} {t : TypeId} {cs : List Value} {put : List Value → List Own} [h : HasB L b t cs put] : HasB (o :: L) b t cs (fun new => o :: put new) := by
  obtain ⟨i, h1, h2⟩ := h.ix
  exact ⟨i + 1, by simpa using h1, fun new => by rw [List.set_cons_succ, h2]⟩
/-- Row v stands in the list. -/
class HasR (L : List Own) (v : Value) (α : outParam Type) (T : outParam (Ty α)) (xs : outParam (List α)) (put : outParam (Value → List α → List Own)) : Prop where
  ix : ∃ i, L[i]? = some (.row T v xs) ∧ ∀ v' ys, L.set i (.row T v' ys) = put v' ys
instance HasR.here {L : List Own} {v : Value} {T : Ty α} {xs : List α} : HasR (.row T v xs :: L) v α T xs (fun v' ys => .row T v' ys :: L) := ⟨0, rfl, fun _ _ => rfl⟩
instance (priority := low) HasR.there {o : Own} {L : List Own} {v : Value} {T : Ty α} {xs : List α} {put : Value → List α → List Own} [h : HasR L v α T xs put] : HasR (o :: L) v α T xs (fun v' ys => o :: put v' ys) := by
  obtain ⟨i, h1, h2⟩ := h.ix
  exact ⟨i + 1, by simpa using h1, fun v' ys => by rw [List.set_cons_succ, h2]⟩
theorem HOLD.va {L : List Own} {w : World} {b : Nat} {t : TypeId} {cs : List Value} {put : List Value → List Own} (h : HOLD L w) [hb : HasB L b t cs put] : VA w b t cs := by
  obtain ⟨i, h1, _⟩ := hb.ix
  exact h _ (List.mem_of_getElem? h1)
theorem HOLD.or {L : List Own} {w : World} {v : Value} {T : Ty α} {xs : List α} {put : Value → List α → List Own} (h : HOLD L w) [hr : HasR L v α T xs put] : OR T w 0 v xs := by
  obtain ⟨i, h1, _⟩ := hr.ix
  exact h _ (List.mem_of_getElem? h1)
theorem HOLD.rr {L : List Own} {w : World} (v : Value) {T : Ty α} {xs : List α} {put : Value → List α → List Own} (h : HOLD L w) [HasR L v α T xs put] : RR T w v xs := h.or.reads
theorem SH.ow {w0 w : World} {L : List Own} (v : Value) {T : Ty α} {xs : List α} {put : Value → List α → List Own} (h : SH Nil w0 w L) [hr : HasR L v α T xs put] : OR T w w0.heap.size v xs := by
  obtain ⟨i, h1, _⟩ := hr.ix
  exact h.orow i h1

/-- What a type of several cells is. -/
class TI (P : Program) (t : TypeId) (n : outParam Nat) (zero : outParam (List Value)) : Prop where
  under : ∃ d, P.underlying t = some d ∧ d.isRow = true
  size : (P.info? t).map (·.size) = some n
  zinfo : (P.info? t).map (·.zero) = some (some (.agg zero.toArray))
  zbuilt : P.built t [] = some zero.toArray
  zlen : zero.length = n
/-- What a type of one cell is. -/
class TS (P : Program) (t : TypeId) (z : outParam Value) : Prop where
  under : ∃ d, P.underlying t = some d ∧ d.isRow = false
  size : (P.info? t).map (·.size) = some 1
  zinfo : (P.info? t).map (·.zero) = some (some z)
  cells : z.cells = [z].toArray

section
variable {ops : Array Oper} {rest : List Oper} {o : Oper} {a : Act} {Q : Exit → Act → World → Prop} {F : Nat → Prop} {w0 w : World} {L : List Own} {ρ : Operand → Value}
variable {b off n : Nat} {t t2 : TypeId} {cs vs new z : List Value} {v zv : Value} {put : List Value → List Own} {y p : Operand}

theorem xLoad (h : HOLD L w) (y : Operand) (ho : o.op = .load t y) (hx : ρ y = .pointer (some ⟨b, off, none⟩)) [HasB L b t2 cs put] [T : TI P t n z] (hp : (cs.drop off).take n = vs) (hl : vs.length = n) : (execOp ρ o).run P w = .ok (.value (.agg vs.toArray)) w := by
  obtain ⟨d, h1, h2⟩ := T.under
  exact exec_load t y ho b off hx vs d (h.va.range off vs (by rw [hl]; exact hp)) h1 h2 (by rw [hl]; exact T.size)
theorem run_loadVar1 {P : Program} {w : World} {ad : Addr} {t : TypeId} {v z : Value} (hc : w.cell? ad = some v) [T : TS P t z] : (loadVar t ad).run P w = .ok v w := by
  obtain ⟨d, h1, h2⟩ := T.under
  have hagg : (isAgg t).run P w = .ok false w := by
    unfold isAgg
    rw [Sem.run_bind, run_underlying h1 w]
    cases d <;> simp_all [TypeDesc.isRow]
  simp [loadVar, Sem.run_bind, hagg, hc]
theorem xLoadC (y : Operand) (ho : o.op = .load t y) {ad : Addr} (hx : ρ y = .pointer (some ad)) [TS P t zv] (hc : w.cell? ad = some v) : (execOp ρ o).run P w = .ok (.value v) w := by
  unfold execOp
  simp only [ho, hx, Instr.loadAt, Instr.sureAddr, Sem.run_bind, Sem.run_pure, Result.andThen_ok, run_loadVar1 (P := P) (t := t) hc]
theorem xLoad1 (h : HOLD L w) (y : Operand) (ho : o.op = .load t y) (hx : ρ y = .pointer (some ⟨b, off, none⟩)) [HasB L b t2 cs put] [TS P t zv] (hc : cs[off]? = some v) : (execOp ρ o).run P w = .ok (.value v) w :=
  xLoadC y ho hx (h.va.cell off |>.trans hc)

theorem gDst (k : Nat) {op : Op} {ty : TypeId} {q : String} {af : Array Edge} {gd : Option (Nat × Bool)} (h : wpList P ops Q (⟨some k, op, ty, q, af, gd⟩ :: rest) a w) : wpList P ops Q (⟨some k, op, ty, q, af, gd⟩ :: rest) a w := h
theorem gSto (p y : Operand) {t : TypeId} {d : Option Tmp} {ty : TypeId} {q : String} {af : Array Edge} {gd : Option (Nat × Bool)} (h : wpList P ops Q (⟨d, .store t p y, ty, q, af, gd⟩ :: rest) a w) : wpList P ops Q (⟨d, .store t p y, ty, q, af, gd⟩ :: rest) a w := h

theorem aBox (H : SH F w0 w L) (y : Operand) (ho : o.op = .box t y) (hx : a.eval y = .agg cs.toArray) (hw : Region.wanted o (yielded ops a.tmps) = true)
    (h : ∀ b w', SH F w0 w' (.blk b t cs :: L) → wpList P ops Q rest (a.put o.dst (.pointer (some ⟨b, 0, none⟩))) w') : wpList P ops Q (o :: rest) a w :=
  stepV (exec_box t y ho cs hx) hw (h _ _ (H.new _ _))
theorem aBox1 (H : SH F w0 w L) (y : Operand) (ho : o.op = .box t y) (hx : a.eval y = v) (hc : v.cells = [v].toArray) (hw : Region.wanted o (yielded ops a.tmps) = true)
    (h : ∀ b w', SH F w0 w' (.blk b t [v] :: L) → wpList P ops Q rest (a.put o.dst (.pointer (some ⟨b, 0, none⟩))) w') : wpList P ops Q (o :: rest) a w := by
  refine stepV (w' := w.alloc (.cells v.cells t)) ?_ hw (h _ _ (by rw [hc]; exact H.new t [v]))
  unfold execOp
  simp only [ho, hx]
  rfl
theorem aAlloc (H : SH F w0 w L) (ho : o.op = .alloc t) [T : TI P t n z] (hw : Region.wanted o (yielded ops a.tmps) = true)
    (h : ∀ b w', SH F w0 w' (.blk b t z :: L) → wpList P ops Q rest (a.put o.dst (.pointer (some ⟨b, 0, none⟩))) w') : wpList P ops Q (o :: rest) a w :=
  stepV (exec_alloc t ho _ z T.zinfo rfl) hw (h _ _ (H.new _ _))
theorem aAlloc1 (H : SH F w0 w L) (ho : o.op = .alloc t) [T : TS P t zv] (hw : Region.wanted o (yielded ops a.tmps) = true)
    (h : ∀ b w', SH F w0 w' (.blk b t [zv] :: L) → wpList P ops Q rest (a.put o.dst (.pointer (some ⟨b, 0, none⟩))) w') : wpList P ops Q (o :: rest) a w :=
  stepV (exec_alloc t ho zv [zv] T.zinfo T.cells) hw (h _ _ (H.new _ _))
theorem aZero (ho : o.op = .build t #[]) [T : TI P t n z] (hw : Region.wanted o (yielded ops a.tmps) = true) (h : wpList P ops Q rest (a.put o.dst (.agg z.toArray)) w) : wpList P ops Q (o :: rest) a w :=
  stepV (exec_zero t ho _ T.zbuilt) hw h
theorem aLoad (H : SH F w0 w L) (y : Operand) (ho : o.op = .load t y) (hx : a.eval y = .pointer (some ⟨b, off, none⟩)) [HasB L b t2 cs put] [TI P t n z] (hp : (cs.drop off).take n = vs) (hl : vs.length = n) (hw : Region.wanted o (yielded ops a.tmps) = true)
    (h : wpList P ops Q rest (a.put o.dst (.agg vs.toArray)) w) : wpList P ops Q (o :: rest) a w :=
  stepV (xLoad H.hold y ho hx hp hl) hw h
theorem aLoad1 (H : SH F w0 w L) (y : Operand) (ho : o.op = .load t y) (hx : a.eval y = .pointer (some ⟨b, off, none⟩)) [HasB L b t2 cs put] [TS P t zv] (hc : cs[off]? = some v) (hw : Region.wanted o (yielded ops a.tmps) = true)
    (h : wpList P ops Q rest (a.put o.dst v) w) : wpList P ops Q (o :: rest) a w :=
  stepV (xLoad1 H.hold y ho hx hc) hw h
/-- An element that is read: its cell is told. -/
theorem aLoadC (y : Operand) (ho : o.op = .load t y) {ad : Addr} (hx : a.eval y = .pointer (some ad)) [TS P t zv] (hc : w.cell? ad = some v) (hw : Region.wanted o (yielded ops a.tmps) = true)
    (h : wpList P ops Q rest (a.put o.dst v) w) : wpList P ops Q (o :: rest) a w :=
  stepV (xLoadC y ho hx hc) hw h
theorem xLay (H : SH F w0 w L) (p y : Operand) (ho : o.op = .store t p y) (hx : ρ p = .pointer (some ⟨b, off, none⟩)) (hy : ρ y = .agg vs.toArray) [hb : HasB L b t2 cs put] [T : TI P t n z] (hl : off + n ≤ cs.length ∧ vs.length = n) (h1 : (vs.all fun u => u.oneCell') = true) (hn : lay cs off vs = new) :
    ∃ w', (execOp ρ o).run P w = .ok .skip w' ∧ SH F w0 w' (put new) := by
  obtain ⟨i, h2, h3⟩ := hb.ix
  subst hn
  refine ⟨_, exec_lay t p y ho b off hx vs cs (by rw [hy]; rfl) t2 (H.va i h2) (by rw [hl.2]; exact T.size) (by rw [hl.2]; exact hl.1) (List.all_eq_true.1 h1), ?_⟩
  rw [← h3]
  exact H.setRow i h2 _
theorem xCell (H : SH F w0 w L) (p y : Operand) (ho : o.op = .store t p y) (hx : ρ p = .pointer (some ⟨b, off, none⟩)) (hy : ρ y = v) [hb : HasB L b t2 cs put] [T : TS P t zv] (hc : v.cells = [v].toArray) (h1 : v.oneCell' = true) (hl : off < cs.length) (hn : cs.set off v = new) :
    ∃ w', (execOp ρ o).run P w = .ok .skip w' ∧ SH F w0 w' (put new) := by
  obtain ⟨i, h2, h3⟩ := hb.ix
  subst hn
  have e : lay cs off [v] = cs.set off v := by rw [lay, List.set_eq_take_append_cons_drop, if_pos hl, List.append_assoc]; rfl
  refine ⟨_, exec_lay t p y ho b off hx [v] cs (by rw [hy]; exact hc) t2 (H.va i h2) (by simpa using T.size) (by simp only [List.length_singleton]; omega) (fun u hu => by rw [List.mem_singleton.mp hu]; exact h1), ?_⟩
  rw [← h3, ← e]
  exact H.setRow i h2 _
theorem aLay (H : SH F w0 w L) (p y : Operand) (ho : o.op = .store t p y) (hx : a.eval p = .pointer (some ⟨b, off, none⟩)) (hy : a.eval y = .agg vs.toArray) [HasB L b t2 cs put] [TI P t n z] (hl : off + n ≤ cs.length ∧ vs.length = n) (h1 : (vs.all fun u => u.oneCell') = true) (hn : lay cs off vs = new) (hw : Region.wanted o (yielded ops a.tmps) = true)
    (h : ∀ w', SH F w0 w' (put new) → wpList P ops Q rest (a.put o.dst undef) w') : wpList P ops Q (o :: rest) a w := by
  obtain ⟨w', hr, H'⟩ := xLay (P := P) (ρ := a.eval) H p y ho hx hy hl h1 hn
  exact stepS hr hw (h w' H')
theorem lay_whole {cs vs : List Value} (h : cs.length = vs.length) : lay cs 0 vs = vs := by
  rw [lay, List.take_zero, List.nil_append, Nat.zero_add, List.drop_of_length_le (by omega), List.append_nil]
/-- The whole of a variable. -/
theorem aStore (H : SH F w0 w L) (p y : Operand) (ho : o.op = .store t p y) (hx : a.eval p = .pointer (some ⟨b, 0, none⟩)) (hy : a.eval y = .agg vs.toArray) [HasB L b t cs put] [TI P t n z] (hl : cs.length = n ∧ vs.length = n) (h1 : (vs.all fun u => u.oneCell') = true) (hw : Region.wanted o (yielded ops a.tmps) = true)
    (h : ∀ w', SH F w0 w' (put vs) → wpList P ops Q rest (a.put o.dst undef) w') : wpList P ops Q (o :: rest) a w :=
  aLay H p y ho hx hy (by omega) h1 (lay_whole (by omega)) hw h
theorem aCell (H : SH F w0 w L) (p y : Operand) (ho : o.op = .store t p y) (hx : a.eval p = .pointer (some ⟨b, off, none⟩)) (hy : a.eval y = v) [HasB L b t2 cs put] [TS P t zv] (hc : v.cells = [v].toArray) (h1 : v.oneCell' = true) (hl : off < cs.length) (hn : cs.set off v = new) (hw : Region.wanted o (yielded ops a.tmps) = true)
    (h : ∀ w', SH F w0 w' (put new) → wpList P ops Q rest (a.put o.dst undef) w') : wpList P ops Q (o :: rest) a w := by
  obtain ⟨w', hr, H'⟩ := xCell (P := P) (ρ := a.eval) H p y ho hx hy hc h1 hl hn
  exact stepS hr hw (h w' H')
end
/-! What lay there before the call. -/
section
variable {ops : Array Oper} {rest : List Oper} {o : Oper} {a : Act} {Q : Exit → Act → World → Prop} {w0 w : World} {L R : List Own} {ρ : Operand → Value}
variable {b off n : Nat} {t t2 : TypeId} {cs vs new z : List Value} {v zv : Value} {put : List Value → List Own} {y p : Operand}
/-- Things of before, in the world at hand. -/
theorem SH.old (H : SH Nil w0 w L) (RO : HOLD R w0) : HOLD R w := RO.below H.below
theorem aLoadR (RO : HOLD R w0) (H : SH Nil w0 w L) (y : Operand) (ho : o.op = .load t y) (hx : a.eval y = .pointer (some ⟨b, off, none⟩)) [HasB R b t2 cs put] [TI P t n z] (hp : (cs.drop off).take n = vs) (hl : vs.length = n) (hw : Region.wanted o (yielded ops a.tmps) = true)
    (h : wpList P ops Q rest (a.put o.dst (.agg vs.toArray)) w) : wpList P ops Q (o :: rest) a w :=
  stepV (xLoad (H.old RO) y ho hx hp hl) hw h
theorem aLoadR1 (RO : HOLD R w0) (H : SH Nil w0 w L) (y : Operand) (ho : o.op = .load t y) (hx : a.eval y = .pointer (some ⟨b, off, none⟩)) [HasB R b t2 cs put] [TS P t zv] (hc : cs[off]? = some v) (hw : Region.wanted o (yielded ops a.tmps) = true)
    (h : wpList P ops Q rest (a.put o.dst v) w) : wpList P ops Q (o :: rest) a w :=
  stepV (xLoad1 (H.old RO) y ho hx hc) hw h
/-- What is told of a block, as a list of one. -/
theorem HOLD.one {w : World} {b : Nat} {t : TypeId} {cs : List Value} (h : VA w b t cs) : HOLD [.blk b t cs] w := fun o ho => by rw [List.mem_singleton.mp ho]; exact h
theorem HOLD.cons {w : World} {b : Nat} {t : TypeId} {cs : List Value} {L : List Own} (h : VA w b t cs) (hl : HOLD L w) : HOLD (.blk b t cs :: L) w := fun o ho => by
  rcases List.mem_cons.mp ho with rfl | ho
  · exact h
  · exact hl o ho
theorem HOLD.nil (w : World) : HOLD [] w := fun _ h => by cases h
end
section
variable {ops : Array Oper} {rest : List Oper} {o : Oper} {a : Act} {Q : Exit → Act → World → Prop} {F : Nat → Prop} {w0 w : World} {L : List Own}
theorem aAppend (T : ST P α) (H : SH F w0 w L) (s x : Operand) (ho : o.op = .call { callee := .builtin .append, args := #[s, x], argTypes := #[T.t, T.t] }) {A : Option Addr} {len cap : Nat} {vy : Value} {xs ys : List α} {put : Value → List α → List Own} (hs : a.eval s = .slice A len cap) (hx : a.eval x = vy) [hr : HasR L (.slice A len cap) α T.toTy xs put] (HR : RR T.toTy w vy ys) (hl : (xs.length + ys.length) * T.bytes ≤ 140737488355328)
    (hw : Region.wanted o (yielded ops a.tmps) = true) (h : ∀ v1 w1 zs, Hid (zs = xs ++ ys) → SH F w0 w1 (put v1 zs) → wpList P ops Q rest (a.put o.dst v1) w1) : wpList P ops Q (o :: rest) a w := by
  obtain ⟨i, h1, h2⟩ := hr.ix
  exact wAppend T H i h1 vy ys HR hl s x ho hs hx hw fun v1 w1 k => h v1 w1 _ (Lib.hid rfl) (by rw [← h2]; exact k)
theorem aAppLit (T : ST P α) (ys : List α) (cs : Array Value) (hcs : cs.toList = T.all ys) (hm : ys.length ≤ 1000000000) (n : Nat) (hn : ys.length = n) (H : SH F w0 w L) (s x : Operand) (ho : o.op = .call { callee := .builtin .append, args := #[s, x], argTypes := #[T.t, T.t] }) {A : Option Addr} {len cap : Nat} {xs : List α} {put : Value → List α → List Own} (hs : a.eval s = .slice A len cap) (hx : a.eval x = .slice (some ⟨w.heap.size, 0, none⟩) n n) [hr : HasR L (.slice A len cap) α T.toTy xs put] (hl : (xs.length + n) * T.bytes ≤ 140737488355328)
    (hw : Region.wanted o (yielded ops a.tmps) = true) (h : ∀ v1 w1 zs, Hid (zs = xs ++ ys) → SH F w0 w1 (put v1 zs) → wpList P ops Q rest (a.put o.dst v1) w1) : wpList P ops Q (o :: rest) a (w.alloc (.cells cs T.id)) := by
  obtain ⟨i, h1, h2⟩ := hr.ix
  exact wAppLit T ys cs hcs hm n hn H i h1 hl s x ho hs hx hw fun v1 w1 k => h v1 w1 _ (Lib.hid rfl) (by rw [← h2]; exact k)
theorem aAppB1 (b : UInt8) (H : SH F w0 w L) (s x : Operand) (ho : o.op = .call { callee := .builtin .append, args := #[s, x], argTypes := #[22, 22] }) {A : Option Addr} {len cap : Nat} {xs : List UInt8} {put : Value → List UInt8 → List Own} (hs : a.eval s = .slice A len cap) (hx : a.eval x = .slice (some ⟨w.heap.size, 0, none⟩) 1 1) [hr : HasR L (.slice A len cap) UInt8 B8 xs put] (hl : xs.length ≤ 1000000000)
    (hw : Region.wanted o (yielded ops a.tmps) = true) (h : ∀ v1 w1 zs, Hid (zs = xs ++ [b]) → SH F w0 w1 (put v1 zs) → wpList Try.prog ops Q rest (a.put o.dst v1) w1) : wpList Try.prog ops Q (o :: rest) a (w.alloc (.cells #[.int .u8 (b.toNat : Int)] 5)) :=
  aAppLit sB [b] #[.int .u8 (b.toNat : Int)] rfl (by simp) 1 rfl H s x ho hs hx (by show (xs.length + 1) * 1 ≤ _; omega) hw h
theorem aAppBs (H : SH F w0 w L) (s x : Operand) (ho : o.op = .call { callee := .builtin .append, args := #[s, x], argTypes := #[22, 22] }) {A : Option Addr} {len cap : Nat} {vy : Value} {xs ys : List UInt8} {put : Value → List UInt8 → List Own} (hs : a.eval s = .slice A len cap) (hx : a.eval x = vy) [hr : HasR L (.slice A len cap) UInt8 B8 xs put] (HR : RB w vy ys) (hl : xs.length ≤ 1000000000 ∧ ys.length ≤ 1000000000)
    (hw : Region.wanted o (yielded ops a.tmps) = true) (h : ∀ v1 w1 zs, Hid (zs = xs ++ ys) → SH F w0 w1 (put v1 zs) → wpList Try.prog ops Q rest (a.put o.dst v1) w1) : wpList Try.prog ops Q (o :: rest) a w :=
  aAppend sB H s x ho hs hx HR (by show (xs.length + ys.length) * 1 ≤ _; omega) hw h
theorem aMake0 (n : Nat) (hn : n ≤ 1000000) (H : SH F w0 w L) (l c : Operand) (ho : o.op = .makeSlice 22 l c) (hl : a.eval l = .int .i64 0) (hc : a.eval c = .int .i64 (n : Int)) (hw : Region.wanted o (yielded ops a.tmps) = true)
    (h : ∀ b w', SH F w0 w' (.row B8 (.slice (some ⟨b, 0, none⟩) 0 n) [] :: L) → wpList Try.prog ops Q rest (a.put o.dst (.slice (some ⟨b, 0, none⟩) 0 n)) w') : wpList Try.prog ops Q (o :: rest) a w :=
  stepV (exec_make0 n hn l c ho hl hc) hw (h _ _ (H.pushRow (alloc_belowAt w _) (World.ownsRow_made w _ n (Nat.le_refl _) (by simp [maxLen]; omega) (by simp [U8]))))
end
/-! Operations of a region that draws its order, as steps; two, or three, that may come first. -/
section
variable {ops : Array Oper} {o : Oper} {a : Act} {Q : Exit → Act → World → Prop} {F : Nat → Prop} {w0 w : World} {L : List Own} {K : Act → World → Prop}
variable {b off n : Nat} {t t2 : TypeId} {cs vs new z : List Value} {v zv : Value} {put : List Value → List Own}
theorem oAlloc (H : SH F w0 w L) (ho : o.op = .alloc t) [T : TI P t n z] (h : ∀ b w', Below w.heap.size w w' → SH F w0 w' (.blk b t z :: L) → K (a.put o.dst (.pointer (some ⟨b, 0, none⟩))) w') : o.wp P a w K Q :=
  opV (exec_alloc t ho _ z T.zinfo rfl) (h _ _ (alloc_belowAt w _) (H.new _ _))
theorem oAlloc1 (H : SH F w0 w L) (ho : o.op = .alloc t) [T : TS P t zv] (h : ∀ b w', Below w.heap.size w w' → SH F w0 w' (.blk b t [zv] :: L) → K (a.put o.dst (.pointer (some ⟨b, 0, none⟩))) w') : o.wp P a w K Q :=
  opV (exec_alloc t ho zv [zv] T.zinfo T.cells) (h _ _ (alloc_belowAt w _) (H.new _ _))
theorem oBox (H : SH F w0 w L) (y : Operand) (ho : o.op = .box t y) (hx : a.eval y = .agg cs.toArray) (h : ∀ b w', Below w.heap.size w w' → SH F w0 w' (.blk b t cs :: L) → K (a.put o.dst (.pointer (some ⟨b, 0, none⟩))) w') : o.wp P a w K Q :=
  opV (exec_box t y ho cs hx) (h _ _ (alloc_belowAt w _) (H.new _ _))
theorem oBox1 (H : SH F w0 w L) (y : Operand) (ho : o.op = .box t y) (hx : a.eval y = v) (hc : v.cells = [v].toArray) (h : ∀ b w', Below w.heap.size w w' → SH F w0 w' (.blk b t [v] :: L) → K (a.put o.dst (.pointer (some ⟨b, 0, none⟩))) w') : o.wp P a w K Q := by
  refine opV (w' := w.alloc (.cells v.cells t)) ?_ (h _ _ (alloc_belowAt w _) (by rw [hc]; exact H.new t [v]))
  unfold execOp
  simp only [ho, hx]
  rfl
theorem oLay (H : SH F w0 w L) (p y : Operand) (ho : o.op = .store t p y) (hx : a.eval p = .pointer (some ⟨b, off, none⟩)) (hy : a.eval y = .agg vs.toArray) [HasB L b t2 cs put] [TI P t n z] (hl : off + n ≤ cs.length ∧ vs.length = n) (h1 : (vs.all fun u => u.oneCell') = true) (hn : lay cs off vs = new)
    (h : ∀ w', SH F w0 w' (put new) → K (a.put o.dst undef) w') : o.wp P a w K Q := by
  obtain ⟨w', hr, H'⟩ := xLay (P := P) (ρ := a.eval) H p y ho hx hy hl h1 hn
  exact opS hr (h w' H')
theorem oStore (H : SH F w0 w L) (p y : Operand) (ho : o.op = .store t p y) (hx : a.eval p = .pointer (some ⟨b, 0, none⟩)) (hy : a.eval y = .agg vs.toArray) [HasB L b t2 cs put] [TI P t n z] (hl : cs.length = n ∧ vs.length = n) (h1 : (vs.all fun u => u.oneCell') = true)
    (h : ∀ w', SH F w0 w' (put vs) → K (a.put o.dst undef) w') : o.wp P a w K Q :=
  oLay H p y ho hx hy (by omega) h1 (lay_whole (by omega)) h
theorem oCellA (H : SH F w0 w L) (p y : Operand) (ho : o.op = .store t p y) (hx : a.eval p = .pointer (some ⟨b, off, none⟩)) (hy : a.eval y = v) [HasB L b t2 cs put] [TS P t zv] (hc : v.cells = [v].toArray) (h1 : v.oneCell' = true) (hl : off < cs.length) (hn : cs.set off v = new)
    (h : ∀ w', SH F w0 w' (put new) → K (a.put o.dst undef) w') : o.wp P a w K Q := by
  obtain ⟨w', hr, H'⟩ := xCell (P := P) (ρ := a.eval) H p y ho hx hy hc h1 hl hn
  exact opS hr (h w' H')
variable {S : World → Prop} {W : Nat → Bool}
theorem stepL2 (i j : Nat) {oi oj : Oper} {fuel : Nat} {listed : Array Bool} (hi : ops.toList[i]? = some oi) (hj : ops.toList[j]? = some oj) (hr : Region.ready .any ops listed = [i, j]) (hw : Region.wanted oi (yielded ops a.tmps) = true) (hw2 : Region.wanted oj (yielded ops a.tmps) = true)
    (h : ∀ K : Act → World → Prop, Shut (∀ a' w', (W i = false → S w → S w') → wpAnyL P .any ops Q S W fuel (listed.setIfInBounds i true) a' w' → K a' w') → oi.wp P a w K Q)
    (h2 : ∀ K : Act → World → Prop, Shut (∀ a' w', (W j = false → S w → S w') → wpAnyL P .any ops Q S W fuel (listed.setIfInBounds j true) a' w' → K a' w') → oj.wp P a w K Q) : wpAnyL P .any ops Q S W (fuel + 1) listed a w := by
  have hi2 : ops[i]? = some oi := by simpa using hi
  have hj2 : ops[j]? = some oj := by simpa using hj
  refine ⟨fun h0 => (by rw [h0] at hr; cases hr), fun k hk => ?_⟩
  rw [hr] at hk
  rcases List.mem_cons.mp hk with rfl | hk
  · unfold wpOp
    simp only [hi2, hw, if_true]
    exact .inl (h _ (fun a' w' h1 h2 => ⟨h1, h2⟩))
  · obtain rfl := List.mem_singleton.mp hk
    unfold wpOp
    simp only [hj2, hw2, if_true]
    exact .inl (h2 _ (fun a' w' h1 h2 => ⟨h1, h2⟩))
theorem stepL3 (i j l : Nat) {oi oj ol : Oper} {fuel : Nat} {listed : Array Bool} (hi : ops.toList[i]? = some oi) (hj : ops.toList[j]? = some oj) (hl : ops.toList[l]? = some ol) (hr : Region.ready .any ops listed = [i, j, l]) (hw : Region.wanted oi (yielded ops a.tmps) = true) (hw2 : Region.wanted oj (yielded ops a.tmps) = true) (hw3 : Region.wanted ol (yielded ops a.tmps) = true)
    (h : ∀ K : Act → World → Prop, Shut (∀ a' w', (W i = false → S w → S w') → wpAnyL P .any ops Q S W fuel (listed.setIfInBounds i true) a' w' → K a' w') → oi.wp P a w K Q)
    (h2 : ∀ K : Act → World → Prop, Shut (∀ a' w', (W j = false → S w → S w') → wpAnyL P .any ops Q S W fuel (listed.setIfInBounds j true) a' w' → K a' w') → oj.wp P a w K Q)
    (h3 : ∀ K : Act → World → Prop, Shut (∀ a' w', (W l = false → S w → S w') → wpAnyL P .any ops Q S W fuel (listed.setIfInBounds l true) a' w' → K a' w') → ol.wp P a w K Q) : wpAnyL P .any ops Q S W (fuel + 1) listed a w := by
  have hi2 : ops[i]? = some oi := by simpa using hi
  have hj2 : ops[j]? = some oj := by simpa using hj
  have hl2 : ops[l]? = some ol := by simpa using hl
  refine ⟨fun h0 => (by rw [h0] at hr; cases hr), fun k hk => ?_⟩
  rw [hr] at hk
  rcases List.mem_cons.mp hk with rfl | hk
  · unfold wpOp
    simp only [hi2, hw, if_true]
    exact .inl (h _ (fun a' w' h1 h2 => ⟨h1, h2⟩))
  rcases List.mem_cons.mp hk with rfl | hk
  · unfold wpOp
    simp only [hj2, hw2, if_true]
    exact .inl (h2 _ (fun a' w' h1 h2 => ⟨h1, h2⟩))
  · obtain rfl := List.mem_singleton.mp hk
    unfold wpOp
    simp only [hl2, hw3, if_true]
    exact .inl (h3 _ (fun a' w' h1 h2 => ⟨h1, h2⟩))
end
/-- A row that is read: nothing is said of who may write it. -/
def Own.rd (T : Ty α) (v : Value) (xs : List α) : Own where
  foot k := 0 < xs.length ∧ ∃ (ad : Addr) (n c : Nat), v = .slice (some ad) n c ∧ ad.block = k
  holds w := RR T w v xs
  lt w k h e := by
    obtain ⟨hp, ad, n, c, rfl, rfl⟩ := e
    obtain ⟨A, c2, e2, _, _, h3⟩ := h
    obtain ⟨ad2, rfl, hc⟩ := h3 hp
    injection e2 with e3 _ _
    injection e3 with e3
    subst e3
    have hl : 0 < (T.all xs).length := by rw [Ty.all_length]; exact Nat.mul_pos hp T.hsz
    have := hc 0 _ (List.getElem?_eq_getElem hl)
    rw [Addr.add_zero'] at this
    exact World.block_lt_of_cell? w ad this
  keep w w' h hs hk := by
    obtain ⟨A, c2, rfl, h1, h2, h3⟩ := h
    refine ⟨A, c2, rfl, h1, h2, fun hp => ?_⟩
    obtain ⟨ad2, rfl, hc⟩ := h3 hp
    refine ⟨ad2, rfl, fun j u hj => ?_⟩
    rw [← hc j u hj]
    have hb : (ad2.add j).block = ad2.block := by unfold Addr.add; split <;> rfl
    exact World.cell?_of_block (w := w) (by rw [hb]; exact hk _ ⟨hp, ad2, _, _, rfl, rfl⟩)
/-- What slice v reads. -/
class HasD (L : List Own) (v : Value) (α : outParam Type) (T : outParam (Ty α)) (xs : outParam (List α)) : Prop where
  get : ∀ w, HOLD L w → RR T w v xs
instance HasD.rd {L : List Own} {v : Value} {T : Ty α} {xs : List α} : HasD (.rd T v xs :: L) v α T xs := ⟨fun _ h => h _ (List.mem_cons_self ..)⟩
instance HasD.row {L : List Own} {v : Value} {T : Ty α} {xs : List α} : HasD (.row T v xs :: L) v α T xs := ⟨fun _ h => OR.reads (h _ (List.mem_cons_self ..))⟩
instance (priority := low) HasD.there {o : Own} {L : List Own} {v : Value} {T : Ty α} {xs : List α} [h : HasD L v α T xs] : HasD (o :: L) v α T xs := ⟨fun w hw => h.get w hw.tail⟩
theorem HOLD.rd {L : List Own} {w : World} (v : Value) {T : Ty α} {xs : List α} (h : HOLD L w) [k : HasD L v α T xs] : RR T w v xs := k.get w h
theorem HOLD.rdOne {w : World} {v : Value} {T : Ty α} {xs : List α} (h : RR T w v xs) : HOLD [.rd T v xs] w := fun o ho => by rw [List.mem_singleton.mp ho]; exact h
theorem HOLD.rdCons {w : World} {v : Value} {T : Ty α} {xs : List α} {L : List Own} (h : RR T w v xs) (hl : HOLD L w) : HOLD (.rd T v xs :: L) w := fun o ho => by
  rcases List.mem_cons.mp ho with rfl | ho
  · exact h
  · exact hl o ho
section
variable {ops : Array Oper} {rest : List Oper} {o : Oper} {a : Act} {Q : Exit → Act → World → Prop} {F : Nat → Prop} {w0 w : World} {L R : List Own} {ρ : Operand → Value} {A : Option Addr} {len cap : Nat}
theorem xStr {xs : List UInt8} (y : Operand) (ho : o.op = .convert 22 9 y) (hx : ρ y = .slice A len cap) (h : HOLD L w) [HasD L (.slice A len cap) UInt8 B8 xs] : (execOp ρ o).run Try.prog w = .ok (.value (.string (str xs))) w := by
  have := RR.string (P := Try.prog) (h.rd (.slice A len cap)) Try.underlying22 Try.underlying5 Try.underlying9
  unfold execOp
  simp only [ho, hx, this, Sem.run_bind, Sem.run_pure, Result.andThen_ok]
theorem aStr {xs : List UInt8} (H : SH F w0 w L) (y : Operand) (ho : o.op = .convert 22 9 y) (hx : a.eval y = .slice A len cap) [HasD L (.slice A len cap) UInt8 B8 xs] (hw : Region.wanted o (yielded ops a.tmps) = true) (h : wpList Try.prog ops Q rest (a.put o.dst (.string (str xs))) w) : wpList Try.prog ops Q (o :: rest) a w :=
  stepV (xStr y ho hx H.hold) hw h
theorem aStrR {xs : List UInt8} (RO : HOLD R w0) (H : SH Nil w0 w L) (y : Operand) (ho : o.op = .convert 22 9 y) (hx : a.eval y = .slice A len cap) [HasD R (.slice A len cap) UInt8 B8 xs] (hw : Region.wanted o (yielded ops a.tmps) = true) (h : wpList Try.prog ops Q rest (a.put o.dst (.string (str xs))) w) : wpList Try.prog ops Q (o :: rest) a w :=
  stepV (xStr y ho hx (H.old RO)) hw h
theorem gConv {src dst : TypeId} {y : Operand} {d : Option Tmp} {ty : TypeId} {q : String} {af : Array Edge} {gd : Option (Nat × Bool)} (h : wpList P ops Q (⟨d, .convert src dst y, ty, q, af, gd⟩ :: rest) a w) : wpList P ops Q (⟨d, .convert src dst y, ty, q, af, gd⟩ :: rest) a w := h
end
/-! What the program's types are. -/
instance instTS1 : TS Try.prog 1 (.nilFunc) := ⟨⟨_, Try.underlying1, rfl⟩, by kernel_rfl, by kernel_rfl, rfl⟩
instance instTS2 : TS Try.prog 2 (.int .i64 0) := ⟨⟨_, Try.underlying2, rfl⟩, by kernel_rfl, by kernel_rfl, rfl⟩
instance instTS3 : TS Try.prog 3 (.int .i64 0) := ⟨⟨_, Try.underlying3, rfl⟩, by kernel_rfl, by kernel_rfl, rfl⟩
instance instTS4 : TS Try.prog 4 (.bool false) := ⟨⟨_, Try.underlying4, rfl⟩, by kernel_rfl, by kernel_rfl, rfl⟩
instance instTS5 : TS Try.prog 5 (.int .u8 0) := ⟨⟨_, Try.underlying5, rfl⟩, by kernel_rfl, by kernel_rfl, rfl⟩
instance instTS9 : TS Try.prog 9 (.string ByteArray.empty) := ⟨⟨_, Try.underlying9, rfl⟩, by kernel_rfl, by kernel_rfl, rfl⟩
instance instTS12 : TS Try.prog 12 (.int .u64 0) := ⟨⟨_, Try.underlying12, rfl⟩, by kernel_rfl, by kernel_rfl, rfl⟩
instance instTI13 : TI Try.prog 13 2 [.string ByteArray.empty, .int .u64 0] := ⟨⟨_, Try.underlying13, rfl⟩, by kernel_rfl, by kernel_rfl, by kernel_rfl, rfl⟩
instance instTS15 : TS Try.prog 15 (.pointer none) := ⟨⟨_, Try.underlying15, rfl⟩, by kernel_rfl, by kernel_rfl, rfl⟩
instance instTS16 : TS Try.prog 16 (.pointer none) := ⟨⟨_, Try.underlying16, rfl⟩, by kernel_rfl, by kernel_rfl, rfl⟩
instance instTS17 : TS Try.prog 17 (.pointer none) := ⟨⟨_, Try.underlying17, rfl⟩, by kernel_rfl, by kernel_rfl, rfl⟩
instance instTI18 : TI Try.prog 18 1 [.pointer none] := ⟨⟨_, Try.underlying18, rfl⟩, by kernel_rfl, by kernel_rfl, by kernel_rfl, rfl⟩
instance instTS20 : TS Try.prog 20 (.nilIface) := ⟨⟨_, Try.underlying20, rfl⟩, by kernel_rfl, by kernel_rfl, rfl⟩
instance instTS21 : TS Try.prog 21 (.int .i32 0) := ⟨⟨_, Try.underlying21, rfl⟩, by kernel_rfl, by kernel_rfl, rfl⟩
instance instTS22 : TS Try.prog 22 (.slice none 0 0) := ⟨⟨_, Try.underlying22, rfl⟩, by kernel_rfl, by kernel_rfl, rfl⟩
instance instTS23 : TS Try.prog 23 (.nilFunc) := ⟨⟨_, Try.underlying23, rfl⟩, by kernel_rfl, by kernel_rfl, rfl⟩
instance instTS24 : TS Try.prog 24 (.int .i64 0) := ⟨⟨_, Try.underlying24, rfl⟩, by kernel_rfl, by kernel_rfl, rfl⟩
instance instTS26 : TS Try.prog 26 (.nilFunc) := ⟨⟨_, Try.underlying26, rfl⟩, by kernel_rfl, by kernel_rfl, rfl⟩
instance instTS28 : TS Try.prog 28 (.nilFunc) := ⟨⟨_, Try.underlying28, rfl⟩, by kernel_rfl, by kernel_rfl, rfl⟩
instance instTS29 : TS Try.prog 29 (.nilFunc) := ⟨⟨_, Try.underlying29, rfl⟩, by kernel_rfl, by kernel_rfl, rfl⟩
instance instTS30 : TS Try.prog 30 (.nilFunc) := ⟨⟨_, Try.underlying30, rfl⟩, by kernel_rfl, by kernel_rfl, rfl⟩
instance instTI31 : TI Try.prog 31 3 [.int .i64 0, .int .i64 0, .slice none 0 0] := ⟨⟨_, Try.underlying31, rfl⟩, by kernel_rfl, by kernel_rfl, by kernel_rfl, rfl⟩
instance instTI32 : TI Try.prog 32 3 [.int .i64 0, .int .i64 0, .slice none 0 0] := ⟨⟨_, Try.underlying32, rfl⟩, by kernel_rfl, by kernel_rfl, by kernel_rfl, rfl⟩
instance instTS33 : TS Try.prog 33 (.slice none 0 0) := ⟨⟨_, Try.underlying33, rfl⟩, by kernel_rfl, by kernel_rfl, rfl⟩
instance instTI34 : TI Try.prog 34 2 [.int .i64 0, .int .i64 0] := ⟨⟨_, Try.underlying34, rfl⟩, by kernel_rfl, by kernel_rfl, by kernel_rfl, rfl⟩
instance instTS35 : TS Try.prog 35 (.nilFunc) := ⟨⟨_, Try.underlying35, rfl⟩, by kernel_rfl, by kernel_rfl, rfl⟩
instance instTS37 : TS Try.prog 37 (.nilFunc) := ⟨⟨_, Try.underlying37, rfl⟩, by kernel_rfl, by kernel_rfl, rfl⟩
instance instTI38 : TI Try.prog 38 3 [.int .i64 0, .int .i64 0, .slice none 0 0] := ⟨⟨_, Try.underlying38, rfl⟩, by kernel_rfl, by kernel_rfl, by kernel_rfl, rfl⟩
instance instTS40 : TS Try.prog 40 (.nilFunc) := ⟨⟨_, Try.underlying40, rfl⟩, by kernel_rfl, by kernel_rfl, rfl⟩
instance instTS41 : TS Try.prog 41 (.nilFunc) := ⟨⟨_, Try.underlying41, rfl⟩, by kernel_rfl, by kernel_rfl, rfl⟩
instance instTS42 : TS Try.prog 42 (.nilFunc) := ⟨⟨_, Try.underlying42, rfl⟩, by kernel_rfl, by kernel_rfl, rfl⟩
instance instTS43 : TS Try.prog 43 (.nilFunc) := ⟨⟨_, Try.underlying43, rfl⟩, by kernel_rfl, by kernel_rfl, rfl⟩
instance instTS44 : TS Try.prog 44 (.nilFunc) := ⟨⟨_, Try.underlying44, rfl⟩, by kernel_rfl, by kernel_rfl, rfl⟩
instance instTS45 : TS Try.prog 45 (.nilFunc) := ⟨⟨_, Try.underlying45, rfl⟩, by kernel_rfl, by kernel_rfl, rfl⟩
instance instTS46 : TS Try.prog 46 (.nilFunc) := ⟨⟨_, Try.underlying46, rfl⟩, by kernel_rfl, by kernel_rfl, rfl⟩
instance instTS47 : TS Try.prog 47 (.nilFunc) := ⟨⟨_, Try.underlying47, rfl⟩, by kernel_rfl, by kernel_rfl, rfl⟩
instance instTS48 : TS Try.prog 48 (.nilFunc) := ⟨⟨_, Try.underlying48, rfl⟩, by kernel_rfl, by kernel_rfl, rfl⟩
instance instTS49 : TS Try.prog 49 (.nilFunc) := ⟨⟨_, Try.underlying49, rfl⟩, by kernel_rfl, by kernel_rfl, rfl⟩
instance instTS50 : TS Try.prog 50 (.nilFunc) := ⟨⟨_, Try.underlying50, rfl⟩, by kernel_rfl, by kernel_rfl, rfl⟩
instance instTS51 : TS Try.prog 51 (.nilFunc) := ⟨⟨_, Try.underlying51, rfl⟩, by kernel_rfl, by kernel_rfl, rfl⟩
instance instTS52 : TS Try.prog 52 (.nilFunc) := ⟨⟨_, Try.underlying52, rfl⟩, by kernel_rfl, by kernel_rfl, rfl⟩
instance instTS53 : TS Try.prog 53 (.nilFunc) := ⟨⟨_, Try.underlying53, rfl⟩, by kernel_rfl, by kernel_rfl, rfl⟩
instance instTS54 : TS Try.prog 54 (.nilFunc) := ⟨⟨_, Try.underlying54, rfl⟩, by kernel_rfl, by kernel_rfl, rfl⟩
instance instTS55 : TS Try.prog 55 (.nilFunc) := ⟨⟨_, Try.underlying55, rfl⟩, by kernel_rfl, by kernel_rfl, rfl⟩
instance instTS56 : TS Try.prog 56 (.nilFunc) := ⟨⟨_, Try.underlying56, rfl⟩, by kernel_rfl, by kernel_rfl, rfl⟩
instance instTS57 : TS Try.prog 57 (.nilFunc) := ⟨⟨_, Try.underlying57, rfl⟩, by kernel_rfl, by kernel_rfl, rfl⟩
instance instTS59 : TS Try.prog 59 (.nilFunc) := ⟨⟨_, Try.underlying59, rfl⟩, by kernel_rfl, by kernel_rfl, rfl⟩
instance instTS60 : TS Try.prog 60 (.nilFunc) := ⟨⟨_, Try.underlying60, rfl⟩, by kernel_rfl, by kernel_rfl, rfl⟩
instance instTS61 : TS Try.prog 61 (.nilFunc) := ⟨⟨_, Try.underlying61, rfl⟩, by kernel_rfl, by kernel_rfl, rfl⟩
instance instTS62 : TS Try.prog 62 (.int .u64 0) := ⟨⟨_, Try.underlying62, rfl⟩, by kernel_rfl, by kernel_rfl, rfl⟩
instance instTS63 : TS Try.prog 63 (.nilFunc) := ⟨⟨_, Try.underlying63, rfl⟩, by kernel_rfl, by kernel_rfl, rfl⟩
instance instTS64 : TS Try.prog 64 (.nilFunc) := ⟨⟨_, Try.underlying64, rfl⟩, by kernel_rfl, by kernel_rfl, rfl⟩
instance instTS65 : TS Try.prog 65 (.nilFunc) := ⟨⟨_, Try.underlying65, rfl⟩, by kernel_rfl, by kernel_rfl, rfl⟩
instance instTS67 : TS Try.prog 67 (.nilFunc) := ⟨⟨_, Try.underlying67, rfl⟩, by kernel_rfl, by kernel_rfl, rfl⟩
instance instTS69 : TS Try.prog 69 (.nilFunc) := ⟨⟨_, Try.underlying69, rfl⟩, by kernel_rfl, by kernel_rfl, rfl⟩
instance instTS70 : TS Try.prog 70 (.nilFunc) := ⟨⟨_, Try.underlying70, rfl⟩, by kernel_rfl, by kernel_rfl, rfl⟩
instance instTS71 : TS Try.prog 71 (.nilFunc) := ⟨⟨_, Try.underlying71, rfl⟩, by kernel_rfl, by kernel_rfl, rfl⟩
instance instTS72 : TS Try.prog 72 (.nilFunc) := ⟨⟨_, Try.underlying72, rfl⟩, by kernel_rfl, by kernel_rfl, rfl⟩
instance instTS73 : TS Try.prog 73 (.nilFunc) := ⟨⟨_, Try.underlying73, rfl⟩, by kernel_rfl, by kernel_rfl, rfl⟩
instance instTS74 : TS Try.prog 74 (.nilFunc) := ⟨⟨_, Try.underlying74, rfl⟩, by kernel_rfl, by kernel_rfl, rfl⟩
instance instTS75 : TS Try.prog 75 (.nilFunc) := ⟨⟨_, Try.underlying75, rfl⟩, by kernel_rfl, by kernel_rfl, rfl⟩
instance instTS77 : TS Try.prog 77 (.nilFunc) := ⟨⟨_, Try.underlying77, rfl⟩, by kernel_rfl, by kernel_rfl, rfl⟩
instance instTS78 : TS Try.prog 78 (.nilFunc) := ⟨⟨_, Try.underlying78, rfl⟩, by kernel_rfl, by kernel_rfl, rfl⟩
instance instTS79 : TS Try.prog 79 (.nilFunc) := ⟨⟨_, Try.underlying79, rfl⟩, by kernel_rfl, by kernel_rfl, rfl⟩
instance instTS80 : TS Try.prog 80 (.slice none 0 0) := ⟨⟨_, Try.underlying80, rfl⟩, by kernel_rfl, by kernel_rfl, rfl⟩
instance instTS81 : TS Try.prog 81 (.nilFunc) := ⟨⟨_, Try.underlying81, rfl⟩, by kernel_rfl, by kernel_rfl, rfl⟩
instance instTS83 : TS Try.prog 83 (.nilFunc) := ⟨⟨_, Try.underlying83, rfl⟩, by kernel_rfl, by kernel_rfl, rfl⟩
instance instTS84 : TS Try.prog 84 (.nilFunc) := ⟨⟨_, Try.underlying84, rfl⟩, by kernel_rfl, by kernel_rfl, rfl⟩
instance instTS85 : TS Try.prog 85 (.nilFunc) := ⟨⟨_, Try.underlying85, rfl⟩, by kernel_rfl, by kernel_rfl, rfl⟩
instance instTS86 : TS Try.prog 86 (.nilFunc) := ⟨⟨_, Try.underlying86, rfl⟩, by kernel_rfl, by kernel_rfl, rfl⟩
instance instTS87 : TS Try.prog 87 (.int .u64 0) := ⟨⟨_, Try.underlying87, rfl⟩, by kernel_rfl, by kernel_rfl, rfl⟩
instance instTS88 : TS Try.prog 88 (.nilFunc) := ⟨⟨_, Try.underlying88, rfl⟩, by kernel_rfl, by kernel_rfl, rfl⟩
instance instTS89 : TS Try.prog 89 (.nilFunc) := ⟨⟨_, Try.underlying89, rfl⟩, by kernel_rfl, by kernel_rfl, rfl⟩
instance instTS90 : TS Try.prog 90 (.nilFunc) := ⟨⟨_, Try.underlying90, rfl⟩, by kernel_rfl, by kernel_rfl, rfl⟩
instance instTS91 : TS Try.prog 91 (.nilFunc) := ⟨⟨_, Try.underlying91, rfl⟩, by kernel_rfl, by kernel_rfl, rfl⟩
instance instTS92 : TS Try.prog 92 (.nilFunc) := ⟨⟨_, Try.underlying92, rfl⟩, by kernel_rfl, by kernel_rfl, rfl⟩
instance instTS93 : TS Try.prog 93 (.nilFunc) := ⟨⟨_, Try.underlying93, rfl⟩, by kernel_rfl, by kernel_rfl, rfl⟩
instance instTS94 : TS Try.prog 94 (.nilFunc) := ⟨⟨_, Try.underlying94, rfl⟩, by kernel_rfl, by kernel_rfl, rfl⟩
instance instTS95 : TS Try.prog 95 (.nilFunc) := ⟨⟨_, Try.underlying95, rfl⟩, by kernel_rfl, by kernel_rfl, rfl⟩
instance instTS96 : TS Try.prog 96 (.nilFunc) := ⟨⟨_, Try.underlying96, rfl⟩, by kernel_rfl, by kernel_rfl, rfl⟩
instance instTS97 : TS Try.prog 97 (.nilFunc) := ⟨⟨_, Try.underlying97, rfl⟩, by kernel_rfl, by kernel_rfl, rfl⟩
instance instTS98 : TS Try.prog 98 (.nilFunc) := ⟨⟨_, Try.underlying98, rfl⟩, by kernel_rfl, by kernel_rfl, rfl⟩
instance instTI99 : TI Try.prog 99 16 (List.replicate 16 (.int .i64 0)) := ⟨⟨_, Try.underlying99, rfl⟩, by kernel_rfl, by kernel_rfl, by kernel_rfl, rfl⟩
instance instTS100 : TS Try.prog 100 (.nilFunc) := ⟨⟨_, Try.underlying100, rfl⟩, by kernel_rfl, by kernel_rfl, rfl⟩
instance instTS101 : TS Try.prog 101 (.nilFunc) := ⟨⟨_, Try.underlying101, rfl⟩, by kernel_rfl, by kernel_rfl, rfl⟩
instance instTI102 : TI Try.prog 102 4 [.pointer none, .pointer none, .pointer none, .string ByteArray.empty] := ⟨⟨_, Try.underlying102, rfl⟩, by kernel_rfl, by kernel_rfl, by kernel_rfl, rfl⟩
instance instTI104 : TI Try.prog 104 0 [] := ⟨⟨_, Try.underlying104, rfl⟩, by kernel_rfl, by kernel_rfl, by kernel_rfl, rfl⟩
instance instTI105 : TI Try.prog 105 0 [] := ⟨⟨_, Try.underlying105, rfl⟩, by kernel_rfl, by kernel_rfl, by kernel_rfl, rfl⟩
instance instTS107 : TS Try.prog 107 (.nilFunc) := ⟨⟨_, Try.underlying107, rfl⟩, by kernel_rfl, by kernel_rfl, rfl⟩
instance instTS108 : TS Try.prog 108 (.int .u32 0) := ⟨⟨_, Try.underlying108, rfl⟩, by kernel_rfl, by kernel_rfl, rfl⟩
instance instTS111 : TS Try.prog 111 (.nilFunc) := ⟨⟨_, Try.underlying111, rfl⟩, by kernel_rfl, by kernel_rfl, rfl⟩
instance instTS112 : TS Try.prog 112 (.pointer none) := ⟨⟨_, Try.underlying112, rfl⟩, by kernel_rfl, by kernel_rfl, rfl⟩
instance instTI115 : TI Try.prog 115 11 [.int .u64 0, .int .u64 0, .int .u32 0, .int .u8 0, .int .u8 0, .int .u8 0, .int .u8 0, .nilFunc, .pointer none, .int .i32 0, .int .i32 0] := ⟨⟨_, Try.underlying115, rfl⟩, by kernel_rfl, by kernel_rfl, by kernel_rfl, rfl⟩
/-- Lists' lengths, parts. -/
theorem one_all (xs : List UInt8) : ((xs.map cb).all fun u => u.oneCell') = true := by simp [Value.oneCell']
theorem part_all {cs : List Value} {n : Nat} (h : cs.length = n) : (cs.drop 0).take n = cs := by rw [List.drop_zero, List.take_of_length_le (by omega)]
/-- A region that draws its order: S tells that no block of before has changed. -/
theorem startA {ops : Array Oper} {Q : Exit → Act → World → Prop} (W : Nat → Bool) {id : Nat} {a : Act} {w : World} (hm : P.follows .mixedOrders = true)
    (h : ∀ wS, wS = w.drew → wpAnyL P .any ops Q (fun w' => Below wS.heap.size wS w') W ops.size (Array.replicate ops.size false) a wS) : (Code.region id ops true).wp P Q a w :=
  startL _ W hm (h _ rfl)
/-- The results of a function that lie in variables. -/
theorem res_cell {fn : Func} {d : Tmp} {t t2 : TypeId} (hf : fn.results = #[.cell d t]) (tmps : Array Value) {w : World} {L : List Own} (H : HOLD L w) {b n : Nat} {cs z : List Value} {put : List Value → List Own} (hp : tmps.getD d undef = .pointer (some ⟨b, 0, none⟩)) [HasB L b t2 cs put] [T : TI P t n z] (hl : cs.length = n) :
    (results fn tmps).run P w = .ok (.agg cs.toArray) w := by
  obtain ⟨d, h1, h2⟩ := T.under
  exact results_cell hf tmps H.va hp d h1 h2 (by rw [hl]; exact T.size)
theorem res_cell_tmp {fn : Func} {d e : Tmp} {t t2 : TypeId} (hf : fn.results = #[.cell d t, .tmp e]) (tmps : Array Value) {w : World} {L : List Own} (H : HOLD L w) {b n : Nat} {cs z : List Value} {put : List Value → List Own} (hp : tmps.getD d undef = .pointer (some ⟨b, 0, none⟩)) [HasB L b t2 cs put] [T : TI P t n z] (hl : cs.length = n) :
    (results fn tmps).run P w = .ok (.tuple #[.agg cs.toArray, tmps.getD e undef]) w := by
  obtain ⟨d, h1, h2⟩ := T.under
  exact results_cell_tmp hf tmps H.va hp d h1 h2 (by rw [hl]; exact T.size)
end Go.Proofs.Ytfnneneaalaagaa
