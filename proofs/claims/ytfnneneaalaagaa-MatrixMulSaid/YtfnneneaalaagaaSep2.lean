/- Rows of the call's own that grow; regions that draw their order, any worlds. -/
import Derived.Test.YtfnneneaalaagaaSep
import Derived.Lib.SmallJoins
namespace Go.Proofs.Ytfnneneaalaagaa
open Go.RowKit
variable {P : Program} {α : Type}

/-- The block of a row. -/
def rowF (v : Value) : Nat → Prop := fun k => v.ownBlock = some k
section
variable {F : Nat → Prop} {w0 w w' : World} {L : List Own}
/-- A callee that was handed a thing. -/
theorem SH.via (h : SH F w0 w L) (i : Nat) {o o' : Own} (hi : L[i]? = some o) (k : SH o.foot w w' [o']) : SH F w0 w' (L.set i o') :=
  h.change i hi k.chg o' (k.holds o' (List.mem_singleton.mpr rfl)) (fun b hb => k.foot o' (List.mem_singleton.mpr rfl) b hb)
theorem SH.row (T : Ty α) {v : Value} {xs : List α} (h : OR T w 0 v xs) : SH (rowF v) w w [.row T v xs] :=
  ⟨Chg.refl _ w, fun o ho => by rw [List.mem_singleton.mp ho]; exact h, fun o ho b hb => by rw [List.mem_singleton.mp ho] at hb; exact .inl hb, List.pairwise_singleton _ _⟩
theorem Chg.trans {a b c : World} (h : Chg F a b) (k : Below b.heap.size b c) : Chg F a c := ⟨k.os.trans h.os, k.tape.trans h.tape, k.output.trans h.output, Nat.le_trans h.size k.size, fun i hi hn => (k.block i (Nat.lt_of_lt_of_le hi h.size)).trans (h.block i hi hn)⟩
theorem SH.set {L' : List Own} (h : SH F w0 w L) (e : L = L') : SH F w0 w L' := e ▸ h
end

/-- append(v, ys...) -/
theorem run_append (T : Ty α) {W : World} (base : Nat) (t t2 : TypeId) (z : Value) (ht : P.underlying t = some (.slice T.id)) (hinfo : (P.info? T.id).map (fun i => (i.zero, i.size, i.bytes)) = some (some z, T.sz, T.bytes)) (hz : z.cells.size = T.sz)
    (v vy : Value) (xs ys : List α) (HO : OR T W base v xs) (HR : RR T W vy ys) (hbase : base ≤ W.heap.size) (hl : (xs.length + ys.length) * T.bytes ≤ 140737488355328) :
    ∃ v1 w1, (Builtin.append_ #[t, t] t2 #[v, vy]).run P W = .ok v1 w1 ∧ OR T w1 base v1 (xs ++ ys) ∧ W.grownBy w1 v.ownBlock ∧ (v1.ownBlock = v.ownBlock ∨ v1.ownBlock = some W.heap.size) := by
  obtain ⟨i0, hi, hzz⟩ := Option.map_eq_some_iff.1 hinfo
  simp only [Prod.mk.injEq] at hzz
  obtain ⟨hz0, hz1, hz2⟩ := hzz
  have hlen : xs.length + ys.length ≤ 140737488355328 := Nat.le_trans (Nat.le_mul_of_pos_right _ T.hby) hl
  obtain ⟨A, c, rfl, hc, hm, hcell⟩ := HR
  rcases Nat.eq_zero_or_pos ys.length with h0 | h0
  · obtain rfl : ys = [] := List.eq_nil_of_length_eq_zero h0
    refine ⟨v, W, ?_, by simpa using HO, World.grownBy.refl W _, .inl rfl⟩
    rcases HO.2 with ⟨rfl, hn⟩ | ⟨g, cap, cur, rfl, _, hgg, hnc, _, hcs, _⟩
    · cases A <;> simp [Builtin.append_, run_underlying ht, sizeOf, typeInfo, hi, Builtin.lenOf, Builtin.firstCells, loadCells, loadCellsFrom]
    · cases A <;> simp [Builtin.append_, run_underlying ht, sizeOf, typeInfo, hi, Builtin.lenOf, Builtin.firstCells, hnc, storeCells, loadCells, loadCellsFrom]
  · obtain ⟨ad, rfl, hcc⟩ := hcell h0
    obtain ⟨v1, w1, h1, h2, h3, _, h5⟩ := run_append_own_at (P := P) W base t t2 T.id i0 z T.sz T.bytes ht hi hz0 hz1 hz2 hz T.hsz v xs.length (T.all xs) HO ad ys.length c (T.all ys) (Ty.all_length ys) hcc (Ty.all_oneCell ys) (by simp only [maxLen]; omega) hl hbase
    exact ⟨v1, w1, h1, by unfold OR; rw [List.length_append, Ty.all_append]; exact h2, h3, h5⟩

/-- What append asks of a kind of elements. -/
structure ST (P : Program) (α : Type) extends Ty α where
  t : TypeId
  z : Value
  ht : P.underlying t = some (.slice id)
  hinfo : (P.info? id).map (fun i => (i.zero, i.size, i.bytes)) = some (some z, sz, bytes)
  hz : z.cells.size = sz

section
variable {ops : Array Oper} {rest : List Oper} {o : Oper} {a : Act} {Q : Exit → Act → World → Prop} {F : Nat → Prop} {w0 w : World} {L : List Own} {ρ : Operand → Value}
theorem exec_append (T : ST P α) (H : SH F w0 w L) (i : Nat) {v : Value} {xs : List α} (hi : L[i]? = some (.row T.toTy v xs)) (vy : Value) (ys : List α) (HR : RR T.toTy w vy ys) (hl : (xs.length + ys.length) * T.bytes ≤ 140737488355328)
    (s x : Operand) (ho : o.op = .call { callee := .builtin .append, args := #[s, x], argTypes := #[T.t, T.t] }) (hs : ρ s = v) (hx : ρ x = vy) :
    ∃ v1 w1, (execOp ρ o).run P w = .ok (.value v1) w1 ∧ SH F w0 w1 (L.set i (.row T.toTy v1 (xs ++ ys))) := by
  obtain ⟨v1, w1, h1, h2, h3, h4⟩ := run_append T.toTy 0 T.t o.type T.z T.ht T.hinfo T.hz v vy xs ys (H.or0 i hi) HR (Nat.zero_le _) hl
  refine ⟨v1, w1, ?_, H.grow i hi h2 h3 ?_⟩
  · unfold execOp
    simp only [ho, resolve, invoke, builtin, Sem.run_bind, Sem.run_pure, Result.andThen_ok, List.map_toArray, List.map_cons, List.map_nil, hs, hx, h1]
  · rcases h4 with h4 | h4
    · exact .inl h4
    · exact .inr ⟨_, h4, Nat.le_refl _⟩
theorem wAppend (T : ST P α) (H : SH F w0 w L) (i : Nat) {v : Value} {xs : List α} (hi : L[i]? = some (.row T.toTy v xs)) (vy : Value) (ys : List α) (HR : RR T.toTy w vy ys) (hl : (xs.length + ys.length) * T.bytes ≤ 140737488355328)
    (s x : Operand) (ho : o.op = .call { callee := .builtin .append, args := #[s, x], argTypes := #[T.t, T.t] }) (hs : a.eval s = v) (hx : a.eval x = vy) (hw : Region.wanted o (yielded ops a.tmps) = true)
    (h : ∀ v1 w1, SH F w0 w1 (L.set i (.row T.toTy v1 (xs ++ ys))) → wpList P ops Q rest (a.put o.dst v1) w1) : wpList P ops Q (o :: rest) a w := by
  obtain ⟨v1, w1, h1, h2⟩ := exec_append T H i hi vy ys HR hl s x ho hs hx
  exact stepV h1 hw (h v1 w1 h2)
/-- Behind a literal row. -/
theorem RR.lit (T : Ty α) (w : World) (ys : List α) (cs : Array Value) (hcs : cs.toList = T.all ys) (hm : ys.length ≤ 1000000000) : RR T (w.alloc (.cells cs T.id)) (.slice (some ⟨w.heap.size, 0, none⟩) ys.length ys.length) ys :=
  (OR.lit T w 0 ys cs hcs (Nat.zero_le _) (by omega)).reads
theorem wAppLit (T : ST P α) (ys : List α) (cs : Array Value) (hcs : cs.toList = T.all ys) (hm : ys.length ≤ 1000000000) (n : Nat) (hn : ys.length = n) (H : SH F w0 w L) (i : Nat) {v : Value} {xs : List α} (hi : L[i]? = some (.row T.toTy v xs)) (hl : (xs.length + n) * T.bytes ≤ 140737488355328)
    (s x : Operand) (ho : o.op = .call { callee := .builtin .append, args := #[s, x], argTypes := #[T.t, T.t] }) (hs : a.eval s = v) (hx : a.eval x = .slice (some ⟨w.heap.size, 0, none⟩) n n) (hw : Region.wanted o (yielded ops a.tmps) = true)
    (h : ∀ v1 w1, SH F w0 w1 (L.set i (.row T.toTy v1 (xs ++ ys))) → wpList P ops Q rest (a.put o.dst v1) w1) : wpList P ops Q (o :: rest) a (w.alloc (.cells cs T.id)) := by
  subst hn
  exact wAppend T (H.step (alloc_belowAt w _)) i hi _ ys (RR.lit T.toTy w ys cs hcs hm) hl s x ho hs hx hw h
/-- The same, at the operation. -/
theorem opV {K : Act → World → Prop} {w' : World} {v : Value} (hr : (execOp a.eval o).run P w = .ok (.value v) w') (h : K (a.put o.dst v) w') : o.wp P a w K Q := by
  unfold Oper.wp; rw [hr]; exact h
theorem oAppend {K : Act → World → Prop} (T : ST P α) (H : SH F w0 w L) (i : Nat) {v : Value} {xs : List α} (hi : L[i]? = some (.row T.toTy v xs)) (vy : Value) (ys : List α) (HR : RR T.toTy w vy ys) (hl : (xs.length + ys.length) * T.bytes ≤ 140737488355328)
    (s x : Operand) (ho : o.op = .call { callee := .builtin .append, args := #[s, x], argTypes := #[T.t, T.t] }) (hs : a.eval s = v) (hx : a.eval x = vy)
    (h : ∀ v1 w1, SH F w0 w1 (L.set i (.row T.toTy v1 (xs ++ ys))) → K (a.put o.dst v1) w1) : o.wp P a w K Q := by
  obtain ⟨v1, w1, h1, h2⟩ := exec_append T H i hi vy ys HR hl s x ho hs hx
  exact opV h1 (h v1 w1 h2)
theorem oAppLit {K : Act → World → Prop} (T : ST P α) (ys : List α) (cs : Array Value) (hcs : cs.toList = T.all ys) (hm : ys.length ≤ 1000000000) (n : Nat) (hn : ys.length = n) (H : SH F w0 w L) (i : Nat) {v : Value} {xs : List α} (hi : L[i]? = some (.row T.toTy v xs)) (hl : (xs.length + n) * T.bytes ≤ 140737488355328)
    (s x : Operand) (ho : o.op = .call { callee := .builtin .append, args := #[s, x], argTypes := #[T.t, T.t] }) (hs : a.eval s = v) (hx : a.eval x = .slice (some ⟨w.heap.size, 0, none⟩) n n)
    (h : ∀ v1 w1, SH F w0 w1 (L.set i (.row T.toTy v1 (xs ++ ys))) → K (a.put o.dst v1) w1) : o.wp P a (w.alloc (.cells cs T.id)) K Q := by
  subst hn
  exact oAppend T (H.step (alloc_belowAt w _)) i hi _ ys (RR.lit T.toTy w ys cs hcs hm) hl s x ho hs hx h
end

/-! A region that draws its order; S holds of each world on the way. -/
section
variable {ops : Array Oper} {Q : Exit → Act → World → Prop} {S : World → Prop}
theorem startS (S : World → Prop) {id : Nat} {a : Act} {w : World} (hm : P.follows .mixedOrders = true) (h0 : S w.drew) (h : wpAnyH P .any ops Q S ops.size (Array.replicate ops.size false) a w.drew) : (Code.region id ops true).wp P Q a w :=
  wp_region_held_drew (S := S) hm h0 (fun _ => h)
theorem takeS (i : Nat) {oi : Oper} {v : Value} {fuel : Nat} {listed : Array Bool} {a : Act} {w : World} (h0 : S w) (hi : ops.toList[i]? = some oi) (hs : Region.noSelect ops = true) (hf : Region.free .any ops listed i = true) (hr : (Region.ready .any ops listed).contains i = true)
    (hQ : ∀ c a w, Q (.panic c) (a.put oi.dst v) w → Q (.panic c) a w) (hw : Region.wanted oi (yielded ops a.tmps) = true)
    (hy : ∀ w', S w' → (execOp a.eval oi).run P w' = .ok (.value v) w') (h : wpAnyH P .any ops Q S fuel (listed.setIfInBounds i true) (a.put oi.dst v) w) : wpAnyH P .any ops Q S (fuel + 1) listed a w :=
  wpAnyH_take (by simpa using hi) hs hf hr hQ (.inl ⟨hw, hy⟩) h0 h
theorem skipS (i : Nat) {oi : Oper} {fuel : Nat} {listed : Array Bool} {a : Act} {w : World} (h0 : S w) (hi : ops.toList[i]? = some oi) (hs : Region.noSelect ops = true) (hf : Region.free .any ops listed i = true) (hr : (Region.ready .any ops listed).contains i = true)
    (hQ : ∀ c a w, Q (.panic c) (a.put oi.dst undef) w → Q (.panic c) a w) (hw : Region.wanted oi (yielded ops a.tmps) = false)
    (h : wpAnyH P .any ops Q S fuel (listed.setIfInBounds i true) (a.put oi.dst undef) w) : wpAnyH P .any ops Q S (fuel + 1) listed a w :=
  wpAnyH_take (by simpa using hi) hs hf hr hQ (.inr ⟨hw, rfl⟩) h0 h
theorem stepS' (i : Nat) {oi : Oper} {fuel : Nat} {listed : Array Bool} {a : Act} {w : World} (hi : ops.toList[i]? = some oi) (hr : Region.ready .any ops listed = [i]) (hw : Region.wanted oi (yielded ops a.tmps) = true)
    (h : ∀ K : Act → World → Prop, Shut (∀ a' w', S w' → wpAnyH P .any ops Q S fuel (listed.setIfInBounds i true) a' w' → K a' w') → oi.wp P a w K Q) : wpAnyH P .any ops Q S (fuel + 1) listed a w :=
  wpAnyH_ready hr (by simp) (AllReadyH.cons (by simpa using hi) (fun K hK => by rw [if_pos hw]; exact h K (fun a' w' hb he => hK a' w' hb (fun _ => he))) AllReadyH.nil)
theorem doneS {fuel : Nat} {listed : Array Bool} {a : Act} {w : World} (hr : Region.ready .any ops listed = []) (h : Q .normal a w) : wpAnyH P .any ops Q S fuel listed a w := wpAnyH_done hr h fuel
end

theorem u8_eqI (a b : UInt8) : ((a.toNat : Int) == (b.toNat : Int)) = (a == b) := by
  by_cases h : a = b
  · subst h; simp
  · have : ¬ (a.toNat : Int) = (b.toNat : Int) := fun e => h (UInt8.toNat_inj.mp (by omega))
    rw [beq_eq_false_iff_ne.mpr this, beq_eq_false_iff_ne.mpr h]
/-- []byte("..") of a constant. -/
theorem const_conv (w : World) (C : Array Value) (n c : Nat) : (convert 22 22 (.slice (some ⟨w.heap.size, 0, none⟩) n c)).run Try.prog (w.alloc (.cells C 5)) = .ok (.slice (some ⟨w.heap.size, 0, none⟩) n c) (w.alloc (.cells C 5 (C.size, C.size + 1))) :=
  Lib.run_convert_bytes_const w 22 5 C n c Try.underlying22 Try.underlying5
theorem const_rr (w : World) (ys : List UInt8) (cs : Array Value) (fr : Nat × Nat) (hcs : cs.toList = ys.map cb) (hm : ys.length ≤ 1000000000) : RB (w.alloc (.cells cs 5 fr)) (.slice (some ⟨w.heap.size, 0, none⟩) ys.length ys.length) ys :=
  ⟨_, _, rfl, Nat.le_refl _, by omega, fun _ => ⟨_, rfl, fun j u hu => by
    rw [Addr.add_mid, Nat.zero_add, World.cell?_alloc_mark, ← Array.getElem?_toList, hcs, ← U8_all]
    exact hu⟩⟩
/-! An operation's form, looked at reducibly. -/
section
variable {ops : Array Oper} {rest : List Oper} {Q : Exit → Act → World → Prop} {a : Act} {w : World} {d : Option Tmp} {ty t t2 : TypeId} {p : String} {af : Array Edge} {gd : Option (Nat × Bool)} {x y z : Operand}
theorem gBox (h : wpList P ops Q (⟨d, .box t x, ty, p, af, gd⟩ :: rest) a w) : wpList P ops Q (⟨d, .box t x, ty, p, af, gd⟩ :: rest) a w := h
theorem gAlloc (h : wpList P ops Q (⟨d, .alloc t, ty, p, af, gd⟩ :: rest) a w) : wpList P ops Q (⟨d, .alloc t, ty, p, af, gd⟩ :: rest) a w := h
theorem gLoad (h : wpList P ops Q (⟨d, .load t x, ty, p, af, gd⟩ :: rest) a w) : wpList P ops Q (⟨d, .load t x, ty, p, af, gd⟩ :: rest) a w := h
theorem gStore (h : wpList P ops Q (⟨d, .store t x y, ty, p, af, gd⟩ :: rest) a w) : wpList P ops Q (⟨d, .store t x y, ty, p, af, gd⟩ :: rest) a w := h
theorem gBuild {ps : Array (Nat × Operand)} (h : wpList P ops Q (⟨d, .build t ps, ty, p, af, gd⟩ :: rest) a w) : wpList P ops Q (⟨d, .build t ps, ty, p, af, gd⟩ :: rest) a w := h
theorem gBin {b : BinOp} (h : wpList P ops Q (⟨d, .binOp b t x y t2, ty, p, af, gd⟩ :: rest) a w) : wpList P ops Q (⟨d, .binOp b t x y t2, ty, p, af, gd⟩ :: rest) a w := h
theorem gMake (h : wpList P ops Q (⟨d, .makeSlice t x y, ty, p, af, gd⟩ :: rest) a w) : wpList P ops Q (⟨d, .makeSlice t x y, ty, p, af, gd⟩ :: rest) a w := h
theorem gIndex (h : wpList P ops Q (⟨d, .index t x y, ty, p, af, gd⟩ :: rest) a w) : wpList P ops Q (⟨d, .index t x y, ty, p, af, gd⟩ :: rest) a w := h
theorem gArr (h : wpList P ops Q (⟨d, .sliceToArrayPointer t x, ty, p, af, gd⟩ :: rest) a w) : wpList P ops Q (⟨d, .sliceToArrayPointer t x, ty, p, af, gd⟩ :: rest) a w := h
end
/-- Bytes. -/
def sB : ST Try.prog UInt8 := ⟨B8, 22, .int .u8 0, Try.underlying22, Try.info_u8, rfl⟩
end Go.Proofs.Ytfnneneaalaagaa
