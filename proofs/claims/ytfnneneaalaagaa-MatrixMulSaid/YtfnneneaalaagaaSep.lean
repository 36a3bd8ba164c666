/- Memory of the call's own, as a list of things that lie apart. -/
import Derived.Test.YtfnneneaalaagaaFill
import Derived.Test.YtfnneneaalaagaaBase
namespace Go.Proofs.Ytfnneneaalaagaa
open Go.RowKit
variable {P : Program} {α : Type}

/-- The world w' is w, but for blocks of F, and new ones. -/
structure Chg (F : Nat → Prop) (w w' : World) : Prop where
  os : w'.os = w.os
  tape : w'.tape = w.tape
  output : w'.output = w.output
  size : w.heap.size ≤ w'.heap.size
  block : ∀ k, k < w.heap.size → ¬ F k → w'.heap[k]? = w.heap[k]?
theorem Chg.refl (F : Nat → Prop) (w : World) : Chg F w w := ⟨rfl, rfl, rfl, Nat.le_refl _, fun _ _ _ => rfl⟩
/-- No block. -/
def Nil : Nat → Prop := fun _ => False
theorem Chg.below {w w' : World} (h : Chg Nil w w') : Below w.heap.size w w' := ⟨h.os, h.tape, h.output, h.size, fun k hk => h.block k hk (fun h => h)⟩
theorem chg_below {w w' : World} (h : Below w.heap.size w w') (F : Nat → Prop) : Chg F w w' := ⟨h.os, h.tape, h.output, h.size, fun k hk _ => h.block k hk⟩
theorem chg_grown {w w' : World} {row : Option Nat} (h : w.grownBy w' row) : Chg (fun k => row = some k) w w' := ⟨h.os, h.tape, h.output, h.size, fun k hk hn => h.block k hk (fun e => hn e.symm)⟩
theorem Chg.drew {F : Nat → Prop} {a w : World} (h : Chg F a w) : Chg F a w.drew := ⟨h.os, h.tape, h.output, h.size, h.block⟩

/-- A thing: the blocks in which it stands, and what is said of them. -/
structure Own where
  foot : Nat → Prop
  holds : World → Prop
  lt : ∀ w b, holds w → foot b → b < w.heap.size
  keep : ∀ w w', holds w → w.heap.size ≤ w'.heap.size → (∀ b, foot b → w'.heap[b]? = w.heap[b]?) → holds w'
/-- Block b holds cs. -/
def Own.blk (b : Nat) (t : TypeId) (cs : List Value) : Own where
  foot k := k = b
  holds w := VA w b t cs
  lt w k h e := by subst e; exact h.lt
  keep w w' h _ hk := (hk b rfl).trans h
/-- v is a row of elements. -/
def Own.row (T : Ty α) (v : Value) (xs : List α) : Own where
  foot k := v.ownBlock = some k
  holds w := OR T w 0 v xs
  lt w k h e := (OR.ge h k e).2
  keep w w' h _ hk := by
    refine ⟨h.1, ?_⟩
    rcases h.2 with h2 | ⟨g, cap, cur, hv, hg, hh, r⟩
    · exact Or.inl h2
    · exact Or.inr ⟨g, cap, cur, hv, hg, by rw [hk g (by rw [hv]; rfl)]; exact hh, r⟩
/-- Nothing. -/
def Own.nil : Own := ⟨fun _ => False, fun _ => True, fun _ _ _ h => h.elim, fun _ _ _ _ _ => trivial⟩

/-- w came of w0 by changes of the blocks of F alone, and of new ones; the things of L lie apart, in such blocks. -/
structure SH (F : Nat → Prop) (w0 w : World) (L : List Own) : Prop where
  chg : Chg F w0 w
  holds : ∀ o ∈ L, o.holds w
  foot : ∀ o ∈ L, ∀ b, o.foot b → F b ∨ w0.heap.size ≤ b
  apart : L.Pairwise fun o o' => ∀ b, o.foot b → ¬ o'.foot b

section
variable {F : Nat → Prop} {w0 w w' : World} {L : List Own}
theorem SH.start (F : Nat → Prop) (w : World) : SH F w w [] := ⟨Chg.refl F w, by simp, by simp, List.Pairwise.nil⟩
theorem SH.below (h : SH Nil w0 w L) : Below w0.heap.size w0 w := h.chg.below
theorem SH.size (h : SH F w0 w L) : w0.heap.size ≤ w.heap.size := h.chg.size
theorem SH.drew (h : SH F w0 w L) : SH F w0 w.drew L := ⟨h.chg.drew, fun o ho => o.keep w w.drew (h.holds o ho) (Nat.le_refl _) (fun _ _ => rfl), h.foot, h.apart⟩
theorem SH.sub {L' : List Own} (h : SH F w0 w L) (hs : L'.Sublist L) : SH F w0 w L' := ⟨h.chg, fun o ho => h.holds o (hs.subset ho), fun o ho => h.foot o (hs.subset ho), h.apart.sublist hs⟩
theorem SH.erase (h : SH F w0 w L) (i : Nat) : SH F w0 w (L.eraseIdx i) := h.sub (List.eraseIdx_sublist L i)
theorem SH.tail {o : Own} (h : SH F w0 w (o :: L)) : SH F w0 w L := h.sub (List.sublist_cons_self o L)
theorem SH.at_ (h : SH F w0 w L) (i : Nat) {o : Own} (hi : L[i]? = some o) : o.holds w := h.holds o (List.mem_of_getElem? hi)
theorem SH.va (h : SH F w0 w L) (i : Nat) {b : Nat} {t : TypeId} {cs : List Value} (hi : L[i]? = some (.blk b t cs)) : VA w b t cs := h.at_ i hi
theorem SH.or0 (h : SH F w0 w L) (i : Nat) {T : Ty α} {v : Value} {xs : List α} (hi : L[i]? = some (.row T v xs)) : OR T w 0 v xs := h.at_ i hi
theorem SH.rr (h : SH F w0 w L) (i : Nat) {T : Ty α} {v : Value} {xs : List α} (hi : L[i]? = some (.row T v xs)) : RR T w v xs := (h.or0 i hi).reads
theorem or_base {T : Ty α} {v : Value} {xs : List α} {b : Nat} (h : OR T w 0 v xs) (hb : ∀ k, v.ownBlock = some k → b ≤ k) : OR T w b v xs := by
  refine ⟨h.1, ?_⟩
  rcases h.2 with h2 | ⟨g, cap, cur, hv, _, r⟩
  · exact Or.inl h2
  · exact Or.inr ⟨g, cap, cur, hv, hb g (by rw [hv]; rfl), r⟩
theorem SH.orow (h : SH Nil w0 w L) (i : Nat) {T : Ty α} {v : Value} {xs : List α} (hi : L[i]? = some (.row T v xs)) : OR T w w0.heap.size v xs :=
  or_base (h.or0 i hi) fun k hk => (h.foot _ (List.mem_of_getElem? hi) k hk).elim (fun h => h.elim) id

/-- A step that changes no block that was there. -/
theorem SH.step (h : SH F w0 w L) (hb : Below w.heap.size w w') : SH F w0 w' L where
  chg := ⟨hb.os.trans h.chg.os, hb.tape.trans h.chg.tape, hb.output.trans h.chg.output, Nat.le_trans h.chg.size hb.size, fun k hk hn => (hb.block k (Nat.lt_of_lt_of_le hk h.chg.size)).trans (h.chg.block k hk hn)⟩
  holds o ho := o.keep w w' (h.holds o ho) hb.size (fun b hf => hb.block b (o.lt w b (h.holds o ho) hf))
  foot := h.foot
  apart := h.apart
/-- The same, with a new thing. -/
theorem SH.push (h : SH F w0 w L) (hb : Below w.heap.size w w') (o : Own) (ho : o.holds w') (hf : ∀ b, o.foot b → w.heap.size ≤ b) : SH F w0 w' (o :: L) where
  chg := (h.step hb).chg
  holds o' h' := by
    rcases List.mem_cons.mp h' with rfl | h'
    · exact ho
    · exact (h.step hb).holds o' h'
  foot o' h' b hb' := by
    rcases List.mem_cons.mp h' with rfl | h'
    · exact .inr (Nat.le_trans h.size (hf b hb'))
    · exact h.foot o' h' b hb'
  apart := List.Pairwise.cons (fun o' h' b h1 h2 => by have := o'.lt w b (h.holds o' h') h2; have := hf b h1; omega) h.apart
/-- A step that changes one thing alone. -/
theorem SH.change (h : SH F w0 w L) (i : Nat) {o : Own} (hi : L[i]? = some o) (hc : Chg o.foot w w') (o' : Own) (ho : o'.holds w') (hf : ∀ b, o'.foot b → o.foot b ∨ w.heap.size ≤ b) : SH F w0 w' (L.set i o') := by
  obtain ⟨hlt, he⟩ := List.getElem?_eq_some_iff.1 hi
  have hm := List.mem_of_getElem? hi
  have hap := List.pairwise_iff_getElem.1 h.apart
  have others : ∀ (j : Nat) (hj : j < L.length), j ≠ i → ∀ b, (L[j]).foot b → ¬ o.foot b := fun j hj hne b h1 h2 => by
    rw [← he] at h2
    rcases Nat.lt_or_ge j i with h3 | h3
    · exact hap j i hj hlt h3 b h1 h2
    · exact hap i j hlt hj (by omega) b h2 h1
  have memset : ∀ x ∈ L.set i o', x = o' ∨ ∃ (j : Nat) (hj : j < L.length), j ≠ i ∧ x = L[j] := fun x hx => by
    obtain ⟨j, hj, rfl⟩ := List.mem_iff_getElem.1 hx
    rw [List.length_set] at hj
    rw [List.getElem_set]
    by_cases e : i = j
    · exact .inl (by rw [if_pos e])
    · exact .inr ⟨j, hj, fun h => e h.symm, by rw [if_neg e]⟩
  refine ⟨⟨hc.os.trans h.chg.os, hc.tape.trans h.chg.tape, hc.output.trans h.chg.output, Nat.le_trans h.chg.size hc.size, fun k hk hn => ?_⟩, ?_, ?_, ?_⟩
  · refine (hc.block k (Nat.lt_of_lt_of_le hk h.chg.size) fun h1 => ?_).trans (h.chg.block k hk hn)
    rcases h.foot o hm k h1 with h2 | h2
    · exact hn h2
    · omega
  · intro x hx
    rcases memset x hx with rfl | ⟨j, hj, hne, rfl⟩
    · exact ho
    · have hh := h.holds _ (List.getElem_mem hj)
      exact Own.keep _ w w' hh hc.size fun b hb => hc.block b (Own.lt _ w b hh hb) (others j hj hne b hb)
  · intro x hx b hb
    rcases memset x hx with rfl | ⟨j, hj, hne, rfl⟩
    · rcases hf b hb with h1 | h1
      · exact h.foot o hm b h1
      · exact .inr (Nat.le_trans h.size h1)
    · exact h.foot _ (List.getElem_mem hj) b hb
  · have new : ∀ (j : Nat) (hj : j < L.length), j ≠ i → ∀ b, (L[j]).foot b → ¬ o'.foot b := fun j hj hne b h1 h2 => by
      rcases hf b h2 with h3 | h3
      · exact others j hj hne b h1 h3
      · have := Own.lt _ w b (h.holds _ (List.getElem_mem hj)) h1; omega
    rw [List.pairwise_iff_getElem]
    intro j k hj hk hjk b h1 h2
    rw [List.length_set] at hj hk
    rw [List.getElem_set] at h1 h2
    by_cases e1 : i = j
    · by_cases e2 : i = k
      · omega
      · rw [if_pos e1] at h1
        rw [if_neg e2] at h2
        exact new k hk (fun h => e2 h.symm) b h2 h1
    · rw [if_neg e1] at h1
      by_cases e2 : i = k
      · rw [if_pos e2] at h2
        exact new j hj (fun h => e1 h.symm) b h1 h2
      · rw [if_neg e2] at h2
        exact hap j k hj hk hjk b h1 h2
/-- A thing, said in another way. -/
theorem SH.alter (h : SH F w0 w L) (i : Nat) {o : Own} (hi : L[i]? = some o) (o' : Own) (ho : o.holds w → o'.holds w) (hf : ∀ b, o'.foot b → o.foot b) : SH F w0 w (L.set i o') :=
  h.change i hi (Chg.refl _ w) o' (ho (h.at_ i hi)) (fun b hb => .inl (hf b hb))
/-- A new block. -/
theorem SH.new (h : SH F w0 w L) (t : TypeId) (cs : List Value) : SH F w0 (w.alloc (.cells cs.toArray t)) (.blk w.heap.size t cs :: L) :=
  h.push (alloc_belowAt w _) _ (VA.new w cs t) (fun b (hb : b = _) => by omega)
/-- A block that is written. -/
theorem SH.setRow (h : SH F w0 w L) (i : Nat) {b : Nat} {t : TypeId} {cs : List Value} (hi : L[i]? = some (.blk b t cs)) (new : List Value) : SH F w0 (w.setRow b new.toArray) (L.set i (.blk b t new)) := by
  refine h.change i hi (o' := .blk b t new) ?_ ((h.va i hi).set new) (fun k hk => .inl hk)
  have := chg_grown (setRow_grown w b new.toArray)
  exact ⟨this.os, this.tape, this.output, this.size, fun k hk hn => this.block k hk (fun e => hn (by injection e with e; exact e.symm))⟩
/-- A row that a law of the kit has grown. -/
theorem SH.grow (h : SH F w0 w L) (i : Nat) {T : Ty α} {v v' : Value} {xs ys : List α} (hi : L[i]? = some (.row T v xs)) (ho : OR T w' 0 v' ys) (hg : w.grownBy w' v.ownBlock) (hat : v'.ownBlock = v.ownBlock ∨ ∃ b, v'.ownBlock = some b ∧ w.heap.size ≤ b) : SH F w0 w' (L.set i (.row T v' ys)) := by
  refine h.change i hi (chg_grown hg) _ ho (fun k (hk : v'.ownBlock = some k) => ?_)
  rcases hat with hat | ⟨b, hb, hle⟩
  · exact .inl (by show v.ownBlock = some k; rw [← hat]; exact hk)
  · exact .inr (by rw [hb] at hk; injection hk with hk; omega)
/-- Row of a call's own: a new thing. -/
theorem SH.pushRow (h : SH F w0 w L) (hb : Below w.heap.size w w') {T : Ty α} {v : Value} {xs : List α} (ho : OR T w' w.heap.size v xs) : SH F w0 w' (.row T v xs :: L) :=
  h.push hb _ (ho.lower (Nat.zero_le _)) (fun k hk => (OR.ge ho k hk).1)
theorem SH.nilRow (h : SH F w0 w L) (T : Ty α) : SH F w0 w (.row T (.slice none 0 0) [] :: L) :=
  h.push (Below.refl _ _) _ (OR.nil w 0) (fun k hk => by cases hk)
end

/-- A type of several cells. -/
structure AT (P : Program) (α : Type) where
  id : TypeId
  enc : α → List Value
  n : Nat
  len : ∀ x, (enc x).length = n
  one : ∀ x, ∀ v ∈ enc x, v.oneCell' = true
  d : TypeDesc
  under : P.underlying id = some d
  row : d.isRow = true
  size : (P.info? id).map (·.size) = some n
  zero : α
  zinfo : (P.info? id).map (·.zero) = some (some (.agg (enc zero).toArray))
  zbuilt : P.built id [] = some (enc zero).toArray
/-- Its value. -/
def AT.val (T : AT P α) (x : α) : Value := .agg (T.enc x).toArray

section
variable {ops : Array Oper} {rest : List Oper} {o o1 o2 : Oper} {a : Act} {Q : Exit → Act → World → Prop} {F : Nat → Prop} {w0 w : World} {L : List Own} {ρ : Operand → Value}

theorem AT.sz (T : AT P α) (x : α) : (P.info? T.id).map (·.size) = some (T.enc x).length := by rw [T.len]; exact T.size
/-- var x T -/
theorem wAlloc (T : AT P α) (H : SH F w0 w L) (ho : o.op = .alloc T.id) (hw : Region.wanted o (yielded ops a.tmps) = true)
    (h : ∀ w', SH F w0 w' (.blk w.heap.size T.id (T.enc T.zero) :: L) → wpList P ops Q rest (a.put o.dst (.pointer (some ⟨w.heap.size, 0, none⟩))) w') : wpList P ops Q (o :: rest) a w :=
  stepV (exec_alloc T.id ho _ (T.enc T.zero) T.zinfo rfl) hw (h _ (H.new _ _))
/-- x := y -/
theorem wVar (T : AT P α) (x : α) (H : SH F w0 w L) (ho1 : o1.op = .alloc T.id) (d : Nat) (y : Operand) (ho2 : o2.op = .store T.id (.tmp d) y)
    (hx : (a.put o1.dst (.pointer (some ⟨w.heap.size, 0, none⟩))).eval (.tmp d) = .pointer (some ⟨w.heap.size, 0, none⟩))
    (hy : (a.put o1.dst (.pointer (some ⟨w.heap.size, 0, none⟩))).eval y = .agg (T.enc x).toArray)
    (hw1 : Region.wanted o1 (yielded ops a.tmps) = true) (hw2 : Region.wanted o2 (yielded ops (a.put o1.dst (.pointer (some ⟨w.heap.size, 0, none⟩))).tmps) = true)
    (h : ∀ w', SH F w0 w' (.blk w.heap.size T.id (T.enc x) :: L) → wpList P ops Q rest ((a.put o1.dst (.pointer (some ⟨w.heap.size, 0, none⟩))).put o2.dst undef) w') : wpList P ops Q (o1 :: o2 :: rest) a w := by
  refine wpVar T.id ho1 _ (T.enc T.zero) T.zinfo rfl d y ho2 (T.enc x) hx hy (by rw [T.len, T.len]) (T.sz x) (T.one x) hw1 hw2 fun w' hv hb => h w' ?_
  exact H.push hb _ hv (fun k (hk : k = _) => by omega)
theorem wBox (T : AT P α) (x : α) (H : SH F w0 w L) (y : Operand) (ho : o.op = .box T.id y) (hx : a.eval y = .agg (T.enc x).toArray) (hw : Region.wanted o (yielded ops a.tmps) = true)
    (h : ∀ w', SH F w0 w' (.blk w.heap.size T.id (T.enc x) :: L) → wpList P ops Q rest (a.put o.dst (.pointer (some ⟨w.heap.size, 0, none⟩))) w') : wpList P ops Q (o :: rest) a w :=
  stepV (exec_box T.id y ho (T.enc x) hx) hw (h _ (H.new _ _))
theorem wLoad (T : AT P α) (x : α) (H : SH F w0 w L) (i : Nat) {b off : Nat} {t : TypeId} {cs : List Value} (hi : L[i]? = some (.blk b t cs)) (hp : (cs.drop off).take T.n = T.enc x) (y : Operand) (ho : o.op = .load T.id y) (hx : a.eval y = .pointer (some ⟨b, off, none⟩)) (hw : Region.wanted o (yielded ops a.tmps) = true)
    (h : wpList P ops Q rest (a.put o.dst (.agg (T.enc x).toArray)) w) : wpList P ops Q (o :: rest) a w :=
  stepV (exec_load T.id y ho b off hx (T.enc x) T.d ((H.va i hi).range off _ (by rw [T.len]; exact hp)) T.under T.row (T.sz x)) hw h
theorem wZero (T : AT P α) (ho : o.op = .build T.id #[]) (hw : Region.wanted o (yielded ops a.tmps) = true) (h : wpList P ops Q rest (a.put o.dst (.agg (T.enc T.zero).toArray)) w) : wpList P ops Q (o :: rest) a w :=
  stepV (exec_zero T.id ho _ T.zbuilt) hw h
theorem wStore (T : AT P α) (x : α) (H : SH F w0 w L) (i : Nat) {b : Nat} {t : TypeId} {cs : List Value} (hi : L[i]? = some (.blk b t cs)) (hl : cs.length = T.n) (p y : Operand) (ho : o.op = .store T.id p y) (hx : a.eval p = .pointer (some ⟨b, 0, none⟩)) (hy : a.eval y = .agg (T.enc x).toArray) (hw : Region.wanted o (yielded ops a.tmps) = true)
    (h : ∀ w', SH F w0 w' (L.set i (.blk b t (T.enc x))) → wpList P ops Q rest (a.put o.dst undef) w') : wpList P ops Q (o :: rest) a w :=
  stepS (exec_store T.id p y ho b hx (T.enc x) cs hy t (H.va i hi) (T.sz x) (by rw [T.len]; exact hl) (T.one x)) hw (h _ (H.setRow i hi _))
theorem wLay (T : AT P α) (x : α) (H : SH F w0 w L) (i : Nat) {b off : Nat} {t : TypeId} {cs : List Value} (hi : L[i]? = some (.blk b t cs)) (hl : off + T.n ≤ cs.length) (new : List Value) (hn : lay cs off (T.enc x) = new) (p y : Operand) (ho : o.op = .store T.id p y) (hx : a.eval p = .pointer (some ⟨b, off, none⟩)) (hy : a.eval y = .agg (T.enc x).toArray) (hw : Region.wanted o (yielded ops a.tmps) = true)
    (h : ∀ w', SH F w0 w' (L.set i (.blk b t new)) → wpList P ops Q rest (a.put o.dst undef) w') : wpList P ops Q (o :: rest) a w := by
  subst hn
  exact stepS (exec_lay T.id p y ho b off hx (T.enc x) cs (by rw [hy]; rfl) t (H.va i hi) (T.sz x) (by rw [T.len]; exact hl) (T.one x)) hw (h _ (H.setRow i hi _))
/-- A number is laid into a variable. -/
theorem wCell (t' : TypeId) (v : Value) (hs : (P.info? t').map (·.size) = some 1) (hc : v.cells = [v].toArray) (h1 : v.oneCell' = true) (H : SH F w0 w L) (i : Nat) {b off : Nat} {t : TypeId} {cs : List Value} (hi : L[i]? = some (.blk b t cs)) (hl : off + 1 ≤ cs.length) (new : List Value) (hn : lay cs off [v] = new) (p y : Operand) (ho : o.op = .store t' p y) (hx : a.eval p = .pointer (some ⟨b, off, none⟩)) (hy : a.eval y = v) (hw : Region.wanted o (yielded ops a.tmps) = true)
    (h : ∀ w', SH F w0 w' (L.set i (.blk b t new)) → wpList P ops Q rest (a.put o.dst undef) w') : wpList P ops Q (o :: rest) a w := by
  subst hn
  exact stepS (exec_lay t' p y ho b off hx [v] cs (by rw [hy]; exact hc) t (H.va i hi) (by simpa using hs) hl (fun u hu => by rw [List.mem_singleton.mp hu]; exact h1)) hw (h _ (H.setRow i hi _))
/-- A part of several cells is built, and laid. -/
theorem wLayV (t' : TypeId) (vs : List Value) (h1 : ∀ v ∈ vs, v.oneCell' = true) (hs : (P.info? t').map (·.size) = some vs.length) (H : SH F w0 w L) (i : Nat) {b off : Nat} {t : TypeId} {cs : List Value} (hi : L[i]? = some (.blk b t cs)) (hl : off + vs.length ≤ cs.length) (new : List Value) (hn : lay cs off vs = new) (p y : Operand) (ho : o.op = .store t' p y) (hx : a.eval p = .pointer (some ⟨b, off, none⟩)) (hy : a.eval y = .agg vs.toArray) (hw : Region.wanted o (yielded ops a.tmps) = true)
    (h : ∀ w', SH F w0 w' (L.set i (.blk b t new)) → wpList P ops Q rest (a.put o.dst undef) w') : wpList P ops Q (o :: rest) a w := by
  subst hn
  exact stepS (exec_lay t' p y ho b off hx vs cs (by rw [hy]; rfl) t (H.va i hi) hs hl h1) hw (h _ (H.setRow i hi _))
end
end Go.Proofs.Ytfnneneaalaagaa
