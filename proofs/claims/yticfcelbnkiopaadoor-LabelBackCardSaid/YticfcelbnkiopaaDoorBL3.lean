/- Ground of the statements LabelDecode, LabelBack, part 3: RowsSV, Sha7, Sha8, Sha9, Sha10, Sha11, Sha12, Sha13, Sha14, Sha15. -/
import Derived.Laws.CopyRow
import Derived.Test.YticfcelbnkiopaaDoorBL2
namespace Go.Proofs.YticfcelbnkiopaaDoor
set_option maxRecDepth 100000
open Go.RowKit
set_option linter.unusedSimpArgs false
set_option linter.unusedVariables false

def SVT : Ty SVV := ⟨22, 1, 24, .slice none 0 0, fun s => [s.val], fun _ => rfl, fun s u hu => by rw [List.mem_singleton.mp hu]; rfl, by decide, by decide⟩
def sV : ST Tryd.prog SVV := ⟨SVT, 192, .slice none 0 0, Tryd.underlying192, by kernel_rfl, rfl⟩
theorem SVT_all (ss : List SVV) : SVT.all ss = ss.map SVV.val := by
  unfold Ty.all
  induction ss with
  | nil => rfl
  | cons s ss ih => rw [List.flatMap_cons, ih]; rfl
/-- Nothing. -/
abbrev sv0 : SVV := (none, 0, 0)
section
variable {ops : Array Oper} {rest : List Oper} {o : Oper} {a : Act} {Q : Exit → Act → World → Prop} {F : Nat → Prop} {w0 w : World} {L : List Own} {K : Act → World → Prop}
theorem aAppS1 (H : SH F w0 w L) (s x : Operand) (ho : o.op = .call { callee := .builtin .append, args := #[s, x], argTypes := #[192, 192] }) {A B : Option Addr} {len cap n c : Nat} {xs : List SVV} {put : Value → List SVV → List Own} (hs : a.eval s = .slice A len cap) (hx : a.eval x = .slice (some ⟨w.heap.size, 0, none⟩) 1 1) [hr : HasR L (.slice A len cap) SVV SVT xs put] (hl : xs.length ≤ 1000000)
    (hw : Region.wanted o (yielded ops a.tmps) = true) (h : ∀ v1 w1 zs, Hid (zs = xs ++ [(B, n, c)]) → SH F w0 w1 (put v1 zs) → wpList Tryd.prog ops Q rest (a.put o.dst v1) w1) : wpList Tryd.prog ops Q (o :: rest) a (w.alloc (.cells #[.slice B n c] 22)) :=
  aAppLit sV [(B, n, c)] #[.slice B n c] rfl (by simp) 1 rfl H s x ho hs hx (by show (xs.length + 1) * 24 ≤ _; omega) hw h
theorem oAppS1 (H : SH F w0 w L) (s x : Operand) (ho : o.op = .call { callee := .builtin .append, args := #[s, x], argTypes := #[192, 192] }) {A B : Option Addr} {len cap n c : Nat} {xs : List SVV} {put : Value → List SVV → List Own} (hs : a.eval s = .slice A len cap) (hx : a.eval x = .slice (some ⟨w.heap.size, 0, none⟩) 1 1) [hr : HasR L (.slice A len cap) SVV SVT xs put] (hl : xs.length ≤ 1000000)
    (h : ∀ v1 w1 zs, Hid (zs = xs ++ [(B, n, c)]) → SH F w0 w1 (put v1 zs) → K (a.put o.dst v1) w1) : o.wp Tryd.prog a (w.alloc (.cells #[.slice B n c] 22)) K Q :=
  oAppL sV [(B, n, c)] #[.slice B n c] rfl (by simp) 1 rfl H s x ho hs hx (by show (xs.length + 1) * 24 ≤ _; omega) h
end
/-- A row of the call's own, as the block that it begins. -/
theorem SH.toBlkG {α : Type} {T : Ty α} {F : Nat → Prop} {w0 w : World} {L : List Own} {A : Option Addr} {len cp : Nat} {xs : List α} (h : SH F w0 w (.row T (.slice A len cp) xs :: L)) (hp : 0 < xs.length) :
    ∃ g tail, A = some ⟨g, 0, none⟩ ∧ len = xs.length ∧ xs.length ≤ cp ∧ SH F w0 w (.blk g T.id (T.all xs ++ tail) :: L) := by
  have ho := h.or0 0 rfl
  rcases ho.2 with ⟨h1, h2⟩ | ⟨g, cap, cur, hv, _, hg, h1, h2, h3, h4⟩
  · omega
  · obtain ⟨rfl, rfl, rfl⟩ : A = some ⟨g, 0, none⟩ ∧ len = xs.length ∧ cp = cap := by injection hv with e1 e2 e3; exact ⟨e1, e2, e3⟩
    have e : cur.toList = T.all xs ++ cur.toList.drop (T.all xs).length := by
      have h5 : cur.toList.take (T.all xs).length = T.all xs := by rw [Ty.all_length]; simpa using h4
      have h6 := (List.take_append_drop (T.all xs).length cur.toList).symm
      rw [h5] at h6
      exact h6
    refine ⟨g, cur.toList.drop (T.all xs).length, rfl, rfl, h1, h.change 0 rfl (Chg.refl _ w) _ ?_ (fun b hb => .inl ?_)⟩
    · show w.heap[g]? = _
      rw [hg, ← e]
    · show Value.ownBlock _ = some b
      rw [show b = g from hb]; rfl

/-- v reads as xs in all worlds that came of w by changes of block g alone. -/
def KBw (g : Nat) (w : World) (v : Value) (xs : List UInt8) : Prop := ∀ w', Chg (fun k => k = g) w w' → RB w' v xs
theorem KBw.rb {g : Nat} {w : World} {v : Value} {xs : List UInt8} (h : KBw g w v xs) : RB w v xs := h w (Chg.refl _ w)
theorem Chg.trans2 {F : Nat → Prop} {a b c : World} (h : Chg F a b) (k : Chg F b c) : Chg F a c := ⟨k.os.trans h.os, k.tape.trans h.tape, k.output.trans h.output, Nat.le_trans h.size k.size, fun i hi hn => (k.block i (Nat.lt_of_lt_of_le hi h.size) hn).trans (h.block i hi hn)⟩
theorem KBw.step {g : Nat} {w w' : World} {v : Value} {xs : List UInt8} (h : KBw g w v xs) (hc : Chg (fun k => k = g) w w') : KBw g w' v xs := fun w2 h2 => h w2 (hc.trans2 h2)
theorem KBw.below {g : Nat} {w w' : World} {v : Value} {xs : List UInt8} (h : KBw g w v xs) (hb : Below w.heap.size w w') : KBw g w' v xs := h.step (chg_below hb _)
theorem KBw.old {g : Nat} {w : World} {v : Value} {xs : List UInt8} (h : RB w v xs) (hg : w.heap.size ≤ g) : KBw g w v xs := fun w' hc =>
  h.below ⟨hc.os, hc.tape, hc.output, hc.size, fun k hk => hc.block k hk (fun e => by have : k = g := e; omega)⟩
theorem SH.kb {F : Nat → Prop} {w0 w : World} {L : List Own} {v : Value} {xs : List UInt8} {g : Nat} {t : TypeId} {cs : List Value} {put : List Value → List Own} (h : SH F w0 w (.row B8 v xs :: L)) [hb : HasB L g t cs put] : KBw g w v xs := fun w' hc => by
  obtain ⟨i, h1, _⟩ := hb.ix
  have hap := (List.pairwise_cons.1 h.apart).1 _ (List.mem_of_getElem? h1)
  have ho : (Own.row B8 v xs).holds w := h.holds _ (List.mem_cons_self ..)
  exact OR.reads (base := 0) (T := B8) (Own.keep (Own.row B8 v xs) w w' ho hc.size fun b hf => hc.block b (Own.lt (Own.row B8 v xs) w b ho hf) fun e => hap b hf e)

/-- The slices of ss read as the rows of N, whatever becomes of block g. -/
structure LR (g : Nat) (w : World) (ss : List SVV) (N : List (List UInt8)) : Prop where
  len : ss.length = N.length
  at_ : ∀ i, i < N.length → KBw g w (ss.getD i sv0).val (N.getD i [])
theorem LR.step {g : Nat} {w w' : World} {ss : List SVV} {N : List (List UInt8)} (h : LR g w ss N) (hc : Chg (fun k => k = g) w w') : LR g w' ss N := ⟨h.len, fun i hi => (h.at_ i hi).step hc⟩
theorem LR.below {g : Nat} {w w' : World} {ss : List SVV} {N : List (List UInt8)} (h : LR g w ss N) (hb : Below w.heap.size w w') : LR g w' ss N := h.step (chg_below hb _)
theorem LR.set {g : Nat} {w : World} {ss : List SVV} {N : List (List UInt8)} (h : LR g w ss N) (i : Nat) (s : SVV) (x : List UInt8) (hk : KBw g w s.val x) : LR g w (ss.set i s) (N.set i x) := by
  refine ⟨by rw [List.length_set, List.length_set]; exact h.len, fun j hj => ?_⟩
  rw [List.length_set] at hj
  have hl := h.len
  by_cases e : i = j
  · subst e
    rw [List.getD_eq_getElem?_getD, List.getElem?_set_self (by omega), List.getD_eq_getElem?_getD, List.getElem?_set_self hj]
    exact hk
  · rw [List.getD_eq_getElem?_getD, List.getElem?_set_ne e, List.getD_eq_getElem?_getD (l := N.set i x), List.getElem?_set_ne e, ← List.getD_eq_getElem?_getD, ← List.getD_eq_getElem?_getD]
    exact h.at_ j hj
theorem svcell (ss : List SVV) (tail : List Value) (i : Nat) (hi : i < ss.length) : (ss.map SVV.val ++ tail)[i]? = some (ss.getD i sv0).val := by
  rw [List.getElem?_append_left (by rw [List.length_map]; exact hi), List.getElem?_map, List.getD_eq_getElem?_getD, List.getElem?_eq_getElem hi]; rfl
theorem svset (ss : List SVV) (tail : List Value) (i : Nat) (s : SVV) (hi : i < ss.length) : (ss.map SVV.val ++ tail).set i s.val = (ss.set i s).map SVV.val ++ tail := by
  rw [List.set_append_left _ _ (by rw [List.length_map]; exact hi), List.map_set]
/-- The slices of ss read as the rows of N. -/
def LB (w : World) (ss : List SVV) (N : List (List UInt8)) : Prop := ss.length = N.length ∧ ∀ i, i < N.length → RB w (ss.getD i sv0).val (N.getD i [])
theorem LB.below {w w' : World} {ss : List SVV} {N : List (List UInt8)} (h : LB w ss N) (hb : Below w.heap.size w w') : LB w' ss N := ⟨h.1, fun i hi => (h.2 i hi).below hb⟩
theorem getD_snoc {α : Type} (l : List α) (x d : α) (i : Nat) : (l ++ [x]).getD i d = if i < l.length then l.getD i d else if i = l.length then x else d := by
  by_cases e : i < l.length
  · rw [if_pos e, List.getD_eq_getElem?_getD, List.getElem?_append_left e, ← List.getD_eq_getElem?_getD]
  · rw [if_neg e, List.getD_eq_getElem?_getD, List.getElem?_append_right (by omega)]
    by_cases e2 : i = l.length
    · rw [if_pos e2, e2, Nat.sub_self]; rfl
    · rw [if_neg e2, List.getElem?_eq_none (by simp; omega)]; rfl
theorem LB.snoc {w : World} {ss : List SVV} {N : List (List UInt8)} (h : LB w ss N) (s : SVV) (x : List UInt8) (hk : RB w s.val x) : LB w (ss ++ [s]) (N ++ [x]) := by
  refine ⟨by rw [List.length_append, List.length_append, h.1]; rfl, fun i hi => ?_⟩
  rw [List.length_append, List.length_singleton] at hi
  have hl := h.1
  rw [getD_snoc, getD_snoc]
  by_cases e : i < N.length
  · rw [if_pos e, if_pos (by omega)]; exact h.2 i e
  · rw [if_neg e, if_neg (by omega), if_pos (by omega), if_pos (by omega)]; exact hk
/-- What slice s stands in. -/
def svF (s : SVV) (x : List UInt8) (k : Nat) : Prop := 0 < x.length ∧ ∃ ad : Addr, s.1 = some ad ∧ ad.block = k
/-- All rows that slices read, as one thing. -/
def Own.rdAll (ss : List SVV) (N : List (List UInt8)) : Own where
  foot k := ∃ i, i < N.length ∧ svF (ss.getD i sv0) (N.getD i []) k
  holds w := LB w ss N
  lt w k h e := by
    obtain ⟨i, hi, hp, ad, he, rfl⟩ := e
    have := h.2 i hi
    refine Own.lt (Own.rd B8 (ss.getD i sv0).val (N.getD i [])) w _ this ⟨hp, ad, (ss.getD i sv0).2.1, (ss.getD i sv0).2.2, ?_, rfl⟩
    rw [SVV.val, he]
  keep w w' h hs hk := ⟨h.1, fun i hi => Own.keep (Own.rd B8 (ss.getD i sv0).val (N.getD i [])) w w' (h.2 i hi) hs fun b ⟨hp, ad, n, c, he, hb⟩ => hk b ⟨i, hi, hp, ad, by unfold SVV.val at he; injection he, hb⟩⟩
theorem SH.rdNil {F : Nat → Prop} {w0 w : World} {L : List Own} (h : SH F w0 w L) : SH F w0 w (.rdAll [] [] :: L) :=
  h.push (Below.refl _ _) _ ⟨rfl, fun i hi => by simp at hi⟩ (fun b ⟨i, hi, _⟩ => by simp at hi)
/-- A row of the call's own joins them. -/
theorem SH.rdSnoc {F : Nat → Prop} {w0 w : World} {L : List Own} {A : Option Addr} {n c : Nat} {x : List UInt8} {ss : List SVV} {N : List (List UInt8)} (h : SH F w0 w (.row B8 (.slice A n c) x :: .rdAll ss N :: L)) : SH F w0 w (.rdAll (ss ++ [(A, n, c)]) (N ++ [x]) :: L) := by
  have ho : OR B8 w 0 (.slice A n c) x := h.or0 0 rfl
  have hl : ss.length = N.length := (h.at_ 1 rfl).1
  refine h.merge _ (fun h1 h2 => LB.snoc h2 _ x (OR.reads h1)) fun b ⟨i, hi, hf⟩ => ?_
  rw [List.length_append, List.length_singleton] at hi
  rw [getD_snoc, getD_snoc] at hf
  by_cases e : i < N.length
  · rw [if_pos e, if_pos (by omega)] at hf
    exact .inr ⟨i, e, hf⟩
  · rw [if_neg e, if_neg (by omega), if_pos (by omega), if_pos (by omega)] at hf
    obtain ⟨hp, ad, he, hb⟩ := hf
    left
    obtain ⟨g, cap, hv, _, _⟩ := ho.form hp
    show (Value.slice A n c).ownBlock = some b
    injection hv with e1 e2 e3
    rw [e1] at he ⊢
    injection he with he
    rw [← hb, ← he]
    rfl
end Go.Proofs.YticfcelbnkiopaaDoor

namespace Go.Proofs.YticfcelbnkiopaaDoor
set_option maxRecDepth 100000
open Go.RowKit
set_option linter.unusedSimpArgs false
set_option linter.unusedVariables false

section
variable {P : Program} {ops : Array Oper} {rest : List Oper} {o : Oper} {a : Act} {Q : Exit → Act → World → Prop} {F : Nat → Prop} {w0 w : World} {L : List Own} {K : Act → World → Prop} {ρ : Operand → Value}
variable {b off dLen dCap sLen sCap : Nat} {t2 : TypeId} {cs new : List Value} {put : List Value → List Own}
/-- copy(d, s) of bytes, into a block. -/
theorem xCopy (H : SH F w0 w L) (d s : Operand) (ho : o.op = .call { callee := .builtin .copy, args := #[d, s], argTypes := #[22, 22] }) (hd : ρ d = .slice (some ⟨b, off, none⟩) dLen dCap) {ad : Addr} (hs : ρ s = .slice (some ad) sLen sCap) [hb : HasB L b t2 cs put]
    (xs : List UInt8) (hx : xs.length = Nat.min sLen dLen) (hsrc : ∀ (j : Nat) (u : Value), (xs.map cb)[j]? = some u → w.cell? (ad.add j) = some u) (hfit : off + xs.length ≤ cs.length) (hn : lay cs off (xs.map cb) = new) :
    ∃ w', (execOp ρ o).run Tryd.prog w = .ok (.value (.int .i64 (xs.length : Int))) w' ∧ Chg (fun k => k = b) w w' ∧ SH F w0 w' (put new) := by
  obtain ⟨i, h2, h3⟩ := hb.ix
  subst hn
  have hl : (xs.map cb).length = xs.length := List.length_map ..
  have hr := run_copy_row (P := Tryd.prog) w 22 22 o.type 5 b off dLen dCap ad sLen sCap cs.toArray t2 (xs.map cb) Tryd.underlying22 (by kernel_rfl) (H.va i h2) (by rw [hl]; exact hx) hsrc (by rw [hl]; simpa using hfit) (List.all_eq_true.1 (one_all xs))
  refine ⟨w.setRow b (lay cs off (xs.map cb)).toArray, ?_, ?_, ?_⟩
  rotate_left
  · have := chg_grown (setRow_grown w b (lay cs off (xs.map cb)).toArray)
    exact ⟨this.os, this.tape, this.output, this.size, fun k hk hn => this.block k hk (fun e => hn (by injection e with e; exact e.symm))⟩
  · rw [← h3]
    exact H.setRow i h2 _
  · unfold execOp
    simp only [ho, resolve, invoke, builtin, Sem.run_bind, Sem.run_pure, Result.andThen_ok, List.map_toArray, List.map_cons, List.map_nil, hd, hs, hr, hl, lay]
    rfl
end
theorem addr_mid (g off k : Nat) : (⟨g, off, none⟩ : Addr).add k = ⟨g, off + k, none⟩ := Addr.add_mid g off k
theorem oCopyB {o : Oper} {a : Act} {Q : Exit → Act → World → Prop} {F : Nat → Prop} {w0 w : World} {L : List Own} {K : Act → World → Prop} {b off dLen dCap sLen sCap : Nat} {t2 : TypeId} {cs new : List Value} {put : List Value → List Own}
    (H : SH F w0 w L) (d s : Operand) (ho : o.op = .call { callee := .builtin .copy, args := #[d, s], argTypes := #[22, 22] }) (hd : a.eval d = .slice (some ⟨b, off, none⟩) dLen dCap) {ad : Addr} (hs : a.eval s = .slice (some ad) sLen sCap) [hb : HasB L b t2 cs put]
    (xs : List UInt8) (hx : xs.length = Nat.min sLen dLen) (hsrc : ∀ (j : Nat) (u : Value), (xs.map cb)[j]? = some u → w.cell? (ad.add j) = some u) (hfit : off + xs.length ≤ cs.length) (hn : lay cs off (xs.map cb) = new)
    (h : ∀ w', Chg (fun k => k = b) w w' → SH F w0 w' (put new) → K (a.put o.dst (.int .i64 (xs.length : Int))) w') : o.wp Tryd.prog a w K Q := by
  obtain ⟨w', hr, hch, H'⟩ := xCopy (ρ := a.eval) H d s ho hd hs xs hx hsrc hfit hn
  exact opV hr (h w' hch H')
/-- A cut of the block of a hash. -/
theorem cutBlk (b hd : Nat) (h : hd < 64) (W : World) : (Instr.sliceAt 220 (.pointer (some ⟨b, 8, none⟩)) (some (.int .i64 (hd : Int))) none none).run Tryd.prog W = .ok (.slice (some ⟨b, 8 + hd, none⟩) (64 - hd) (64 - hd)) W := by
  have hel : Tryd.prog.elem 220 = 5 := by simp [Program.elem, Tryd.underlying220]
  have hal : Tryd.prog.arrayLen 220 = 64 := by simp [Program.arrayLen, Tryd.underlying220]
  obtain ⟨i0, hi, hz⟩ := Option.map_eq_some_iff.1 Tryd.info_u8
  simp only [Prod.mk.injEq] at hz
  obtain ⟨_, hsz, _⟩ := hz
  have hne : (64 : Nat) ≠ hd := by omega
  rw [run_sliceAt_array_l W 220 ⟨b, 8, none⟩ (by rw [hal, hel]; exact Tryd.underlying220) .i64 (hd : Int) (by omega) (by rw [hal]; omega), hel, size_of _ (by kernel_rfl), hal]
  simp only [Result.andThen_ok, slicedAt, Int.toNat_natCast, if_neg hne, Nat.mul_one, addr_mid]
theorem cutKB {g : Nat} {w : World} {A : Option Addr} {c : Nat} {xs : List UInt8} (h : KBw g w (.slice A xs.length c) xs) (n : Nat) (hn : n ≤ xs.length) :
    ∃ A', (∀ (kl : IntKind) (W : World), (Instr.slice 22 (.slice A xs.length c) (some (.int kl (n : Int))) none none).run Tryd.prog W = .ok (.slice A' (xs.length - n) (c - n)) W) ∧ KBw g w (.slice A' (xs.length - n) (c - n)) (xs.drop n) := by
  have hc : xs.length ≤ c := by
    obtain ⟨A', c', e, h1⟩ := h.rb.len
    injection e with e1 e2 e3
    omega
  obtain ⟨A', -, h2, -, h3⟩ := cutB A c xs n xs.length hn (Nat.le_refl _) hc
  refine ⟨A', fun kl W => h2 kl W rfl, fun w' hw => ?_⟩
  have := h3 w' (h w' hw)
  rw [List.take_of_length_le (Nat.le_refl _)] at this
  exact this
/-- What a hash that goes on holds of a text. -/
structure HashIs (msg : List UInt8) (s : S8) (blk : List UInt8) (held : Nat) : Prop where
  st : s = foldB msg (msg.length / 64)
  bl : blk.length = 64
  hd : held = msg.length % 64
  tk : blk.take held = msg.drop (64 * (msg.length / 64))
theorem HashIs.start : HashIs [] S8.start (List.replicate 64 0) 0 := ⟨rfl, by simp, rfl, rfl⟩
theorem foldB_app (l x : List UInt8) : ∀ n, 64 * n ≤ l.length → foldB (l ++ x) n = foldB l n
  | 0, _ => rfl
  | n + 1, h => by
    rw [foldB, foldB, foldB_app l x n (by omega), List.drop_append_of_le_length (by omega), List.take_append_of_le_length (by rw [List.length_drop]; omega)]
def putB (blk : List UInt8) (held : Nat) (ys : List UInt8) : List UInt8 := blk.take held ++ ys ++ blk.drop (held + ys.length)
theorem putB_len (blk : List UInt8) (held : Nat) (ys : List UInt8) (hb : blk.length = 64) (h : held + ys.length ≤ 64) : (putB blk held ys).length = 64 := by
  rw [putB, List.length_append, List.length_append, List.length_take, List.length_drop, hb]; omega
theorem HashIs.more {msg : List UInt8} {s : S8} {blk : List UInt8} {held : Nat} (h : HashIs msg s blk held) (ys : List UInt8) (hy : held + ys.length < 64) : HashIs (msg ++ ys) s (putB blk held ys) (held + ys.length) := by
  have hd := h.hd
  have hq : (msg ++ ys).length / 64 = msg.length / 64 := by rw [List.length_append]; omega
  refine ⟨by rw [hq, foldB_app _ _ _ (by omega)]; exact h.st, putB_len _ _ _ h.bl (by omega), by rw [List.length_append]; omega, ?_⟩
  rw [hq, List.drop_append_of_le_length (by omega), ← h.tk, putB, List.append_assoc, ← List.append_assoc, List.take_left' (by rw [List.length_append, List.length_take, h.bl]; omega)]
theorem HashIs.full {msg : List UInt8} {s : S8} {blk : List UInt8} {held : Nat} (h : HashIs msg s blk held) (ys : List UInt8) (hy : held + ys.length = 64) : HashIs (msg ++ ys) (compB s (putB blk held ys)) (putB blk held ys) 0 := by
  have hd := h.hd
  have hq : (msg ++ ys).length / 64 = msg.length / 64 + 1 := by rw [List.length_append]; omega
  have hp : putB blk held ys = msg.drop (64 * (msg.length / 64)) ++ ys := by
    rw [putB, List.drop_of_length_le (by rw [h.bl]; omega), List.append_nil, h.tk]
  refine ⟨?_, putB_len _ _ _ h.bl (by omega), by rw [List.length_append]; omega, ?_⟩
  · rw [hq, foldB, foldB_app _ _ _ (by omega), ← h.st, List.drop_append_of_le_length (by omega), ← hp, List.take_of_length_le (by rw [putB_len _ _ _ h.bl (by omega)]; omega)]
  · rw [hq, List.take_zero, List.drop_of_length_le (by rw [List.length_append]; omega)]
theorem hashC_lay (s : S8) (blk : List UInt8) (held long : Nat) (ys : List UInt8) (hb : blk.length = 64) (h : held + ys.length ≤ 64) : lay (hashC s blk held long) (8 + held) (ys.map cb) = hashC s (putB blk held ys) held long := by
  have e : hashC s blk held long = (s.list.map vw ++ (blk.take held).map cb) ++ ((blk.drop held).map cb ++ [.int .i64 (held : Int), .int .u64 (long : Int)]) := by
    rw [hashC, List.append_assoc, ← List.append_assoc (List.map cb (blk.take held)), ← List.map_append, List.take_append_drop]
  have hl : (s.list.map vw ++ (blk.take held).map cb).length = 8 + held := by rw [List.length_append, S8.len, List.length_map, List.length_take, hb]; omega
  rw [e, lay, List.take_left' hl, ← List.drop_drop, List.drop_left' hl, List.length_map, List.drop_append_of_le_length (by rw [List.length_map, List.length_drop, hb]; omega), ← List.map_drop, List.drop_drop, hashC, putB, List.map_append, List.map_append]
  simp only [List.append_assoc]
def relW (msg xs : List UInt8) (F : Nat → Prop) (w : World) (b long : Nat) (v1 : Value) (wr : World) : Prop :=
  ∃ (dn rs : List UInt8) (A : Option Addr) (c : Nat) (s : S8) (blk : List UInt8) (held : Nat), v1 = .slice A rs.length c ∧ KBw b wr (.slice A rs.length c) rs ∧ Hid (xs = dn ++ rs) ∧ Hid (HashIs (msg ++ dn) s blk held) ∧ SH F w wr [.blk b 222 (hashC s blk held long)]
set_option maxHeartbeats 3200000 in
theorem Write_any (msg xs : List UInt8) (s : S8) (blk : List UInt8) (held b : Nat) (vb : Value) (w : World) (hv : VA w b 222 (hashC s blk held msg.length)) (hi : HashIs msg s blk held) (hx : KBw b w vb xs) (hl : msg.length + xs.length ≤ 4611686018427387904) :
    Calls Tryd.prog 118 #[.pointer (some ⟨b, 0, none⟩), vb] w fun e w' => ∃ s' blk' held', e = .returned (.tuple #[]) ∧ HashIs (msg ++ xs) s' blk' held' ∧ SH (fun k => k = b) w w' [.blk b 222 (hashC s' blk' held' (msg ++ xs).length)] := by
  have H := SH.ofB hv
  obtain ⟨A0, c0, rfl, hc0⟩ := id hx.rb.len
  have hlong := (hv.cell 73).trans (hashC_long s blk hi.bl held msg.length)
  have hsl := hashC_setLong s blk hi.bl held msg.length (msg ++ xs).length
  have hadd : IntKind.u64.wrap ((msg.length : Int) + (xs.length : Int)) = (((msg ++ xs).length : Nat) : Int) := by rw [List.length_append, IntKind.wrap_u64]; omega
  have hcw : IntKind.u64.wrap (xs.length : Int) = (xs.length : Int) := by rw [IntKind.wrap_u64]; omega
  have hl73 := hashC_len s blk hi.bl held msg.length
  generalize hM : (msg ++ xs).length = long at *
  have HSL := Lib.hid hsl
  have HL73 := Lib.hid hl73
  have HI := Lib.hid hi
  have HX := Lib.hid hx
  have HM := Lib.hid hM
  have hxb : (xs.length : Int) ≤ 4611686018427387904 := by omega
  clear hsl hl73 hv hi hx hM
  go_enter Tryd.func118, Tryd.ntmps118
  go_wp2_with (first
    | ((with_reducible refine gDst 10 ?_); refine aLoadC _ rfl rfl hlong rfl ?_)
    | ((with_reducible refine gStore ?_); refine aCellC (v := .int .u64 (long : Int)) (new := hashC s blk held long) H _ _ rfl rfl rfl rfl rfl (by rw [HL73.out]; omega) HSL.out rfl ?_; clear H hlong; intro w' hch H; (try dsimp only at H); replace HX := Lib.hid (HX.out.step hch); clear hch))
  simp only [Act.put]
  go_loopw [1] (fun v1 wr => relW msg xs (fun k => k = b) w b long v1 wr) (fun v _ => match v with | .slice _ n _ => n | _ => 0)
  case atStart => exact ⟨[], xs, _, _, s, blk, held, rfl, HX.out, rfl, by rw [List.append_nil]; exact HI.out, H⟩
  case round =>
    obtain ⟨dn, rs, A, c, q, bk, hd, rfl, hK, HD, HH, HS⟩ := hrel
    clear H
    have H := HS
    clear HS
    have hbl := HH.out.bl
    have hdm := HH.out.hd
    have hrl : rs.length ≤ xs.length := by rw [HD.out, List.length_append]; omega
    rcases Nat.eq_zero_or_pos rs.length with h0 | h0
    · have hrs : rs = [] := List.eq_nil_of_length_eq_zero h0
      have hxd : xs = dn := by rw [HD.out, hrs, List.append_nil]
      have h0i : (rs.length : Int) = 0 := by omega
      go_wp2
      go_end0
      exact ⟨q, bk, hd, rfl, by rw [hxd]; exact HH.out, H⟩
    · have h0i : (0 : Int) < (rs.length : Int) := by omega
      have h64 : hd < 64 := by omega
      have c72 := ((H.hold.va (b := b)).cell 72).trans (hashC_held q bk hbl hd long)
      obtain ⟨n, hn⟩ : ∃ n, n = Nat.min rs.length (64 - hd) := ⟨_, rfl⟩
      have hnr : n ≤ rs.length := by rw [hn]; exact Nat.min_le_left _ _
      have hnh1 : n ≤ 64 - hd := by rw [hn]; exact Nat.min_le_right _ _
      have hnh : hd + n ≤ 64 := by omega
      have hn0 : 0 < n := by rw [hn]; exact Nat.lt_min.mpr ⟨h0, by omega⟩
      have hyl : (rs.take n).length = n := by rw [List.length_take]; omega
      have hlay := hashC_lay q bk hd long (rs.take n) hbl (by rw [hyl]; exact hnh)
      obtain ⟨A2, hcut, hK2⟩ := cutKB hK n hnr
      obtain ⟨ad, rfl, hcc⟩ := hK.rb.at0 h0
      have hsrc : ∀ (wS : World), wS.heap = wr.heap → ∀ (j : Nat) (u : Value), ((rs.take n).map cb)[j]? = some u → wS.cell? (ad.add j) = some u := fun wS e j u hj => by
        have := hcc j u (by
          rw [List.map_take, List.getElem?_take] at hj
          split at hj
          · exact hj
          · cases hj)
        unfold World.cell? at this ⊢
        rw [e]
        exact this
      have hstep := HD.out
      rw [show rs = rs.take n ++ rs.drop n from (List.take_append_drop n rs).symm, ← List.append_assoc] at hstep
      have hdl : (rs.drop n).length = rs.length - n := List.length_drop ..
      have hni : (n : Int) ≤ (rs.length : Int) := by omega
      have hmin : (rs.take n).length = Nat.min rs.length (64 - hd) := by rw [hyl, hn]
      have hHS : ∀ wS, wS = wr.drew → (∀ (j : Nat) (u : Value), ((rs.take n).map cb)[j]? = some u → wS.cell? (ad.add j) = some u) ∧ KBw b wS (.slice A2 (rs.length - n) (c - n)) (rs.drop n) := fun wS e => by
        subst e
        exact ⟨hsrc _ rfl, hK2.step (Chg.refl _ _).drew⟩
      have hdi : (hd : Int) < 64 := by omega
      have hdn : (hd : Int) + (n : Int) ≤ 64 := by omega
      have h64c : (hashC q bk hd long).length = 74 := hashC_len q bk hbl hd long
      have hmore : hd + n < 64 → HashIs (msg ++ (dn ++ rs.take n)) q (putB bk hd (rs.take n)) (hd + n) := fun h => by
        have := HH.out.more (rs.take n) (by rw [hyl]; exact h)
        rw [hyl] at this
        rw [← List.append_assoc]; exact this
      have hfull : hd + n = 64 → HashIs (msg ++ (dn ++ rs.take n)) (compB q (putB bk hd (rs.take n))) (putB bk hd (rs.take n)) 0 := fun h => by rw [← List.append_assoc]; exact HH.out.full _ (by rw [hyl]; exact h)
      have hpl := putB_len bk hd (rs.take n) hbl (by rw [hyl]; exact hnh)
      have hsh := hashC_setHeld q (putB bk hd (rs.take n)) hpl hd long (hd + n)
      have hc2 := hashC_held q (putB bk hd (rs.take n)) hpl (hd + n) long
      have hc3 := hashC_held q (putB bk hd (rs.take n)) hpl hd long
      have hpl74 := hashC_len q (putB bk hd (rs.take n)) hpl hd long
      have cT := fun (W : World) (h : VA W b 222 (hashC q (putB bk hd (rs.take n)) (hd + n) long)) => take_any q (putB bk hd (rs.take n)) (hd + n) long b W h hpl
      generalize putB bk hd (rs.take n) = bk2 at *
      generalize rs.take n = ys at *
      have HLAY := Lib.hid hlay
      have HST := Lib.hid hstep
      have HHS := Lib.hid hHS
      have HMIN := Lib.hid hmin
      have HYL := Lib.hid hyl
      have H64C := Lib.hid h64c
      have HMORE := Lib.hid hmore
      have HFULL := Lib.hid hfull
      have HSH := Lib.hid hsh
      have HC2 := Lib.hid hc2
      have HC3 := Lib.hid hc3
      have H74 := Lib.hid hpl74
      have HDL := Lib.hid hdl
      have HCT := Lib.hid cT
      clear hlay hstep hHS hmin hyl h64c hmore hfull hsh hc2 hc3 hpl74 hdl cT hsrc hcc hK hK2 hn hbl hdm hpl
      generalize rs.drop n = rs2 at *
      have hsa := fun W => cutBlk b hd h64 W
      go_wp2
      refine startA (fun i => i == 9) (by kernel_rfl) (fun wS hS => ?_)
      replace H := H.drew
      rw [← hS] at H
      have HH := H.hold
      have HS0 : Below wS.heap.size wS wS := Below.refl _ _
      replace c72 := cellS hS c72
      obtain ⟨hsr, hK3⟩ := HHS.out wS hS
      clear hS
      refine takeP 0 rfl (by kernel_rfl) (by kernel_rfl) (by kernel_rfl) (by kernel_rfl) (fun _ _ _ h => h) rfl (v := ?_) ?_ ?_
      rotate_left
      · intro w'; go_simp; (try with_reducible rfl)
      (try simp only [Act.put, List.setIfInBounds_toArray, List.set_cons_zero, List.set_cons_succ])
      refine takeP 1 rfl (by kernel_rfl) (by kernel_rfl) (by kernel_rfl) (by kernel_rfl) (fun _ _ _ h => h) rfl (v := ?_) ?_ ?_
      rotate_left
      · intro w'; go_simp; (try with_reducible rfl)
      (try simp only [Act.put, List.setIfInBounds_toArray, List.set_cons_zero, List.set_cons_succ])
      refine takeP 2 rfl (by kernel_rfl) (by kernel_rfl) (by kernel_rfl) (by kernel_rfl) (fun _ _ _ h => h) rfl (v := ?_) ?_ ?_
      rotate_left
      · intro w'; go_simp; (try with_reducible rfl)
      (try simp only [Act.put, List.setIfInBounds_toArray, List.set_cons_zero, List.set_cons_succ])
      refine takeP 3 rfl (by kernel_rfl) (by kernel_rfl) (by kernel_rfl) (by kernel_rfl) (fun _ _ _ h => h) rfl (v := ?_) ?_ ?_
      rotate_left
      · intro w'; go_simp; (try with_reducible rfl)
      (try simp only [Act.put, List.setIfInBounds_toArray, List.set_cons_zero, List.set_cons_succ])
      refine takeP 4 rfl (by kernel_rfl) (by kernel_rfl) (by kernel_rfl) (by kernel_rfl) (fun _ _ _ h => h) rfl (v := ?_) ?_ ?_
      rotate_left
      · intro w'; go_simp; (try with_reducible rfl)
      (try simp only [Act.put, List.setIfInBounds_toArray, List.set_cons_zero, List.set_cons_succ])
      refine takeP 5 rfl (by kernel_rfl) (by kernel_rfl) (by kernel_rfl) (by kernel_rfl) (fun _ _ _ h => h) rfl (v := ?_) ?_ ?_
      rotate_left
      · intro w'; go_simp; (try with_reducible rfl)
      (try simp only [Act.put, List.setIfInBounds_toArray, List.set_cons_zero, List.set_cons_succ])
      refine takeL 6 HS0 rfl (by kernel_rfl) (by kernel_rfl) (by kernel_rfl) (by kernel_rfl) (by kernel_rfl) (fun _ _ _ h => h) rfl (v := ?_) ?_ ?_
      rotate_left
      · intro w' hw'; first | (refine Eq.trans (xLoad1 (HH.below hw') _ rfl rfl (by first | exact (rfl : _ = some (Value.int _ _)) | exact (rfl : _ = some (Value.slice _ _ _)) | exact (rfl : _ = some (Value.bool _)) | exact (rfl : _ = some (Value.string _)) | exact (rfl : _ = some (Value.pointer _)) | rfl | (simp [List.getElem?_append]; done))) ?_; with_reducible rfl) | (refine Eq.trans (xLoadC _ rfl rfl (cell_below hw' (by assumption))) ?_; with_reducible rfl)
      (try simp only [Act.put, List.setIfInBounds_toArray, List.set_cons_zero, List.set_cons_succ])
      refine takeP 7 rfl (by kernel_rfl) (by kernel_rfl) (by kernel_rfl) (by kernel_rfl) (fun _ _ _ h => h) rfl (v := ?_) ?_ ?_
      rotate_left
      · intro w'; go_simp; (try with_reducible rfl)
      (try simp only [Act.put, List.setIfInBounds_toArray, List.set_cons_zero, List.set_cons_succ])
      refine takeP 8 rfl (by kernel_rfl) (by kernel_rfl) (by kernel_rfl) (by kernel_rfl) (fun _ _ _ h => h) rfl (v := ?_) ?_ ?_
      rotate_left
      · intro w'; go_simp; (try with_reducible rfl)
      (try simp only [Act.put, List.setIfInBounds_toArray, List.set_cons_zero, List.set_cons_succ])
      refine stepL 9 rfl (by kernel_rfl) rfl (fun K hK => ?_)
      (refine oCopyB H _ _ rfl rfl rfl ys HMIN.out hsr (by rw [HYL.out, H64C.out]; omega) HLAY.out ?_; clear H; intro w7 hch H; (try dsimp only at H); rw [HYL.out]; have hK4 := hK3.step hch; refine hK.out _ _ (fun h => by cases h) ?_; clear K hK HS0 hK3 hch hsr)
      (try simp only [Act.put, List.setIfInBounds_toArray, List.set_cons_zero, List.set_cons_succ])
      refine takeP 10 rfl (by kernel_rfl) (by kernel_rfl) (by kernel_rfl) (by kernel_rfl) (fun _ _ _ h => h) rfl (v := ?_) ?_ ?_
      rotate_left
      · intro w'; go_simp; (try with_reducible rfl)
      (try simp only [Act.put, List.setIfInBounds_toArray, List.set_cons_zero, List.set_cons_succ])
      refine doneL (by kernel_rfl) ?_
      have c33 := ((H.hold.va (b := b)).cell 72).trans HC3.out
      have hsum : (hd : Int) + (n : Int) = ((hd + n : Nat) : Int) := by omega
      rw [← HDL.out] at hK4 hcut
      obtain ⟨m, hm⟩ : ∃ m, m = hd + n := ⟨_, rfl⟩
      have hmb : (m : Int) ≤ 64 := by omega
      rw [← hm] at hsum
      have hc2 := HC2.out
      have hsh := HSH.out
      have hct := HCT.out
      rw [← hm] at hc2 hsh hct
      have HC2m := Lib.hid hc2
      have HSHm := Lib.hid hsh
      have HCTm := Lib.hid hct
      clear hc2 hsh hct HC2 HSH HCT
      rcases Nat.lt_or_ge m 64 with hlt | hge
      · have hne : ((m : Int) == 64) = false := beq_eq_false_iff_ne.mpr (by omega)
        have hne2 : ((m : Int) = 64) = False := eq_false (by omega)
        have hfin := HMORE.out (by omega)
        rw [← hm] at hfin
        have HFIN := Lib.hid hfin
        clear hfin hlt hm hnh hnh1 hdn
        go_wp2_with (first
          | ((with_reducible refine gDst 33 ?_); refine aLoadC _ rfl rfl c33 rfl ?_)
          | ((with_reducible refine gDst 44 ?_); refine aLoadC _ rfl rfl c44 rfl ?_)
          | ((with_reducible refine gStore ?_); refine aCellC (v := .int .i64 (m : Int)) (new := hashC q bk2 m long) H _ _ rfl rfl rfl rfl rfl (by rw [H74.out]; omega) HSHm.out rfl ?_; clear H c33; intro w8 hch H; (try dsimp only at H); replace hK4 := hK4.step hch; clear hch; have c44 := ((H.hold.va (b := b)).cell 72).trans HC2m.out))
        go_roundw
        case rel => first | exact ⟨dn ++ ys, rs2, A2, c - n, q, bk2, m, rfl, hK4, HST.out, HFIN, H⟩ | exact ⟨_, ⟨dn ++ ys, rs2, A2, c - n, q, bk2, m, rfl, hK4, HST.out, HFIN, H⟩, rfl⟩ | exact ⟨_, _, ⟨dn ++ ys, rs2, A2, c - n, q, bk2, m, rfl, hK4, HST.out, HFIN, H⟩, rfl, rfl⟩ | exact ⟨_, _, _, ⟨dn ++ ys, rs2, A2, c - n, q, bk2, m, rfl, hK4, HST.out, HFIN, H⟩, rfl, rfl, rfl⟩ | exact ⟨_, _, _, _, ⟨dn ++ ys, rs2, A2, c - n, q, bk2, m, rfl, hK4, HST.out, HFIN, H⟩, rfl, rfl, rfl, rfl⟩ | exact ⟨_, _, _, _, _, ⟨dn ++ ys, rs2, A2, c - n, q, bk2, m, rfl, hK4, HST.out, HFIN, H⟩, rfl, rfl, rfl, rfl, rfl⟩ | ((repeat (apply Exists.intro)); exact ⟨⟨dn ++ ys, rs2, A2, c - n, q, bk2, m, rfl, hK4, HST.out, HFIN, H⟩, rfl⟩)
        case measure => simp [HDL.out] <;> omega
      · have hm64 : m = 64 := by omega
        have hne : ((m : Int) == 64) = true := beq_iff_eq.mpr (by omega)
        have hne2 : ((m : Int) = 64) = True := eq_true (by omega)
        have hfin := HFULL.out (by omega)
        have HFIN := Lib.hid hfin
        clear hfin hge hm64 hm hnh hnh1 hdn
        go_wp2_with (first
          | ((with_reducible refine gDst 33 ?_); refine aLoadC _ rfl rfl c33 rfl ?_)
          | ((with_reducible refine gDst 44 ?_); refine aLoadC _ rfl rfl c44 rfl ?_)
          | ((with_reducible refine gStore ?_); refine aCellC (v := .int .i64 (m : Int)) (new := hashC q bk2 m long) H _ _ rfl rfl rfl rfl rfl (by rw [H74.out]; omega) HSHm.out rfl ?_; clear H c33; intro w8 hch H; (try dsimp only at H); replace hK4 := hK4.step hch; clear hch; have c44 := ((H.hold.va (b := b)).cell 72).trans HC2m.out)
          | (go_at_call 144; (refine (HCTm.out _ H.hold.va).mono ?_); rintro e w9 ⟨rfl, k⟩; have H9 := SH.viaB H k; (try dsimp only at H9); replace hK4 := hK4.step k.chg; clear H k c44; have H := H9; clear H9))
        go_roundw
        case rel => first | exact ⟨dn ++ ys, rs2, A2, c - n, _, bk2, 0, rfl, hK4, HST.out, HFIN, H⟩ | exact ⟨_, ⟨dn ++ ys, rs2, A2, c - n, _, bk2, 0, rfl, hK4, HST.out, HFIN, H⟩, rfl⟩ | exact ⟨_, _, ⟨dn ++ ys, rs2, A2, c - n, _, bk2, 0, rfl, hK4, HST.out, HFIN, H⟩, rfl, rfl⟩ | exact ⟨_, _, _, ⟨dn ++ ys, rs2, A2, c - n, _, bk2, 0, rfl, hK4, HST.out, HFIN, H⟩, rfl, rfl, rfl⟩ | exact ⟨_, _, _, _, ⟨dn ++ ys, rs2, A2, c - n, _, bk2, 0, rfl, hK4, HST.out, HFIN, H⟩, rfl, rfl, rfl, rfl⟩ | exact ⟨_, _, _, _, _, ⟨dn ++ ys, rs2, A2, c - n, _, bk2, 0, rfl, hK4, HST.out, HFIN, H⟩, rfl, rfl, rfl, rfl, rfl⟩ | ((repeat (apply Exists.intro)); exact ⟨⟨dn ++ ys, rs2, A2, c - n, _, bk2, 0, rfl, hK4, HST.out, HFIN, H⟩, rfl⟩)
        case measure => simp [HDL.out] <;> omega
end Go.Proofs.YticfcelbnkiopaaDoor

namespace Go.Proofs.YticfcelbnkiopaaDoor
set_option maxRecDepth 100000
open Go.RowKit
set_option linter.unusedSimpArgs false
set_option linter.unusedVariables false

/-- How many bytes of its block a hash holds, in a world. -/
def heldOf (w : World) (b : Nat) : Nat := match w.cell? ⟨b, 72, none⟩ with | some (.int _ h) => h.toNat | _ => 0
theorem heldOf_eq {w : World} {b h : Nat} (hc : w.cell? ⟨b, 72, none⟩ = some (.int .i64 (h : Int))) : heldOf w b = h := by rw [heldOf, hc]; rfl
/-- One byte is written, as a literal row. -/
theorem Write_lit (msg : List UInt8) (x : UInt8) (s : S8) (blk : List UInt8) (held b : Nat) (w0 w : World) (F : Nat → Prop) (L : List Own) (put : List Value → List Own) (H : SH F w0 w L) [hbb : HasB L b 222 (hashC s blk held msg.length) put] (hi : HashIs msg s blk held) (hl : msg.length + 1 ≤ 4611686018427387904) :
    Calls Tryd.prog 118 #[.pointer (some ⟨b, 0, none⟩), .slice (some ⟨w.heap.size, 0, none⟩) 1 1] (w.alloc (.cells #[.int .u8 (x.toNat : Int)] 5)) fun e w' => ∃ s' blk' held', e = .returned (.tuple #[]) ∧ HashIs (msg ++ [x]) s' blk' held' ∧ SH F w0 w' (put (hashC s' blk' held' (msg ++ [x]).length)) := by
  have H1 := H.pushRow (alloc_belowAt w _) (OB.lit w w.heap.size [x] #[.int .u8 (x.toNat : Int)] rfl (Nat.le_refl _) (by simp))
  have hk := H1.kb (g := b)
  refine (Write_any msg [x] s blk held b _ _ (H1.hold.va (b := b)) hi hk (by simpa using hl)).mono fun e w' ⟨s', blk', held', he, hh, hs⟩ => ⟨s', blk', held', he, hh, ?_⟩
  exact (SH.viaB H1 hs).tail
def relZ (msg : List UInt8) (w : World) (b2 b3 : Nat) (wr : World) : Prop := ∃ (z : Nat) (s : S8) (blk : List UInt8) (held : Nat), z ≤ (119 - msg.length % 64) % 64 ∧ Hid (HashIs (msg ++ [128] ++ List.replicate z 0) s blk held) ∧ SH Nil w wr [.blk b3 222 (hashC s blk held (msg ++ [128] ++ List.replicate z 0).length), .blk b2 29 (List.replicate 32 (.int .u8 0))]
def relL (msg m2 : List UInt8) (w : World) (b2 b3 : Nat) (v5 : Value) (wr : World) : Prop := ∃ (k : Nat) (s : S8) (blk : List UInt8) (held : Nat), v5 = .int .i64 (56 - 8 * (k : Int)) ∧ k ≤ 8 ∧ Hid (HashIs (m2 ++ (be8 (msg.length * 8)).take k) s blk held) ∧ SH Nil w wr [.blk b3 222 (hashC s blk held (m2 ++ (be8 (msg.length * 8)).take k).length), .blk b2 29 (List.replicate 32 (.int .u8 0))]
def outC (s : S8) (i : Nat) : List Value := ((outB s).take i ++ List.replicate (32 - i) 0).map cb
def relO2 (s : S8) (blk : List UInt8) (held long : Nat) (w : World) (b2 b3 b6 : Nat) (v36 : Value) (wr : World) : Prop := ∃ i : Nat, v36 = .int .i64 (i : Int) ∧ i ≤ 32 ∧ SH Nil w wr [.blk b6 29 (outC s i), .blk b3 222 (hashC s blk held long), .blk b2 29 (List.replicate 32 (.int .u8 0))]
theorem be8_len (n : Nat) : (be8 n).length = 8 := by simp [be8]
theorem be8_take (n k : Nat) (h : k < 8) : (be8 n).take (k + 1) = (be8 n).take k ++ [UInt8.ofNat (n / 256 ^ (7 - k))] := by
  rw [List.take_add_one, be8, List.getElem?_map, List.getElem?_range h]; rfl
theorem outB_len (s : S8) : (outB s).length = 32 := by simp [outB]
theorem outC_len (s : S8) (i : Nat) (h : i ≤ 32) : (outC s i).length = 32 := by
  rw [outC, List.length_map, List.length_append, List.length_take, outB_len, List.length_replicate]; omega
theorem outC_zero (s : S8) : outC s 0 = List.replicate 32 (.int .u8 0) := by simp [outC, cb]
theorem outC_full (s : S8) : outC s 32 = (outB s).map cb := by
  rw [outC, List.take_of_length_le (by rw [outB_len]; omega), Nat.sub_self, List.replicate_zero, List.append_nil]
theorem outB_get (s : S8) (i : Nat) (h : i < 32) : (outB s)[i]? = some (UInt8.ofNat ((s.list.getD (i / 4) 0).toNat / 256 ^ (3 - i % 4))) := by
  rw [outB, List.getElem?_map, List.getElem?_range h]; rfl
theorem outC_step (s : S8) (i : Nat) (h : i < 32) : (outC s i).set i (cb (UInt8.ofNat ((s.list.getD (i / 4) 0).toNat / 256 ^ (3 - i % 4)))) = outC s (i + 1) := by
  have ht : ((outB s).take i).length = i := by rw [List.length_take, outB_len]; omega
  rw [outC, outC, List.take_add_one, outB_get s i h, List.map_append, List.set_append_right _ _ (by rw [List.length_map, ht]; omega), List.length_map, ht, Nat.sub_self,
    show 32 - i = (32 - (i + 1)) + 1 by omega, List.replicate_succ, List.map_cons, List.set_cons_zero]
  simp
theorem hashC_word (s : S8) (blk : List UInt8) (held long p : Nat) (h : p < 8) : (hashC s blk held long)[p]? = some (vw (s.list.getD p 0)) := by
  rw [hashC, List.getElem?_append_left (by rw [S8.len]; exact h)]
  rcases p with _ | _ | _ | _ | _ | _ | _ | _ | p
  all_goals first | rfl | omega
theorem pow8 (k : Nat) : 2 ^ (8 * k) = 256 ^ k := by rw [Nat.pow_mul]
set_option maxHeartbeats 3200000 in
theorem HSum_any (msg : List UInt8) (s : S8) (blk : List UInt8) (held b : Nat) (w : World) (hv : VA w b 222 (hashC s blk held msg.length)) (hi : HashIs msg s blk held) (hl : msg.length ≤ 1000000000000) :
    Calls Tryd.prog 119 #[.pointer (some ⟨b, 0, none⟩)] w fun e w' => e = .returned (.agg ((shaL msg).map cb).toArray) ∧ Below w.heap.size w w' := by
  have H := SH.start Nil w
  have RO := HOLD.one hv
  have h74 := hashC_len s blk hi.bl held msg.length
  have hlong := hashC_long s blk hi.bl held msg.length
  have hmul : IntKind.u64.wrap ((msg.length : Int) * 8) = ((msg.length * 8 : Nat) : Int) := by rw [IntKind.wrap_u64]; omega
  have hone : ((hashC s blk held msg.length).all fun u => u.oneCell') = true := by
    rw [hashC, List.all_append, one_w, List.all_append, one_all]; rfl
  have c73 := (hv.cell 73).trans hlong
  have H74 := Lib.hid h74
  have HONE := Lib.hid hone
  have HC73 := Lib.hid c73
  have HI := Lib.hid hi
  obtain ⟨mz, hmz⟩ : ∃ mz, mz = msg.length * 8 := ⟨_, rfl⟩
  rw [← hmz] at hmul
  have HMZ := Lib.hid hmz
  clear hmz
  clear h74 hlong hone c73 hi hv
  go_enter Tryd.func119, Tryd.ntmps119
  go_wp2_with (first
    | ((with_reducible refine gDst 13 ?_); refine aLoadR RO H _ rfl rfl (part_all H74.out) H74.out rfl ?_)
    | ((with_reducible refine gDst 17 ?_); refine aLoadC _ rfl rfl (cell_below H.below HC73.out) rfl ?_)
    | ((with_reducible refine gSto (.tmp 3) (.tmp 13) ?_); refine aStore H _ _ rfl rfl rfl ⟨by rfl, H74.out⟩ HONE.out rfl ?_; clear H; intro w' H; (try dsimp only at H))
    | ((with_reducible refine gDst 2 ?_); refine aAlloc H rfl rfl ?_; clear H; intro b2 w2 H)
    | ((with_reducible refine gDst 3 ?_); refine aAlloc H rfl rfl ?_; clear H; intro b3 w3 H)
    | ((with_reducible refine gDst 6 ?_); refine aAlloc H rfl rfl ?_; clear H; intro b6 w6 H)
    | ((with_reducible refine gLoad ?_); first | (refine aLoad1 H _ rfl rfl (by first | exact (rfl : _ = some (Value.int _ _)) | exact (rfl : _ = some (Value.slice _ _ _)) | exact (rfl : _ = some (Value.bool _)) | exact (rfl : _ = some (Value.string _)) | exact (rfl : _ = some (Value.pointer _)) | rfl | (simp [List.getElem?_append]; done)) rfl ?_) | (refine aLoadC _ rfl rfl (by assumption) rfl ?_) | (refine aLoad H _ rfl rfl (by first | exact part_all (by first | rfl | simp []) | (simp only [List.drop_succ_cons, List.drop_zero, List.take_succ_cons, List.take_zero]; rfl) | (simp [List.drop_append, List.take_append]; rfl)) (by first | rfl | simp []) rfl ?_))
    | ((with_reducible refine gBuild ?_); refine aZero rfl rfl ?_)
    | ((with_reducible refine gStore ?_); (first | (refine aCell H _ _ rfl rfl (by first | exact (rfl : _ = Value.int _ _) | exact (rfl : _ = Value.bool _) | exact (rfl : _ = Value.slice _ _ _) | exact (rfl : _ = Value.string _) | exact (rfl : _ = Value.pointer _) | exact (rfl : _ = Value.func _ _ _) | rfl) (by rfl) (by rfl) (by first | exact of_decide_eq_true rfl | (simp []; done) | (simp []; omega)) (by first | (simp only [List.set_cons_zero, List.set_cons_succ]; rfl) | (simp [List.set_append]; rfl)) rfl ?_) | (refine aStore H _ _ rfl rfl rfl (by (first | exact ⟨rfl, rfl⟩ | exact ⟨by decide, rfl⟩ | (simp []; done) | (constructor <;> simp [] <;> omega))) (by first | rfl | simp [List.all_append, one_all]) rfl ?_) | (refine aLay H _ _ rfl rfl rfl (by (first | exact ⟨rfl, rfl⟩ | exact ⟨by decide, rfl⟩ | (simp []; done) | (constructor <;> simp [] <;> omega))) (by first | rfl | simp [List.all_append, one_all]) (by simp only [lay, List.take_succ_cons, List.take_zero, List.drop_succ_cons, List.drop_zero, List.nil_append, List.cons_append, List.length_cons, List.length_nil, Nat.zero_add, Nat.reduceAdd]; rfl) rfl ?_)); clear H; intro w' H; try dsimp only at H)
    | (go_at_call 118; refine (Write_lit msg 128 s blk held b3 w _ Nil _ _ H HI.out (by omega)).mono ?_; rintro e w' ⟨s1, bk1, hd1, rfl, hh1, H1⟩; (try dsimp only at H1); clear H; have H := H1; clear H1))
  go_loopw [22] (fun _ wr => relZ msg w b2 b3 wr) (fun _ wr => (120 - heldOf wr b3) % 64)
  case atStart => exact ⟨0, s1, bk1, hd1, Nat.zero_le _, by rw [List.replicate_zero, List.append_nil]; exact hh1, by rw [List.replicate_zero, List.append_nil]; exact H⟩
  case round =>
    obtain ⟨z, q, bk, hd, hz, HH, HS⟩ := hrel
    clear H
    have H := HS
    clear HS
    have hbl := HH.out.bl
    have hdm := HH.out.hd
    have hml : (msg ++ [128] ++ List.replicate z 0).length = msg.length + 1 + z := by simp; omega
    rw [hml] at hdm
    have c72 := ((H.hold.va (b := b3)).cell 72).trans (hashC_held q bk hbl hd _)
    have hho := heldOf_eq c72
    have hdi : (hd : Int) < 64 := by omega
    by_cases h56 : hd = 56
    · have hne : ((hd : Int) != 56) = false := by simp; omega
      have hne1 : ((hd : Int) == 56) = true := beq_iff_eq.mpr (by omega)
      have hz2 : z = (119 - msg.length % 64) % 64 := by omega
      obtain ⟨m2, hm2⟩ : ∃ m2, m2 = msg ++ [128] ++ List.replicate z 0 := ⟨_, rfl⟩
      rw [← hm2] at H HH hml
      have hm2' : m2 ++ be8 (msg.length * 8) = padL msg := by rw [hm2, hz2, padL]
      have HP := Lib.hid hm2'
      have HM2 := Lib.hid hml
      clear hm2 hm2' hz2 hho hdm hml
      go_wp2_with (first
        | ((with_reducible refine gDst 22 ?_); refine aLoadC _ rfl rfl c72 rfl ?_))
      go_loopw [5] (fun v5 wr => relL msg m2 w b2 b3 v5 wr) (fun v _ => ((intOf v) + 8).toNat)
      case atStart => exact ⟨0, q, bk, hd, rfl, by omega, by rw [List.take_zero, List.append_nil]; exact HH, by rw [List.take_zero, List.append_nil]; exact H⟩
      case round =>
        obtain ⟨k, q2, bk2, hd2, rfl, hk, HH2, HS⟩ := hrel
        clear H HH c72
        have H := HS
        clear HS
        by_cases hk8 : k < 8
        · have htk := be8_take (msg.length * 8) k hk8
          have hj : (56 : Int) - 8 * (k : Int) = ((56 - 8 * k : Nat) : Int) := by omega
          have hje : 56 - 8 * k = 8 * (7 - k) := by omega
          have hr : (mz : Int) / 2 ^ (56 - 8 * k) = ((msg.length * 8 / 256 ^ (7 - k) : Nat) : Int) := by rw [HMZ.out, hje, ← pow8]; push_cast; rfl
          generalize hjj : 56 - 8 * k = j at *
          have hx : IntKind.u8.wrap ((msg.length * 8 / 256 ^ (7 - k) : Nat) : Int) = ((UInt8.ofNat (msg.length * 8 / 256 ^ (7 - k))).toNat : Int) := by rw [IntKind.wrap_u8, UInt8.toNat_ofNat']; omega
          generalize msg.length * 8 / 256 ^ (7 - k) = q at *
          generalize UInt8.ofNat q = x at *
          have hxq : (q : Int) % 256 = (x.toNat : Int) := by rw [← hx, IntKind.wrap_u8]
          have hle : (j : Int) ≤ 56 := by omega
          have hj0 : ((j : Int) >= 0) := by omega
          have HTK := Lib.hid htk
          have HJJ := Lib.hid hjj
          have hmt : (m2 ++ (be8 (msg.length * 8)).take k).length + 1 ≤ 4611686018427387904 := by rw [List.length_append, List.length_take, be8_len, HM2.out]; omega
          have HMT := Lib.hid hmt
          clear htk hje hjj hmt
          have happ : m2 ++ (be8 (msg.length * 8)).take k ++ [x] = m2 ++ (be8 (msg.length * 8)).take (k + 1) := by rw [HTK.out, List.append_assoc]
          have HAPP := Lib.hid happ
          clear happ
          generalize m2 ++ (be8 (msg.length * 8)).take k = m3 at *
          rw [hj]
          go_wp2_with (first
            | (go_at_call 118; refine (Write_lit m3 x q2 bk2 hd2 b3 w _ Nil _ _ H HH2.out HMT.out).mono ?_; rintro e w' ⟨s2, bk3, hd3, rfl, hh3, H1⟩; (try dsimp only at H1); clear H; have H := H1; clear H1))
          rw [HAPP.out] at hh3 H
          go_roundw
          case rel => first | exact ⟨k + 1, s2, bk3, hd3, by have := HJJ.out; go_num, by omega, hh3, H⟩ | exact ⟨_, ⟨k + 1, s2, bk3, hd3, by have := HJJ.out; go_num, by omega, hh3, H⟩, rfl⟩ | exact ⟨_, _, ⟨k + 1, s2, bk3, hd3, by have := HJJ.out; go_num, by omega, hh3, H⟩, rfl, rfl⟩ | exact ⟨_, _, _, ⟨k + 1, s2, bk3, hd3, by have := HJJ.out; go_num, by omega, hh3, H⟩, rfl, rfl, rfl⟩ | exact ⟨_, _, _, _, ⟨k + 1, s2, bk3, hd3, by have := HJJ.out; go_num, by omega, hh3, H⟩, rfl, rfl, rfl, rfl⟩ | exact ⟨_, _, _, _, _, ⟨k + 1, s2, bk3, hd3, by have := HJJ.out; go_num, by omega, hh3, H⟩, rfl, rfl, rfl, rfl, rfl⟩ | ((repeat (apply Exists.intro)); exact ⟨⟨k + 1, s2, bk3, hd3, by have := HJJ.out; go_num, by omega, hh3, H⟩, rfl⟩)
          case measure => simp [intOf] <;> omega
        · obtain rfl : k = 8 := by omega
          have hfull : m2 ++ (be8 (msg.length * 8)).take 8 = padL msg := by rw [List.take_of_length_le (by rw [be8_len]; omega)]; exact HP.out
          rw [hfull] at H HH2
          have hst := HH2.out.st
          have hbl2 := HH2.out.bl
          have hsha : shaL msg = outB q2 := by rw [shaL, ← hst]
          have HSHA := Lib.hid hsha
          clear hst hsha hfull
          have HBL := Lib.hid hbl2
          clear hbl2
          go_wp2_with (first
            | ((with_reducible refine gDst 2 ?_); refine aAlloc H rfl rfl ?_; clear H; intro b2 w2 H)
            | ((with_reducible refine gDst 3 ?_); refine aAlloc H rfl rfl ?_; clear H; intro b3 w3 H)
            | ((with_reducible refine gDst 6 ?_); refine aAlloc H rfl rfl ?_; clear H; intro b6 w6 H)
            | ((with_reducible refine gLoad ?_); first | (refine aLoad1 H _ rfl rfl (by first | exact (rfl : _ = some (Value.int _ _)) | exact (rfl : _ = some (Value.slice _ _ _)) | exact (rfl : _ = some (Value.bool _)) | exact (rfl : _ = some (Value.string _)) | exact (rfl : _ = some (Value.pointer _)) | rfl | (simp [List.getElem?_append]; done)) rfl ?_) | (refine aLoadC _ rfl rfl (by assumption) rfl ?_) | (refine aLoad H _ rfl rfl (by first | exact part_all (by first | rfl | simp []) | (simp only [List.drop_succ_cons, List.drop_zero, List.take_succ_cons, List.take_zero]; rfl) | (simp [List.drop_append, List.take_append]; rfl)) (by first | rfl | simp []) rfl ?_))
            | ((with_reducible refine gBuild ?_); refine aZero rfl rfl ?_)
            | ((with_reducible refine gStore ?_); (first | (refine aCell H _ _ rfl rfl (by first | exact (rfl : _ = Value.int _ _) | exact (rfl : _ = Value.bool _) | exact (rfl : _ = Value.slice _ _ _) | exact (rfl : _ = Value.string _) | exact (rfl : _ = Value.pointer _) | exact (rfl : _ = Value.func _ _ _) | rfl) (by rfl) (by rfl) (by first | exact of_decide_eq_true rfl | (simp []; done) | (simp []; omega)) (by first | (simp only [List.set_cons_zero, List.set_cons_succ]; rfl) | (simp [List.set_append]; rfl)) rfl ?_) | (refine aStore H _ _ rfl rfl rfl (by (first | exact ⟨rfl, rfl⟩ | exact ⟨by decide, rfl⟩ | (simp []; done) | (constructor <;> simp [] <;> omega))) (by first | rfl | simp [List.all_append, one_all]) rfl ?_) | (refine aLay H _ _ rfl rfl rfl (by (first | exact ⟨rfl, rfl⟩ | exact ⟨by decide, rfl⟩ | (simp []; done) | (constructor <;> simp [] <;> omega))) (by first | rfl | simp [List.all_append, one_all]) (by simp only [lay, List.take_succ_cons, List.take_zero, List.drop_succ_cons, List.drop_zero, List.nil_append, List.cons_append, List.length_cons, List.length_nil, Nat.zero_add, Nat.reduceAdd]; rfl) rfl ?_)); clear H; intro w' H; try dsimp only at H))
          go_loopw [36] (fun v36 wr => relO2 q2 bk2 hd2 (padL msg).length w b2 b3 b6 v36 wr) (fun v _ => 32 - (intOf v).toNat)
          case atStart => exact ⟨0, rfl, by omega, by rw [outC_zero]; exact H⟩
          case round =>
            obtain ⟨i, rfl, hi, HS⟩ := hrel
            clear H
            have H := HS
            clear HS
            by_cases hi32 : i < 32
            · have hii : (i : Int) < 32 := by omega
              have hw := ((H.hold.va (b := b3)).cell (i / 4)).trans (hashC_word q2 bk2 hd2 _ (i / 4) (by omega))
              have hstep := outC_step q2 i hi32
              have hlen := outC_len q2 i hi
              have hq : (i : Int).tdiv 4 = ((i / 4 : Nat) : Int) := by rw [Int.tdiv_eq_ediv_of_nonneg (by omega)]; push_cast; rfl
              have hm : (i : Int).tmod 4 = ((i % 4 : Nat) : Int) := by rw [Int.tmod_eq_emod_of_nonneg (by omega)]; push_cast; rfl
              have hql : i / 4 < 8 := by omega
              have hrl : i % 4 < 4 := by omega
              have hrj : (24 : Int) - 8 * ((i % 4 : Nat) : Int) = ((24 - 8 * (i % 4) : Nat) : Int) := by omega
              have hje : 24 - 8 * (i % 4) = 8 * (3 - i % 4) := by omega
              have hr : ((q2.list.getD (i / 4) 0).toNat : Int) / 2 ^ (24 - 8 * (i % 4)) = (((q2.list.getD (i / 4) 0).toNat / 256 ^ (3 - i % 4) : Nat) : Int) := by rw [hje, ← pow8]; push_cast; rfl
              have hjl : 24 - 8 * (i % 4) ≤ 24 := by omega
              generalize 24 - 8 * (i % 4) = j at *
              have hx : IntKind.u8.wrap (((q2.list.getD (i / 4) 0).toNat / 256 ^ (3 - i % 4) : Nat) : Int) = ((UInt8.ofNat ((q2.list.getD (i / 4) 0).toNat / 256 ^ (3 - i % 4))).toNat : Int) := by rw [IntKind.wrap_u8, UInt8.toNat_ofNat']; omega
              generalize (q2.list.getD (i / 4) 0).toNat / 256 ^ (3 - i % 4) = q at *
              generalize UInt8.ofNat q = x at *
              have hxq : (q : Int) % 256 = (x.toNat : Int) := by rw [← hx, IntKind.wrap_u8]
              generalize q2.list.getD (i / 4) 0 = y at *
              generalize i / 4 = p at *
              generalize i % 4 = r at *
              have hjb : (j : Int) ≤ 24 := by omega
              have hpb : (p : Int) < 8 := by omega
              have hrb : (r : Int) < 4 := by omega
              have hpw : IntKind.i64.wrap (p : Int) = (p : Int) := i64w _ (by omega) (by omega)
              have hrw : IntKind.i64.wrap (8 * (r : Int)) = 8 * (r : Int) := i64w _ (by omega) (by omega)
              have HSTEP := Lib.hid hstep
              have HLEN := Lib.hid hlen
              clear hstep hlen hje
              go_wp2_with (first
                | ((with_reducible refine gDst 44 ?_); refine aLoadC _ rfl rfl hw rfl ?_)
                | ((with_reducible refine gSto (.tmp 51) (.tmp 50) ?_); refine aCell (v := cb x) (new := outC q2 (i + 1)) H _ _ rfl rfl rfl rfl rfl (by rw [HLEN.out]; omega) HSTEP.out rfl ?_; clear H hw; intro w' H; (try dsimp only at H)))
              go_roundw
              case rel => first | exact ⟨i + 1, by go_num, by omega, H⟩ | exact ⟨_, ⟨i + 1, by go_num, by omega, H⟩, rfl⟩ | exact ⟨_, _, ⟨i + 1, by go_num, by omega, H⟩, rfl, rfl⟩ | exact ⟨_, _, _, ⟨i + 1, by go_num, by omega, H⟩, rfl, rfl, rfl⟩ | exact ⟨_, _, _, _, ⟨i + 1, by go_num, by omega, H⟩, rfl, rfl, rfl, rfl⟩ | exact ⟨_, _, _, _, _, ⟨i + 1, by go_num, by omega, H⟩, rfl, rfl, rfl, rfl, rfl⟩ | ((repeat (apply Exists.intro)); exact ⟨⟨i + 1, by go_num, by omega, H⟩, rfl⟩)
              case measure => simp [intOf] <;> omega
            · obtain rfl : i = 32 := by omega
              rw [outC_full] at H
              have hl32 : ((outB q2).map cb).length = 32 := by rw [List.length_map, outB_len]
              go_wp2_with (first
                | ((with_reducible refine gDst 53 ?_); refine aLoad H _ rfl rfl (part_all hl32) hl32 rfl ?_)
                | ((with_reducible refine gSto (.tmp 2) (.tmp 53) ?_); refine aStore H _ _ rfl rfl rfl ⟨by rfl, hl32⟩ (one_all _) rfl ?_; clear H; intro w' H; (try dsimp only at H)))
              refine bodyPost_ret (res_cell rfl _ H.hold rfl (by exact hl32)) rfl ?_
              exact ⟨by rw [HSHA.out], H.below⟩
    · have hne : ((hd : Int) != 56) = true := by simp; omega
      have hne1 : ((hd : Int) == 56) = false := beq_eq_false_iff_ne.mpr (by omega)
      have hrep : msg ++ [128] ++ List.replicate z 0 ++ [0] = msg ++ [128] ++ List.replicate (z + 1) 0 := by rw [List.append_assoc _ _ [0], List.replicate_succ']
      have hbig : (msg ++ [128] ++ List.replicate z 0).length + 1 ≤ 4611686018427387904 := by rw [hml]; omega
      have HML := Lib.hid hml
      have HBIG := Lib.hid hbig
      have HREP := Lib.hid hrep
      have HHO := Lib.hid hho
      have HDM := Lib.hid hdm
      clear hml hbig hrep hho hdm
      generalize msg ++ [128] ++ List.replicate z 0 = m1 at *
      go_wp2_with (first
        | ((with_reducible refine gDst 22 ?_); refine aLoadC _ rfl rfl c72 rfl ?_)
        | (go_at_call 118; refine (Write_lit m1 0 q bk hd b3 w _ Nil _ _ H HH.out HBIG.out).mono ?_; rintro e w' ⟨s1, bk1, hd1, rfl, hh1, H1⟩; (try dsimp only at H1); clear H; have H := H1; clear H1))
      have hdn := hh1.hd
      have hdn2 : hd1 = (hd + 1) % 64 := by rw [hdn, List.length_append, HML.out, HDM.out]; simp
      have c72' := ((H.hold.va (b := b3)).cell 72).trans (hashC_held s1 bk1 hh1.bl hd1 _)
      have hho2 := heldOf_eq c72'
      rw [HREP.out] at hh1 H
      go_roundw
      case rel => first | exact ⟨z + 1, s1, bk1, hd1, by have := HDM.out; omega, hh1, H⟩ | exact ⟨_, ⟨z + 1, s1, bk1, hd1, by have := HDM.out; omega, hh1, H⟩, rfl⟩ | exact ⟨_, _, ⟨z + 1, s1, bk1, hd1, by have := HDM.out; omega, hh1, H⟩, rfl, rfl⟩ | exact ⟨_, _, _, ⟨z + 1, s1, bk1, hd1, by have := HDM.out; omega, hh1, H⟩, rfl, rfl, rfl⟩ | exact ⟨_, _, _, _, ⟨z + 1, s1, bk1, hd1, by have := HDM.out; omega, hh1, H⟩, rfl, rfl, rfl, rfl⟩ | exact ⟨_, _, _, _, _, ⟨z + 1, s1, bk1, hd1, by have := HDM.out; omega, hh1, H⟩, rfl, rfl, rfl, rfl, rfl⟩ | ((repeat (apply Exists.intro)); exact ⟨⟨z + 1, s1, bk1, hd1, by have := HDM.out; omega, hh1, H⟩, rfl⟩)
      case measure => rw [hho2, HHO.out]; omega
end Go.Proofs.YticfcelbnkiopaaDoor

namespace Go.Proofs.YticfcelbnkiopaaDoor
set_option maxRecDepth 100000
open Go.RowKit
set_option linter.unusedSimpArgs false
set_option linter.unusedVariables false

theorem svCell {w : World} {ad : Addr} {n c : Nat} {ss : List SVV} (h : RR SVT w (.slice (some ad) n c) ss) (i : Nat) (hi : i < ss.length) : w.cell? (ad.add i) = some (ss.getD i sv0).val := by
  obtain ⟨ad', he, h1⟩ := h.at_ i hi
  injection he with he
  subst he
  have := h1 0 _ rfl
  rw [show i * SVT.sz + 0 = i from Nat.mul_one i] at this
  rw [List.getD_eq_getElem?_getD, List.getElem?_eq_getElem hi]
  exact this
theorem flat_take {α : Type} (N : List (List α)) (i : Nat) (h : i < N.length) : (N.take (i + 1)).flatten = (N.take i).flatten ++ N.getD i [] := by
  rw [List.take_add_one, List.getElem?_eq_getElem h, List.flatten_append, List.getD_eq_getElem?_getD, List.getElem?_eq_getElem h]
  simp
theorem flat_le {α : Type} (N : List (List α)) (i : Nat) : (N.take i).flatten.length ≤ N.flatten.length := by
  have h := congrArg (fun l => l.flatten.length) (List.take_append_drop i N)
  simp only [List.flatten_append, List.length_append] at h
  omega
def relAll (N : List (List UInt8)) (w : World) (b2 b6 : Nat) (v9 : Value) (wr : World) : Prop := ∃ (i : Nat) (s : S8) (blk : List UInt8) (held : Nat), v9 = .int .i64 (i : Int) ∧ i ≤ N.length ∧ Hid (HashIs (N.take i).flatten s blk held) ∧ SH Nil w wr [.blk b6 222 (hashC s blk held (N.take i).flatten.length), .blk b2 29 (List.replicate 32 (.int .u8 0))]
set_option maxHeartbeats 3200000 in
theorem All_any (v : Value) (ss : List SVV) (N : List (List UInt8)) (w : World) (hv : RR SVT w v ss) (hL : LB w ss N) (hl : N.flatten.length ≤ 1000000000000) :
    Calls Tryd.prog 75 #[v] w fun e w' => e = .returned (.agg ((shaL N.flatten).map cb).toArray) ∧ Below w.heap.size w w' := by
  have H := SH.start Nil w
  obtain ⟨A, c, rfl, -⟩ := hv.len
  have hlen := hL.1
  rw [hlen] at hv
  rw [hlen]
  have HL := Lib.hid hL
  have HV := Lib.hid hv
  have HLEN := Lib.hid hlen
  clear hL hv hlen
  go_enter Tryd.func75, Tryd.ntmps75
  go_wp2_with (first
    | (go_at_call 117; refine (New_any _).mono ?_; rintro e w' ⟨b6, rfl, H1⟩; replace H1 := H.join H1; (try dsimp only [List.cons_append, List.nil_append] at H1); clear H; have H := H1; clear H1)
    | ((with_reducible refine gDst 2 ?_); refine aAlloc H rfl rfl ?_; clear H; intro b2 w2 H)
    | ((with_reducible refine gLoad ?_); first | (refine aLoad1 H _ rfl rfl (by first | exact (rfl : _ = some (Value.int _ _)) | exact (rfl : _ = some (Value.slice _ _ _)) | exact (rfl : _ = some (Value.bool _)) | exact (rfl : _ = some (Value.string _)) | exact (rfl : _ = some (Value.pointer _)) | rfl | (simp [List.getElem?_append]; done)) rfl ?_) | (refine aLoadC _ rfl rfl (by assumption) rfl ?_))
    | ((with_reducible refine gStore ?_); (first | (refine aStore H _ _ rfl rfl rfl (by (first | exact ⟨rfl, rfl⟩ | exact ⟨by decide, rfl⟩ | (simp []; done) | (constructor <;> simp [] <;> omega))) (by first | rfl | simp [List.all_append, one_all]) rfl ?_) | (refine aLay H _ _ rfl rfl rfl (by (first | exact ⟨rfl, rfl⟩ | exact ⟨by decide, rfl⟩ | (simp []; done) | (constructor <;> simp [] <;> omega))) (by first | rfl | simp [List.all_append, one_all]) (by simp only [lay, List.take_succ_cons, List.take_zero, List.drop_succ_cons, List.drop_zero, List.nil_append, List.cons_append, List.length_cons, List.length_nil, Nat.zero_add, Nat.reduceAdd]; rfl) rfl ?_)); clear H; intro w' H; try dsimp only at H))
  go_loopw [9] (fun v9 wr => relAll N w b2 b6 v9 wr) (fun v _ => N.length - (intOf v).toNat)
  case atStart => exact ⟨0, S8.start, _, 0, rfl, Nat.zero_le _, HashIs.start, H⟩
  case round =>
    obtain ⟨i, q, bk, hd, rfl, hi, HH, HS⟩ := hrel
    clear H
    have H := HS
    clear HS
    by_cases h : i < N.length
    · have hii : (i : Int) < (N.length : Int) := by omega
      have hb6 : w.heap.size ≤ b6 := (H.foot _ (List.mem_cons_self ..) b6 rfl).resolve_left id
      have hbw := H.below
      have hkb : KBw b6 wr (ss.getD i sv0).val (N.getD i []) := (KBw.old (HL.out.2 i h) hb6).below hbw
      have hil : i < ss.length := by rw [HLEN.out]; exact h
      obtain ⟨ad, rfl, -⟩ := HV.out.at_ i hil
      have hc := cell_below hbw (svCell HV.out i hil)
      have hfl := flat_take N i h
      have hfb := flat_le N (i + 1)
      rw [hfl, List.length_append] at hfb
      have HFL := Lib.hid hfl
      have HKB := Lib.hid hkb
      have hsz : (N.take i).flatten.length + (N.getD i []).length ≤ 4611686018427387904 := by omega
      have HSZ := Lib.hid hsz
      have HII := Lib.hid h
      have hNl : (N.length : Int) ≤ 9223372036854775807 := by have := HV.out.len; obtain ⟨_, _, _, h1⟩ := HV.out; have := h1.2.1; rw [HLEN.out] at this; omega
      clear hfl hfb hkb hsz
      generalize (N.take i).flatten = m1 at *
      generalize N.getD i [] = x at *
      generalize (ss.getD i sv0).val = vx at *
      go_wp2_with (first
        | ((with_reducible refine gDst 12 ?_); refine aLoadC _ rfl rfl hc rfl ?_)
        | (go_at_call 118; refine (Write_any m1 x q bk hd b6 vx _ (H.hold.va (b := b6)) HH.out HKB.out HSZ.out).mono ?_; rintro e w' ⟨s1, bk1, hd1, rfl, hh1, H1⟩; replace H1 := H.viaB H1; (try dsimp only at H1); clear H hc; have H := H1; clear H1))
      rw [← HFL.out] at hh1 H
      go_roundw
      case rel => first | exact ⟨i + 1, s1, bk1, hd1, by go_num, by omega, hh1, H⟩ | exact ⟨_, ⟨i + 1, s1, bk1, hd1, by go_num, by omega, hh1, H⟩, rfl⟩ | exact ⟨_, _, ⟨i + 1, s1, bk1, hd1, by go_num, by omega, hh1, H⟩, rfl, rfl⟩ | exact ⟨_, _, _, ⟨i + 1, s1, bk1, hd1, by go_num, by omega, hh1, H⟩, rfl, rfl, rfl⟩ | exact ⟨_, _, _, _, ⟨i + 1, s1, bk1, hd1, by go_num, by omega, hh1, H⟩, rfl, rfl, rfl, rfl⟩ | exact ⟨_, _, _, _, _, ⟨i + 1, s1, bk1, hd1, by go_num, by omega, hh1, H⟩, rfl, rfl, rfl, rfl, rfl⟩ | ((repeat (apply Exists.intro)); exact ⟨⟨i + 1, s1, bk1, hd1, by go_num, by omega, hh1, H⟩, rfl⟩)
      case measure => simp [intOf] <;> omega
    · obtain rfl : i = N.length := by omega
      rw [List.take_length] at H HH
      have HLB := Lib.hid hl
      go_wp2_with (first
        | (go_at_call 119; refine (HSum_any N.flatten q bk hd b6 _ (H.hold.va (b := b6)) HH.out hl).mono ?_; rintro e w' ⟨rfl, hb⟩; replace H := H.step hb)
        | ((with_reducible refine gSto (.tmp 2) (.tmp 18) ?_); refine aStore H _ _ rfl rfl rfl ⟨by rfl, by rw [List.length_map, shaL_len]⟩ (one_all _) rfl ?_; clear H; intro w' H; (try dsimp only at H)))
      have hl32 : ((shaL N.flatten).map cb).length = 32 := by rw [List.length_map, shaL_len]
      refine bodyPost_ret (res_cell rfl _ H.hold rfl (by exact hl32)) rfl ?_
      exact ⟨rfl, H.below⟩
theorem LB.one {w : World} {s : SVV} {x : List UInt8} (h : RB w s.val x) : LB w [s] [x] := ⟨rfl, fun i hi => by
  obtain rfl : i = 0 := by simpa using hi
  exact h⟩
set_option maxHeartbeats 1600000 in
theorem Sum_any (v : Value) (xs : List UInt8) (w : World) (hv : RB w v xs) (hl : xs.length ≤ 1000000000000) :
    Calls Tryd.prog 24 #[v] w fun e w' => e = .returned (.agg ((shaL xs).map cb).toArray) ∧ Below w.heap.size w w' := by
  have H := SH.start Nil w
  obtain ⟨A, c, rfl, -⟩ := hv.len
  have HV := Lib.hid hv
  clear hv
  have hA : ∀ W : World, Below w.heap.size w W → Calls Tryd.prog 75 #[.slice (some ⟨W.heap.size, 0, none⟩) 1 1] (W.alloc (.cells #[.slice A xs.length c] 22)) fun e w' => e = .returned (.agg ((shaL xs).map cb).toArray) ∧ Below (W.alloc (.cells #[.slice A xs.length c] 22)).heap.size (W.alloc (.cells #[.slice A xs.length c] 22)) w' := fun W hb => by
    have h := All_any _ [(A, xs.length, c)] [xs] (W.alloc (.cells #[.slice A xs.length c] 22)) (RR.lit SVT W [(A, xs.length, c)] #[.slice A xs.length c] rfl (by simp)) (LB.one ((HV.out.below hb).below (alloc_belowAt W _))) (by simpa using hl)
    rw [show [xs].flatten = xs by simp] at h
    exact h
  have HA := Lib.hid hA
  clear hA
  go_enter Tryd.func24, Tryd.ntmps24
  go_wp2_with (first
    | (go_at_call 75; refine (HA.out _ H.below).mono ?_; rintro e w' ⟨rfl, hb⟩; replace H := (H.step (alloc_belowAt _ _)).step hb; clear hb)
    | ((with_reducible refine gSto (.tmp 2) (.tmp 5) ?_); refine aStore H _ _ rfl rfl rfl ⟨by rfl, by rw [List.length_map, shaL_len]⟩ (one_all _) rfl ?_; clear H; intro w' H; (try dsimp only at H))
    | ((with_reducible refine gDst 2 ?_); refine aAlloc H rfl rfl ?_; clear H; intro b2 w2 H)
    | ((with_reducible refine gStore ?_); (first | (refine aStore H _ _ rfl rfl rfl (by (first | exact ⟨rfl, rfl⟩ | exact ⟨by decide, rfl⟩ | (simp []; done) | (constructor <;> simp [] <;> omega))) (by first | rfl | simp [List.all_append, one_all]) rfl ?_) | (refine aLay H _ _ rfl rfl rfl (by (first | exact ⟨rfl, rfl⟩ | exact ⟨by decide, rfl⟩ | (simp []; done) | (constructor <;> simp [] <;> omega))) (by first | rfl | simp [List.all_append, one_all]) (by simp only [lay, List.take_succ_cons, List.take_zero, List.drop_succ_cons, List.drop_zero, List.nil_append, List.cons_append, List.length_cons, List.length_nil, Nat.zero_add, Nat.reduceAdd]; rfl) rfl ?_)); clear H; intro w' H; try dsimp only at H))
  have hl32 : ((shaL xs).map cb).length = 32 := by rw [List.length_map, shaL_len]
  refine bodyPost_ret (res_cell rfl _ H.hold rfl (by exact hl32)) rfl ?_
  exact ⟨rfl, H.below⟩
end Go.Proofs.YticfcelbnkiopaaDoor

namespace Go.Proofs.YticfcelbnkiopaaDoor
set_option maxRecDepth 100000
open Go.RowKit
set_option linter.unusedSimpArgs false
set_option linter.unusedVariables false

def lenOf : Value → Nat
  | .slice _ n _ => n
  | _ => 0
def relPad (xs : List UInt8) (w : World) (v3 : Value) (wr : World) : Prop := ∃ (z : Nat) (A : Option Addr) (c n : Nat), v3 = .slice A n c ∧ n = xs.length + 1 + z ∧ z ≤ (119 - xs.length % 64) % 64 ∧ SH Nil w wr [.row B8 (.slice A n c) (xs ++ [128] ++ List.replicate z 0)]
def relPL (xs m2 : List UInt8) (w : World) (v3 v5 : Value) (wr : World) : Prop := ∃ (k : Nat) (A : Option Addr) (c n : Nat), v3 = .slice A n c ∧ v5 = .int .i64 (7 - (k : Int)) ∧ n = m2.length + k ∧ k ≤ 8 ∧ SH Nil w wr [.row B8 (.slice A n c) (m2 ++ (be8 (xs.length * 8)).take k)]
set_option maxHeartbeats 3200000 in
theorem padded_any (v : Value) (xs : List UInt8) (w : World) (hv : RB w v xs) (hl : xs.length ≤ 500000000) :
    Calls Tryd.prog 127 #[v] w fun e w' => ∃ A c, e = .returned (.slice A (padL xs).length c) ∧ OR B8 w' w.heap.size (.slice A (padL xs).length c) (padL xs) ∧ Below w.heap.size w w' := by
  have H := SH.start Nil w
  have RO := HOLD.rdOne hv
  obtain ⟨A0, c0, rfl, -⟩ := hv.len
  have hmul : IntKind.u64.wrap ((xs.length : Int) * 8) = ((xs.length * 8 : Nat) : Int) := by rw [IntKind.wrap_u64]; omega
  have hw0 : IntKind.u64.wrap (xs.length : Int) = (xs.length : Int) := by rw [IntKind.wrap_u64]; omega
  obtain ⟨mz, hmz⟩ : ∃ mz, mz = xs.length * 8 := ⟨_, rfl⟩
  rw [← hmz] at hmul
  have HMZ := Lib.hid hmz
  have hll : xs.length ≤ 1000000000 := by omega
  clear hmz hv
  go_enter Tryd.func127, Tryd.ntmps127
  go_wp2_with (first
    | ((with_reducible refine gDst 8 ?_); go_loud (refine aAppBs H _ _ rfl rfl rfl ((H.old RO).rd (.slice A0 xs.length c0)) ⟨by simp, hll⟩ rfl ?_); clear H; intro v' w' ys1 HY1 H; (try dsimp only at H); obtain ⟨A1, c1, rfl, hc1⟩ := (H.hold.rr v').len)
    | ((with_reducible refine gDst 11 ?_); refine aAppB1 128 H _ _ rfl rfl rfl (by rw [HY1.out, List.nil_append]; exact hll) rfl ?_; clear H; intro v' w' ys2 HY2 H; (try dsimp only at H); obtain ⟨A2, c2, rfl, hc2⟩ := (H.hold.rr v').len)
    | ((with_reducible refine gDst 6 ?_); refine aEmpty sB H rfl rfl ?_; clear H; intro b6 w6 H)
    | (at_builtin; refine aAppB1 _ H _ _ rfl rfl rfl (by first | omega | (have := HCL.out; omega)) rfl ?_; clear H; intro v' w' ys HY H; (try dsimp only at H); obtain ⟨A', c', rfl, hc'⟩ := (H.hold.rr v').len))
  have hy : ys2 = xs ++ [128] ++ List.replicate 0 0 := by rw [HY2.out, HY1.out]; simp
  have hyn : ys2.length = xs.length + 1 + 0 := by rw [hy]; simp
  have H2 : SH Nil w w' [.row B8 (.slice A2 ys2.length c2) (xs ++ [128] ++ List.replicate 0 0)] := by rw [← hy]; exact H
  have HYN := Lib.hid hyn
  clear hy hyn HY2 hc2
  go_loopw [3] (fun v3 wr => relPad xs w v3 wr) (fun v _ => (120 - lenOf v % 64) % 64)
  case atStart => exact ⟨0, _, _, _, rfl, HYN.out, Nat.zero_le _, H2⟩
  case round =>
    obtain ⟨z, A, c, n, rfl, hn, hz, HS⟩ := hrel
    clear H H2
    have H := HS
    clear HS
    have hm : (n : Int).tmod 64 = ((n % 64 : Nat) : Int) := by rw [Int.tmod_eq_emod_of_nonneg (by omega)]; push_cast; rfl
    have hml : (xs ++ [128] ++ List.replicate z (0 : UInt8)).length = n := by simp; omega
    have HML := Lib.hid hml
    have HN := Lib.hid hn
    clear hml
    obtain ⟨r, hr⟩ : ∃ r, r = n % 64 := ⟨_, rfl⟩
    rw [← hr] at hm
    have HR := Lib.hid hr
    by_cases h56 : r = 56
    · have hne : ((r : Int) != 56) = false := by simp; omega
      have hz2 : z = (119 - xs.length % 64) % 64 := by omega
      have hpd : xs ++ [128] ++ List.replicate z (0 : UInt8) ++ be8 (xs.length * 8) = padL xs := by rw [hz2, padL]
      have HP := Lib.hid hpd
      have hnl : n ≤ 600000000 := by omega
      clear hpd hz2 hn hz hr
      generalize xs ++ [128] ++ List.replicate z (0 : UInt8) = m2 at *
      go_wp2
      go_loopw [3, 5] (fun v3 v5 wr => relPL xs m2 w v3 v5 wr) (fun _ v _ => (intOf v + 1).toNat)
      case atStart => exact ⟨0, A, c, n, rfl, rfl, by rw [HML.out]; rfl, by omega, by rw [List.take_zero, List.append_nil]; exact H⟩
      case round =>
        obtain ⟨k, A3, c3, n3, rfl, rfl, hn3, hk, HS⟩ := hrel
        clear H
        have H := HS
        clear HS
        by_cases hk8 : k < 8
        · have htk := be8_take (xs.length * 8) k hk8
          have hj : (7 : Int) - (k : Int) = ((7 - k : Nat) : Int) := by omega
          have hr2 : (mz : Int) / 2 ^ (8 * (7 - k)) = ((xs.length * 8 / 256 ^ (7 - k) : Nat) : Int) := by rw [HMZ.out, ← pow8]; push_cast; rfl
          have hml3 : (m2 ++ (be8 (xs.length * 8)).take k).length = n3 := by rw [List.length_append, List.length_take, be8_len]; omega
          have hnl3 : n3 ≤ 1000000000 := by rw [hn3, HML.out]; omega
          have HTK := Lib.hid htk
          have HML3 := Lib.hid hml3
          have hx : IntKind.u8.wrap ((xs.length * 8 / 256 ^ (7 - k) : Nat) : Int) = ((UInt8.ofNat (xs.length * 8 / 256 ^ (7 - k))).toNat : Int) := by rw [IntKind.wrap_u8, UInt8.toNat_ofNat']; omega
          clear htk hml3
          generalize hjj : 7 - k = j at *
          generalize xs.length * 8 / 256 ^ j = q at *
          generalize UInt8.ofNat q = x at *
          have hxq : (q : Int) % 256 = (x.toNat : Int) := by rw [← hx, IntKind.wrap_u8]
          obtain ⟨j8, hj8⟩ : ∃ j8, j8 = 8 * j := ⟨_, rfl⟩
          rw [← hj8] at hr2
          have h8 : (8 : Int) * (j : Int) = (j8 : Int) := by omega
          have hj8b : (j8 : Int) ≤ 56 := by omega
          have hjb : (j : Int) ≤ 7 := by omega
          have h8w : IntKind.i64.wrap (j8 : Int) = (j8 : Int) := i64w _ (by omega) (by omega)
          have h8u : IntKind.u64.wrap (j8 : Int) = (j8 : Int) := by rw [IntKind.wrap_u64]; omega
          have HJJ := Lib.hid hjj
          have HN3 := Lib.hid hn3
          clear hj8 hjj hn3
          rw [hj]
          go_wp2_with (first
            | ((with_reducible refine gDst 35 ?_); refine aAppB1 x H _ _ rfl rfl rfl (by rw [HML3.out]; exact hnl3) rfl ?_; clear H; intro v' w' ys HY H; (try dsimp only at H); obtain ⟨A', c', rfl, hc'⟩ := (H.hold.rr v').len))
          have hy : ys = m2 ++ (be8 (xs.length * 8)).take (k + 1) := by rw [HY.out, HTK.out, List.append_assoc]
          have hyn : ys.length = m2.length + (k + 1) := by rw [HY.out, List.length_append, HML3.out, HN3.out]; rfl
          have H2 : SH Nil w w' [.row B8 (.slice A' ys.length c') (m2 ++ (be8 (xs.length * 8)).take (k + 1))] := by rw [← hy]; exact H
          have hf : (j : Int) - 1 = 7 - ((k + 1 : Nat) : Int) := by have := HJJ.out; omega
          clear hy
          go_roundw
          case rel => first | exact ⟨k + 1, A', c', ys.length, rfl, by rw [← hf], hyn, by omega, H2⟩ | exact ⟨_, ⟨k + 1, A', c', ys.length, rfl, by rw [← hf], hyn, by omega, H2⟩, rfl⟩ | exact ⟨_, _, ⟨k + 1, A', c', ys.length, rfl, by rw [← hf], hyn, by omega, H2⟩, rfl, rfl⟩ | exact ⟨_, _, _, ⟨k + 1, A', c', ys.length, rfl, by rw [← hf], hyn, by omega, H2⟩, rfl, rfl, rfl⟩ | exact ⟨_, _, _, _, ⟨k + 1, A', c', ys.length, rfl, by rw [← hf], hyn, by omega, H2⟩, rfl, rfl, rfl, rfl⟩ | exact ⟨_, _, _, _, _, ⟨k + 1, A', c', ys.length, rfl, by rw [← hf], hyn, by omega, H2⟩, rfl, rfl, rfl, rfl, rfl⟩ | ((repeat (apply Exists.intro)); exact ⟨⟨k + 1, A', c', ys.length, rfl, by rw [← hf], hyn, by omega, H2⟩, rfl⟩)
          case measure => simp [intOf] <;> omega
        · obtain rfl : k = 8 := by omega
          have hfull : m2 ++ (be8 (xs.length * 8)).take 8 = padL xs := by rw [List.take_of_length_le (by rw [be8_len]; omega)]; exact HP.out
          rw [hfull] at H
          have hlp : n3 = (padL xs).length := by rw [hn3, ← HP.out, List.length_append, be8_len]
          subst hlp
          go_wp2
          go_ret
          exact ⟨A3, c3, rfl, H.ow _, H.below⟩
    · have hne : ((r : Int) != 56) = true := by simp; omega
      have hz1 : z + 1 ≤ (119 - xs.length % 64) % 64 := by omega
      have hnl : n ≤ 1000000000 := by omega
      clear hr hn
      go_wp2_with (first
        | ((with_reducible refine gDst 18 ?_); refine aAppB1 0 H _ _ rfl rfl rfl (by rw [HML.out]; exact hnl) rfl ?_; clear H; intro v' w' ys HY H; (try dsimp only at H); obtain ⟨A', c', rfl, hc'⟩ := (H.hold.rr v').len))
      have hy : ys = xs ++ [128] ++ List.replicate (z + 1) 0 := by rw [HY.out, List.append_assoc _ _ [0], List.replicate_succ']
      have hyn : ys.length = n + 1 := by rw [HY.out, List.length_append, HML.out]; rfl
      have H2 : SH Nil w w' [.row B8 (.slice A' ys.length c') (xs ++ [128] ++ List.replicate (z + 1) 0)] := by rw [← hy]; exact H
      have hyn2 : ys.length = xs.length + 1 + (z + 1) := by have := HN.out; omega
      have hms : (120 - ys.length % 64) % 64 < (120 - n % 64) % 64 := by have := HR.out; omega
      clear hy hyn
      go_roundw
      case rel => first | exact ⟨z + 1, A', c', ys.length, rfl, hyn2, hz1, H2⟩ | exact ⟨_, ⟨z + 1, A', c', ys.length, rfl, hyn2, hz1, H2⟩, rfl⟩ | exact ⟨_, _, ⟨z + 1, A', c', ys.length, rfl, hyn2, hz1, H2⟩, rfl, rfl⟩ | exact ⟨_, _, _, ⟨z + 1, A', c', ys.length, rfl, hyn2, hz1, H2⟩, rfl, rfl, rfl⟩ | exact ⟨_, _, _, _, ⟨z + 1, A', c', ys.length, rfl, hyn2, hz1, H2⟩, rfl, rfl, rfl, rfl⟩ | exact ⟨_, _, _, _, _, ⟨z + 1, A', c', ys.length, rfl, hyn2, hz1, H2⟩, rfl, rfl, rfl, rfl, rfl⟩ | ((repeat (apply Exists.intro)); exact ⟨⟨z + 1, A', c', ys.length, rfl, hyn2, hz1, H2⟩, rfl⟩)
      case measure => exact hms
end Go.Proofs.YticfcelbnkiopaaDoor

namespace Go.Proofs.YticfcelbnkiopaaDoor
set_option maxRecDepth 100000
open Go.RowKit
set_option linter.unusedSimpArgs false
set_option linter.unusedVariables false

def relJ (N : List (List UInt8)) (w : World) (v3 v4 : Value) (wr : World) : Prop := ∃ (i : Nat) (A : Option Addr) (c : Nat), v3 = .slice A (N.take i).flatten.length c ∧ v4 = .int .i64 (i : Int) ∧ i ≤ N.length ∧ SH Nil w wr [.row B8 (.slice A (N.take i).flatten.length c) (N.take i).flatten]
end Go.Proofs.YticfcelbnkiopaaDoor

namespace Go.Proofs.YticfcelbnkiopaaDoor
set_option maxRecDepth 100000
open Go.RowKit
set_option linter.unusedSimpArgs false
set_option linter.unusedVariables false

def lenN (n : Nat) : Nat := if n = 0 then 0 else n.log2 + 1
theorem lenN_div (n k : Nat) (h : 2 ^ k ≤ n) : lenN n = lenN (n / 2 ^ k) + k := by
  have hp : 0 < 2 ^ k := Nat.two_pow_pos k
  have hd : n / 2 ^ k ≠ 0 := by have := Nat.div_pos h hp; omega
  rw [lenN, lenN, if_neg (by omega), if_neg hd]
  have e : n.log2 = (n / 2 ^ k).log2 + k := by
    have h1 := (Nat.log2_eq_iff hd).1 rfl
    refine (Nat.log2_eq_iff (by omega)).2 ⟨?_, ?_⟩
    · rw [Nat.pow_add]; exact (Nat.le_div_iff_mul_le hp).1 h1.1
    · rw [show (n / 2 ^ k).log2 + k + 1 = ((n / 2 ^ k).log2 + 1) + k by omega, Nat.pow_add]; exact (Nat.div_lt_iff_lt_mul hp).1 h1.2
  omega
theorem lenN_le (n k : Nat) (h : n < 2 ^ k) : lenN n ≤ k := by
  rw [lenN]
  split
  · omega
  · have h2 := (Nat.log2_lt (by assumption)).2 h
    omega
theorem tab_of (t : ByteArray) (m : Nat) (h : m < t.size) (hm : m < 256) (ht : ((List.range 256).all fun i => (t.data.getD i 0).toNat == lenN i) = true) : (t[m]'h).toNat = lenN m := by
  have h1 := List.all_eq_true.1 ht m (List.mem_range.2 hm)
  have h2 := beq_iff_eq.1 h1
  rw [← h2]
  have h3 : m < t.data.size := h
  rw [Array.getD, dif_pos h3]
  rfl
end Go.Proofs.YticfcelbnkiopaaDoor

namespace Go.Proofs.YticfcelbnkiopaaDoor
set_option maxRecDepth 100000
open Go.RowKit
set_option linter.unusedSimpArgs false
set_option linter.unusedVariables false

theorem Tryd.info_u32w : (Tryd.prog.info? 30).map (fun i => (i.zero, i.size, i.bytes)) = some (some (.int .u32 0), 1, 4) := by kernel_rfl
section
variable {ops : Array Oper} {rest : List Oper} {o : Oper} {a : Act} {Q : Exit → Act → World → Prop} {F : Nat → Prop} {w0 w : World} {L : List Own}
/-- make([]uint32, n). -/
theorem exec_makeW {ρ : Operand → Value} (n : Nat) (hn : n ≤ 1000000) (l c : Operand) (ho : o.op = .makeSlice 130 l c) (hl : ρ l = .int .i64 (n : Int)) (hc : ρ c = .int .i64 (n : Int)) :
    (execOp ρ o).run Tryd.prog w = .ok (.value (.slice (some ⟨w.heap.size, 0, none⟩) n n)) (w.alloc (.cells ((List.replicate n (0 : UInt32)).map vw).toArray 30)) := by
  obtain ⟨i0, hi, hz0, hz1, hz2⟩ := info_parts Tryd.info_u32w
  have h := run_make (P := Tryd.prog) w 130 30 i0 (.int .u32 0) Tryd.underlying130 hi hz0 .i64 .i64 (n : Int) (n : Int) (by omega) (by omega) (by rw [hz2]; omega) (by omega)
  have e1 : (madeCells #[.int .u32 0] n) = ((List.replicate n (0 : UInt32)).map vw).toArray := by
    apply Array.toList_inj.mp
    rw [toList_madeCells_one]
    simp
  have e2 : ((n : Int)).toNat = n := by omega
  rw [hz1, Nat.mul_one, e2] at h
  unfold execOp
  simp only [ho, hl, hc, h, Sem.run_bind, Sem.run_pure, Result.andThen_ok]
  rw [show (Value.int IntKind.u32 0).cells = #[.int .u32 0] from rfl, e1]
theorem aMakeW (n : Nat) (hn : n ≤ 1000000) (H : SH F w0 w L) (l c : Operand) (ho : o.op = .makeSlice 130 l c) (hl : a.eval l = .int .i64 (n : Int)) (hc : a.eval c = .int .i64 (n : Int)) (hw : Region.wanted o (yielded ops a.tmps) = true)
    (h : ∀ b w', SH F w0 w' (.blk b 30 ((List.replicate n (0 : UInt32)).map vw) :: L) → wpList Tryd.prog ops Q rest (a.put o.dst (.slice (some ⟨b, 0, none⟩) n n)) w') : wpList Tryd.prog ops Q (o :: rest) a w :=
  stepV (exec_makeW n hn l c ho hl hc) hw (h _ _ (H.new _ _))
end
/-- The schedule's first t words. -/
def schW (blk : List UInt8) (t : Nat) : List UInt32 := (List.range 64).map fun i => if i < t then wT blk i else 0
theorem schW_len (blk : List UInt8) (t : Nat) : (schW blk t).length = 64 := by simp [schW]
theorem schW_zero (blk : List UInt8) : schW blk 0 = List.replicate 64 0 := by
  unfold schW
  rw [show (fun i => if i < 0 then wT blk i else 0) = fun _ => (0 : UInt32) from funext fun i => if_neg (by omega)]
  rfl
theorem schW_get (blk : List UInt8) (t i : Nat) (h : i < t) (ht : t ≤ 64) : (schW blk t)[i]? = some (wT blk i) := by
  rw [schW, List.getElem?_map, List.getElem?_range (by omega), Option.map_some, if_pos h]
theorem schW_step (blk : List UInt8) (t : Nat) (ht : t < 64) : (schW blk t).set t (wT blk t) = schW blk (t + 1) := by
  apply List.ext_getElem?
  intro j
  by_cases hj : j < 64
  · rw [schW, schW, List.getElem?_map, List.getElem?_range hj, Option.map_some]
    by_cases e : t = j
    · subst e
      rw [List.getElem?_set_self (by simpa using ht), if_pos (by omega)]
    · rw [List.getElem?_set_ne e, List.getElem?_map, List.getElem?_range hj, Option.map_some]
      by_cases e2 : j < t
      · rw [if_pos e2, if_pos (by omega)]
      · rw [if_neg e2, if_neg (by omega)]
  · rw [List.getElem?_eq_none (by simp [schW]; omega), List.getElem?_eq_none (by simp [schW]; omega)]
end Go.Proofs.YticfcelbnkiopaaDoor

namespace Go.Proofs.YticfcelbnkiopaaDoor
set_option maxRecDepth 100000
open Go.RowKit
set_option linter.unusedSimpArgs false
set_option linter.unusedVariables false

theorem shl_byte (x : UInt8) (k : Nat) (hk : k ≤ 24) : (UInt32.ofNat x.toNat <<< UInt32.ofNat k).toNat = x.toNat * 2 ^ k := by
  have hx := x.toNat_lt
  have h1 : x.toNat * 2 ^ k ≤ 255 * 2 ^ 24 := Nat.mul_le_mul (by omega) (Nat.pow_le_pow_right (by omega) hk)
  have h2 : 255 * 2 ^ 24 < 2 ^ 32 := by decide
  rw [UInt32.toNat_shiftLeft, UInt32.toNat_ofNat', UInt32.toNat_ofNat', Nat.mod_eq_of_lt (by omega : k < 2 ^ 32), Nat.mod_eq_of_lt (by omega : k < 32), Nat.mod_eq_of_lt (by omega : x.toNat < 2 ^ 32), Nat.shiftLeft_eq, Nat.mod_eq_of_lt (by omega)]
theorem orAdd (i a b : Nat) (h : a < 2 ^ i) : a ||| (b * 2 ^ i) = a + b * 2 ^ i := by
  rw [Nat.or_comm, Nat.mul_comm, ← Nat.two_pow_add_eq_or_of_lt h b, Nat.add_comm]
theorem be4_or (a b c d : UInt8) : be4 a b c d = ((UInt32.ofNat a.toNat <<< UInt32.ofNat 24 ||| UInt32.ofNat b.toNat <<< UInt32.ofNat 16) ||| UInt32.ofNat c.toNat <<< UInt32.ofNat 8) ||| UInt32.ofNat d.toNat := by
  have ha := a.toNat_lt
  have hb := b.toNat_lt
  have hc := c.toNat_lt
  have hd := d.toNat_lt
  apply UInt32.toNat_inj.1
  rw [be4, UInt32.toNat_or, UInt32.toNat_or, UInt32.toNat_or, shl_byte a 24 (by omega), shl_byte b 16 (by omega), shl_byte c 8 (by omega), UInt32.toNat_ofNat', UInt32.toNat_ofNat', Nat.mod_eq_of_lt (by omega), Nat.mod_eq_of_lt (by omega)]
  rw [Nat.or_comm (a.toNat * 2 ^ 24), orAdd 24 _ _ (by omega), show b.toNat * 2 ^ 16 + a.toNat * 2 ^ 24 = (b.toNat + a.toNat * 256) * 2 ^ 16 by omega,
    Nat.or_comm _ (c.toNat * 2 ^ 8), orAdd 16 _ _ (by omega), show c.toNat * 2 ^ 8 + (b.toNat + a.toNat * 256) * 2 ^ 16 = (c.toNat + (b.toNat + a.toNat * 256) * 256) * 2 ^ 8 by omega,
    Nat.or_comm _ d.toNat, orAdd 8 _ _ (by omega)]
  omega
end Go.Proofs.YticfcelbnkiopaaDoor

namespace Go.Proofs.YticfcelbnkiopaaDoor
set_option maxRecDepth 100000
open Go.RowKit
set_option linter.unusedSimpArgs false
set_option linter.unusedVariables false

def relS15 (s : S8) (blk : List UInt8) (w : World) (b3 b6 b7 : Nat) (v8 : Value) (wr : World) : Prop := ∃ t : Nat, v8 = .int .i64 (t : Int) ∧ t ≤ 64 ∧ SH Nil w wr [.blk b7 30 ((schW blk t).map vw), .blk b6 201 (List.replicate 8 (.int .u32 0)), .blk b3 201 (s.list.map vw)]
def relR15 (s : S8) (blk : List UInt8) (w : World) (b3 b6 b7 b11 : Nat) (v12 : Value) (wr : World) : Prop := ∃ (t : Nat) (q : S8), v12 = .int .i64 (t : Int) ∧ t ≤ 64 ∧ Hid (q = runT blk s t) ∧ SH Nil w wr [.blk b11 201 (q.list.map vw), .blk b7 30 ((schW blk 64).map vw), .blk b6 201 (List.replicate 8 (.int .u32 0)), .blk b3 201 (s.list.map vw)]
theorem kCell {w : World} {v : Value} (h : RR U32T w v kL) : ∃ ad c, v = .slice (some ad) 64 c ∧ ∀ t, t < 64 → w.cell? (ad.add t) = some (vw (kT t)) := by
  obtain ⟨A, c, rfl, -⟩ := h.len
  obtain ⟨ad, rfl, -⟩ := h.at_ 0 (by decide)
  refine ⟨ad, c, rfl, fun t ht => ?_⟩
  obtain ⟨ad', he, h1⟩ := h.at_ t ht
  injection he with he
  subst he
  have h2 := h1 0 _ rfl
  rw [show t * U32T.sz + 0 = t from Nat.mul_one t] at h2
  rw [h2]
  have h3 := kT_get t ht
  rw [List.getElem?_map] at h3
  obtain ⟨y, h4, h5⟩ := Option.map_eq_some_iff.1 h3
  rw [List.getElem?_eq_getElem ht] at h4
  injection h4 with h4
  rw [← h5, ← h4]
/-- The numbers at work, to which those of before are added one by one. -/
def mixR (s t : S8) (i : Nat) : List UInt32 := (s.add t).list.take i ++ t.list.drop i
theorem mixR_step (s t : S8) (i : Nat) (hi : i < 8) : (mixR s t i).set i (s.list.getD i 0 + t.list.getD i 0) = mixR s t (i + 1) ∧ (mixR s t i)[i]? = some (t.list.getD i 0) ∧ s.list[i]? = some (s.list.getD i 0) := by
  rcases i with _ | _ | _ | _ | _ | _ | _ | _ | i
  all_goals first | exact ⟨rfl, rfl, rfl⟩ | omega
theorem mixR_len (s t : S8) (i : Nat) (hi : i ≤ 8) : (mixR s t i).length = 8 := by
  rw [mixR, List.length_append, List.length_take, List.length_drop]
  show min i 8 + (8 - i) = 8
  omega
def relM8 (s q : S8) (blk : List UInt8) (w : World) (b3 b6 b7 b11 : Nat) (v17 : Value) (wr : World) : Prop := ∃ (i : Nat), v17 = .int .i64 (i : Int) ∧ i ≤ 8 ∧ SH Nil w wr [.blk b11 201 ((mixR s q i).map vw), .blk b7 30 ((schW blk 64).map vw), .blk b6 201 (List.replicate 8 (.int .u32 0)), .blk b3 201 (s.list.map vw)]
set_option maxHeartbeats 3200000 in
theorem rblock_any (s : S8) (blk : List UInt8) (v1 v2 : Value) (w : World) (hb : blk.length = 64) (h1 : RB w v1 blk) (h2 : RR U32T w v2 kL) :
    Calls Tryd.prog 128 #[.agg (s.list.map vw).toArray, v1, v2] w fun e w' => e = .returned (.agg ((compB s blk).list.map vw).toArray) ∧ Below w.heap.size w w' := by
  have H := SH.start Nil w
  obtain ⟨ad2, cp2, rfl, hk2⟩ := kCell h2
  have HK2 := Lib.hid hk2
  clear hk2 h2
  obtain ⟨A1, c1, rfl, -⟩ := h1.len
  obtain ⟨ad1, rfl, hby⟩ := h1.byte (by omega)
  rw [hb]
  have HB := Lib.hid hb
  have HBY := Lib.hid hby
  have hsl : (s.list.map vw).length = 8 := S8.len s
  have hso : ((s.list.map vw).all fun u => u.oneCell') = true := one_w _
  have HSL := Lib.hid hsl
  have HSO := Lib.hid hso
  clear hb hby hsl hso h1
  go_enter Tryd.func128, Tryd.ntmps128
  go_wp2_with (first
    | ((with_reducible refine gDst 18 ?_); refine aMakeW 64 (by omega) H _ _ rfl rfl rfl rfl ?_; clear H; intro b7 w7 H; (try dsimp only at H))
    | ((with_reducible refine gDst 3 ?_); refine aBox H _ rfl rfl rfl ?_; clear H; intro b3 w3 H)
    | ((with_reducible refine gDst 6 ?_); refine aAlloc H rfl rfl ?_; clear H; intro b6 w6 H)
    | ((with_reducible refine gDst 11 ?_); refine aAlloc H rfl rfl ?_; clear H; intro b11 w11 H)
    | ((with_reducible refine gLoad ?_); first | (refine aLoad1 H _ rfl rfl (by first | exact (rfl : _ = some (Value.int _ _)) | exact (rfl : _ = some (Value.slice _ _ _)) | exact (rfl : _ = some (Value.bool _)) | exact (rfl : _ = some (Value.string _)) | exact (rfl : _ = some (Value.pointer _)) | rfl | (simp [List.getElem?_append]; done)) rfl ?_) | (refine aLoadC _ rfl rfl (by assumption) rfl ?_) | (refine aLoad H _ rfl rfl (by first | exact part_all (by first | rfl | simp []) | (simp only [List.drop_succ_cons, List.drop_zero, List.take_succ_cons, List.take_zero]; rfl) | (simp [List.drop_append, List.take_append]; rfl)) (by first | rfl | simp []) rfl ?_))
    | ((with_reducible refine gStore ?_); (first | (refine aStore H _ _ rfl rfl rfl (by (first | exact ⟨rfl, rfl⟩ | exact ⟨by decide, rfl⟩ | (simp []; done) | (constructor <;> simp [] <;> omega))) (by first | rfl | simp [List.all_append, one_all]) rfl ?_) | (refine aLay H _ _ rfl rfl rfl (by (first | exact ⟨rfl, rfl⟩ | exact ⟨by decide, rfl⟩ | (simp []; done) | (constructor <;> simp [] <;> omega))) (by first | rfl | simp [List.all_append, one_all]) (by simp only [lay, List.take_succ_cons, List.take_zero, List.drop_succ_cons, List.drop_zero, List.nil_append, List.cons_append, List.length_cons, List.length_nil, Nat.zero_add, Nat.reduceAdd]; rfl) rfl ?_)); clear H; intro w' H; try dsimp only at H))
  rw [← schW_zero blk] at H
  go_loopw [8] (fun v8 wr => relS15 s blk w b3 b6 b7 v8 wr) (fun v _ => 64 - (intOf v).toNat)
  case atStart => exact ⟨0, rfl, by omega, H⟩
  case round =>
    obtain ⟨t, rfl, ht, HS⟩ := hrel
    clear H
    have H := HS
    clear HS
    by_cases h64 : t < 64
    · have hti : (t : Int) < 64 := by omega
      have hset : ((schW blk t).map vw).set t (vw (wT blk t)) = (schW blk (t + 1)).map vw := List.map_set.symm.trans (congrArg (List.map vw) (schW_step blk t h64))
      have hlen := schW_len blk t
      by_cases h16 : t < 16
      · have h16i : (t : Int) < 16 := by omega
        have hlow := wT_low blk t h16
        rw [wordB, be4_or] at hlow
        have hbl := HB.out
        have c0 := cell_below H.below (HBY.out (4 * t) (by omega))
        have c1' := cell_below H.below (HBY.out (4 * t + 1) (by omega))
        have c2 := cell_below H.below (HBY.out (4 * t + 2) (by omega))
        have c3 := cell_below H.below (HBY.out (4 * t + 3) (by omega))
        generalize blk.getD (4 * t) 0 = x0 at *
        generalize blk.getD (4 * t + 1) 0 = x1 at *
        generalize blk.getD (4 * t + 2) 0 = x2 at *
        generalize blk.getD (4 * t + 3) 0 = x3 at *
        have n0 : (UInt32.ofNat x0.toNat).toNat = x0.toNat := ofNat32 _ (by have := x0.toNat_lt; omega)
        have n1 : (UInt32.ofNat x1.toNat).toNat = x1.toNat := ofNat32 _ (by have := x1.toNat_lt; omega)
        have n2 : (UInt32.ofNat x2.toNat).toNat = x2.toNat := ofNat32 _ (by have := x2.toNat_lt; omega)
        have n3 : (UInt32.ofNat x3.toNat).toNat = x3.toNat := ofNat32 _ (by have := x3.toNat_lt; omega)
        have q0 : IntKind.u32.wrap ((x0.toNat : Int)) = (x0.toNat : Int) := by rw [IntKind.wrap_u32]; have := x0.toNat_lt; omega
        have q1 : IntKind.u32.wrap ((x1.toNat : Int)) = (x1.toNat : Int) := by rw [IntKind.wrap_u32]; have := x1.toNat_lt; omega
        have q2 : IntKind.u32.wrap ((x2.toNat : Int)) = (x2.toNat : Int) := by rw [IntKind.wrap_u32]; have := x2.toNat_lt; omega
        have q3 : IntKind.u32.wrap ((x3.toNat : Int)) = (x3.toNat : Int) := by rw [IntKind.wrap_u32]; have := x3.toNat_lt; omega
        have s0 := shl32 (UInt32.ofNat x0.toNat) 24 (by decide)
        have s1 := shl32 (UInt32.ofNat x1.toNat) 16 (by decide)
        have s2 := shl32 (UInt32.ofNat x2.toNat) 8 (by decide)
        have o1 := orW32 (UInt32.ofNat x0.toNat <<< UInt32.ofNat 24) (UInt32.ofNat x1.toNat <<< UInt32.ofNat 16)
        have o2 := orW32 (UInt32.ofNat x0.toNat <<< UInt32.ofNat 24 ||| UInt32.ofNat x1.toNat <<< UInt32.ofNat 16) (UInt32.ofNat x2.toNat <<< UInt32.ofNat 8)
        have o3 := orW32 ((UInt32.ofNat x0.toNat <<< UInt32.ofNat 24 ||| UInt32.ofNat x1.toNat <<< UInt32.ofNat 16) ||| UInt32.ofNat x2.toNat <<< UInt32.ofNat 8) (UInt32.ofNat x3.toNat)
        rw [← hlow] at o3
        rw [n0, show (2 : Int) ^ 24 = 16777216 from rfl] at s0
        rw [n1, show (2 : Int) ^ 16 = 65536 from rfl] at s1
        rw [n2, show (2 : Int) ^ 8 = 256 from rfl] at s2
        rw [n3] at o3
        clear n0 n1 n2 n3 hlow
        generalize wT blk t = r at *
        generalize UInt32.ofNat x0.toNat <<< UInt32.ofNat 24 = y0 at *
        generalize UInt32.ofNat x1.toNat <<< UInt32.ofNat 16 = y1 at *
        generalize UInt32.ofNat x2.toNat <<< UInt32.ofNat 8 = y2 at *
        generalize y0 ||| y1 = y01 at *
        generalize y01 ||| y2 = y012 at *
        generalize hu1 : 4 * t + 1 = u1 at *
        generalize hu2 : 4 * t + 2 = u2 at *
        generalize hu3 : 4 * t + 3 = u3 at *
        obtain ⟨u0, hu0⟩ : ∃ u0, u0 = 4 * t := ⟨_, rfl⟩
        rw [← hu0] at c0 hu1 hu2 hu3
        have m0 : (4 : Int) * (t : Int) = (u0 : Int) := by omega
        have m1 : (u0 : Int) + 1 = (u1 : Int) := by omega
        have m2 : (u0 : Int) + 2 = (u2 : Int) := by omega
        have m3 : (u0 : Int) + 3 = (u3 : Int) := by omega
        have g0 : (u0 : Int) < 64 := by omega
        have g1 : (u1 : Int) < 64 := by omega
        have g2 : (u2 : Int) < 64 := by omega
        have g3 : (u3 : Int) < 64 := by omega
        have k0 : IntKind.i64.wrap (u0 : Int) = (u0 : Int) := i64w _ (by omega) (by omega)
        have k1 : IntKind.i64.wrap (u1 : Int) = (u1 : Int) := i64w _ (by omega) (by omega)
        have k2 : IntKind.i64.wrap (u2 : Int) = (u2 : Int) := i64w _ (by omega) (by omega)
        have k3 : IntKind.i64.wrap (u3 : Int) = (u3 : Int) := i64w _ (by omega) (by omega)
        clear hu0 hu1 hu2 hu3
        have HSET := Lib.hid hset
        have HLEN := Lib.hid hlen
        clear hset hlen
        go_wp2
        refine startA (fun i => i == 36) (by kernel_rfl) (fun wS hS => ?_)
        replace H := H.drew
        rw [← hS] at H
        have HH := H.hold
        have HS0 : Below wS.heap.size wS wS := Below.refl _ _
        replace c0 := cellS hS c0
        replace c1' := cellS hS c1'
        replace c2 := cellS hS c2
        replace c3 := cellS hS c3
        clear hS
        refine takeP 0 rfl (by kernel_rfl) (by kernel_rfl) (by kernel_rfl) (by kernel_rfl) (fun _ _ _ h => h) rfl (v := ?_) ?_ ?_
        rotate_left
        · intro w'; go_simp; (try with_reducible rfl)
        (try simp only [Act.put, List.setIfInBounds_toArray, List.set_cons_zero, List.set_cons_succ])
        refine takeP 1 rfl (by kernel_rfl) (by kernel_rfl) (by kernel_rfl) (by kernel_rfl) (fun _ _ _ h => h) rfl (v := ?_) ?_ ?_
        rotate_left
        · intro w'; go_simp; (try with_reducible rfl)
        (try simp only [Act.put, List.setIfInBounds_toArray, List.set_cons_zero, List.set_cons_succ])
        refine takeP 2 rfl (by kernel_rfl) (by kernel_rfl) (by kernel_rfl) (by kernel_rfl) (fun _ _ _ h => h) rfl (v := ?_) ?_ ?_
        rotate_left
        · intro w'; go_simp; (try with_reducible rfl)
        (try simp only [Act.put, List.setIfInBounds_toArray, List.set_cons_zero, List.set_cons_succ])
        refine takeP 3 rfl (by kernel_rfl) (by kernel_rfl) (by kernel_rfl) (by kernel_rfl) (fun _ _ _ h => h) rfl (v := ?_) ?_ ?_
        rotate_left
        · intro w'; go_simp; (try with_reducible rfl)
        (try simp only [Act.put, List.setIfInBounds_toArray, List.set_cons_zero, List.set_cons_succ])
        refine takeP 4 rfl (by kernel_rfl) (by kernel_rfl) (by kernel_rfl) (by kernel_rfl) (fun _ _ _ h => h) rfl (v := ?_) ?_ ?_
        rotate_left
        · intro w'; go_simp; (try with_reducible rfl)
        (try simp only [Act.put, List.setIfInBounds_toArray, List.set_cons_zero, List.set_cons_succ])
        refine takeP 5 rfl (by kernel_rfl) (by kernel_rfl) (by kernel_rfl) (by kernel_rfl) (fun _ _ _ h => h) rfl (v := ?_) ?_ ?_
        rotate_left
        · intro w'; go_simp; (try with_reducible rfl)
        (try simp only [Act.put, List.setIfInBounds_toArray, List.set_cons_zero, List.set_cons_succ])
        refine takeL 6 HS0 rfl (by kernel_rfl) (by kernel_rfl) (by kernel_rfl) (by kernel_rfl) (by kernel_rfl) (fun _ _ _ h => h) rfl (v := ?_) ?_ ?_
        rotate_left
        · intro w' hw'; first | (refine Eq.trans (xLoad1 (HH.below hw') _ rfl rfl (by first | exact (rfl : _ = some (Value.int _ _)) | exact (rfl : _ = some (Value.slice _ _ _)) | exact (rfl : _ = some (Value.bool _)) | exact (rfl : _ = some (Value.string _)) | exact (rfl : _ = some (Value.pointer _)) | rfl | (simp [List.getElem?_append]; done))) ?_; with_reducible rfl) | (refine Eq.trans (xLoadC _ rfl rfl (cell_below hw' (by assumption))) ?_; with_reducible rfl)
        (try simp only [Act.put, List.setIfInBounds_toArray, List.set_cons_zero, List.set_cons_succ])
        refine takeP 7 rfl (by kernel_rfl) (by kernel_rfl) (by kernel_rfl) (by kernel_rfl) (fun _ _ _ h => h) rfl (v := ?_) ?_ ?_
        rotate_left
        · intro w'; go_simp; (try with_reducible rfl)
        (try simp only [Act.put, List.setIfInBounds_toArray, List.set_cons_zero, List.set_cons_succ])
        refine takeP 8 rfl (by kernel_rfl) (by kernel_rfl) (by kernel_rfl) (by kernel_rfl) (fun _ _ _ h => h) rfl (v := ?_) ?_ ?_
        rotate_left
        · intro w'; go_simp; (try with_reducible rfl)
        (try simp only [Act.put, List.setIfInBounds_toArray, List.set_cons_zero, List.set_cons_succ])
        refine takeP 9 rfl (by kernel_rfl) (by kernel_rfl) (by kernel_rfl) (by kernel_rfl) (fun _ _ _ h => h) rfl (v := ?_) ?_ ?_
        rotate_left
        · intro w'; go_simp; (try with_reducible rfl)
        (try simp only [Act.put, List.setIfInBounds_toArray, List.set_cons_zero, List.set_cons_succ])
        refine takeP 10 rfl (by kernel_rfl) (by kernel_rfl) (by kernel_rfl) (by kernel_rfl) (fun _ _ _ h => h) rfl (v := ?_) ?_ ?_
        rotate_left
        · intro w'; go_simp; (try with_reducible rfl)
        (try simp only [Act.put, List.setIfInBounds_toArray, List.set_cons_zero, List.set_cons_succ])
        refine takeP 11 rfl (by kernel_rfl) (by kernel_rfl) (by kernel_rfl) (by kernel_rfl) (fun _ _ _ h => h) rfl (v := ?_) ?_ ?_
        rotate_left
        · intro w'; go_simp; (try with_reducible rfl)
        (try simp only [Act.put, List.setIfInBounds_toArray, List.set_cons_zero, List.set_cons_succ])
        refine takeP 12 rfl (by kernel_rfl) (by kernel_rfl) (by kernel_rfl) (by kernel_rfl) (fun _ _ _ h => h) rfl (v := ?_) ?_ ?_
        rotate_left
        · intro w'; go_simp; (try with_reducible rfl)
        (try simp only [Act.put, List.setIfInBounds_toArray, List.set_cons_zero, List.set_cons_succ])
        refine takeP 13 rfl (by kernel_rfl) (by kernel_rfl) (by kernel_rfl) (by kernel_rfl) (fun _ _ _ h => h) rfl (v := ?_) ?_ ?_
        rotate_left
        · intro w'; go_simp; (try with_reducible rfl)
        (try simp only [Act.put, List.setIfInBounds_toArray, List.set_cons_zero, List.set_cons_succ])
        refine takeL 14 HS0 rfl (by kernel_rfl) (by kernel_rfl) (by kernel_rfl) (by kernel_rfl) (by kernel_rfl) (fun _ _ _ h => h) rfl (v := ?_) ?_ ?_
        rotate_left
        · intro w' hw'; first | (refine Eq.trans (xLoad1 (HH.below hw') _ rfl rfl (by first | exact (rfl : _ = some (Value.int _ _)) | exact (rfl : _ = some (Value.slice _ _ _)) | exact (rfl : _ = some (Value.bool _)) | exact (rfl : _ = some (Value.string _)) | exact (rfl : _ = some (Value.pointer _)) | rfl | (simp [List.getElem?_append]; done))) ?_; with_reducible rfl) | (refine Eq.trans (xLoadC _ rfl rfl (cell_below hw' (by assumption))) ?_; with_reducible rfl)
        (try simp only [Act.put, List.setIfInBounds_toArray, List.set_cons_zero, List.set_cons_succ])
        refine takeP 15 rfl (by kernel_rfl) (by kernel_rfl) (by kernel_rfl) (by kernel_rfl) (fun _ _ _ h => h) rfl (v := ?_) ?_ ?_
        rotate_left
        · intro w'; go_simp; (try with_reducible rfl)
        (try simp only [Act.put, List.setIfInBounds_toArray, List.set_cons_zero, List.set_cons_succ])
        refine takeP 16 rfl (by kernel_rfl) (by kernel_rfl) (by kernel_rfl) (by kernel_rfl) (fun _ _ _ h => h) rfl (v := ?_) ?_ ?_
        rotate_left
        · intro w'; go_simp; (try with_reducible rfl)
        (try simp only [Act.put, List.setIfInBounds_toArray, List.set_cons_zero, List.set_cons_succ])
        refine takeP 17 rfl (by kernel_rfl) (by kernel_rfl) (by kernel_rfl) (by kernel_rfl) (fun _ _ _ h => h) rfl (v := ?_) ?_ ?_
        rotate_left
        · intro w'; go_simp; (try with_reducible rfl)
        (try simp only [Act.put, List.setIfInBounds_toArray, List.set_cons_zero, List.set_cons_succ])
        refine takeP 18 rfl (by kernel_rfl) (by kernel_rfl) (by kernel_rfl) (by kernel_rfl) (fun _ _ _ h => h) rfl (v := ?_) ?_ ?_
        rotate_left
        · intro w'; go_simp; (try with_reducible rfl)
        (try simp only [Act.put, List.setIfInBounds_toArray, List.set_cons_zero, List.set_cons_succ])
        refine takeP 19 rfl (by kernel_rfl) (by kernel_rfl) (by kernel_rfl) (by kernel_rfl) (fun _ _ _ h => h) rfl (v := ?_) ?_ ?_
        rotate_left
        · intro w'; go_simp; (try with_reducible rfl)
        (try simp only [Act.put, List.setIfInBounds_toArray, List.set_cons_zero, List.set_cons_succ])
        refine takeP 20 rfl (by kernel_rfl) (by kernel_rfl) (by kernel_rfl) (by kernel_rfl) (fun _ _ _ h => h) rfl (v := ?_) ?_ ?_
        rotate_left
        · intro w'; go_simp; (try with_reducible rfl)
        (try simp only [Act.put, List.setIfInBounds_toArray, List.set_cons_zero, List.set_cons_succ])
        refine takeP 21 rfl (by kernel_rfl) (by kernel_rfl) (by kernel_rfl) (by kernel_rfl) (fun _ _ _ h => h) rfl (v := ?_) ?_ ?_
        rotate_left
        · intro w'; go_simp; (try with_reducible rfl)
        (try simp only [Act.put, List.setIfInBounds_toArray, List.set_cons_zero, List.set_cons_succ])
        refine takeP 22 rfl (by kernel_rfl) (by kernel_rfl) (by kernel_rfl) (by kernel_rfl) (fun _ _ _ h => h) rfl (v := ?_) ?_ ?_
        rotate_left
        · intro w'; go_simp; (try with_reducible rfl)
        (try simp only [Act.put, List.setIfInBounds_toArray, List.set_cons_zero, List.set_cons_succ])
        refine takeL 23 HS0 rfl (by kernel_rfl) (by kernel_rfl) (by kernel_rfl) (by kernel_rfl) (by kernel_rfl) (fun _ _ _ h => h) rfl (v := ?_) ?_ ?_
        rotate_left
        · intro w' hw'; first | (refine Eq.trans (xLoad1 (HH.below hw') _ rfl rfl (by first | exact (rfl : _ = some (Value.int _ _)) | exact (rfl : _ = some (Value.slice _ _ _)) | exact (rfl : _ = some (Value.bool _)) | exact (rfl : _ = some (Value.string _)) | exact (rfl : _ = some (Value.pointer _)) | rfl | (simp [List.getElem?_append]; done))) ?_; with_reducible rfl) | (refine Eq.trans (xLoadC _ rfl rfl (cell_below hw' (by assumption))) ?_; with_reducible rfl)
        (try simp only [Act.put, List.setIfInBounds_toArray, List.set_cons_zero, List.set_cons_succ])
        refine takeP 24 rfl (by kernel_rfl) (by kernel_rfl) (by kernel_rfl) (by kernel_rfl) (fun _ _ _ h => h) rfl (v := ?_) ?_ ?_
        rotate_left
        · intro w'; go_simp; (try with_reducible rfl)
        (try simp only [Act.put, List.setIfInBounds_toArray, List.set_cons_zero, List.set_cons_succ])
        refine takeP 25 rfl (by kernel_rfl) (by kernel_rfl) (by kernel_rfl) (by kernel_rfl) (fun _ _ _ h => h) rfl (v := ?_) ?_ ?_
        rotate_left
        · intro w'; go_simp; (try with_reducible rfl)
        (try simp only [Act.put, List.setIfInBounds_toArray, List.set_cons_zero, List.set_cons_succ])
        refine takeP 26 rfl (by kernel_rfl) (by kernel_rfl) (by kernel_rfl) (by kernel_rfl) (fun _ _ _ h => h) rfl (v := ?_) ?_ ?_
        rotate_left
        · intro w'; go_simp; (try with_reducible rfl)
        (try simp only [Act.put, List.setIfInBounds_toArray, List.set_cons_zero, List.set_cons_succ])
        refine takeP 27 rfl (by kernel_rfl) (by kernel_rfl) (by kernel_rfl) (by kernel_rfl) (fun _ _ _ h => h) rfl (v := ?_) ?_ ?_
        rotate_left
        · intro w'; go_simp; (try with_reducible rfl)
        (try simp only [Act.put, List.setIfInBounds_toArray, List.set_cons_zero, List.set_cons_succ])
        refine takeP 28 rfl (by kernel_rfl) (by kernel_rfl) (by kernel_rfl) (by kernel_rfl) (fun _ _ _ h => h) rfl (v := ?_) ?_ ?_
        rotate_left
        · intro w'; go_simp; (try with_reducible rfl)
        (try simp only [Act.put, List.setIfInBounds_toArray, List.set_cons_zero, List.set_cons_succ])
        refine takeP 29 rfl (by kernel_rfl) (by kernel_rfl) (by kernel_rfl) (by kernel_rfl) (fun _ _ _ h => h) rfl (v := ?_) ?_ ?_
        rotate_left
        · intro w'; go_simp; (try with_reducible rfl)
        (try simp only [Act.put, List.setIfInBounds_toArray, List.set_cons_zero, List.set_cons_succ])
        refine takeP 30 rfl (by kernel_rfl) (by kernel_rfl) (by kernel_rfl) (by kernel_rfl) (fun _ _ _ h => h) rfl (v := ?_) ?_ ?_
        rotate_left
        · intro w'; go_simp; (try with_reducible rfl)
        (try simp only [Act.put, List.setIfInBounds_toArray, List.set_cons_zero, List.set_cons_succ])
        refine takeP 31 rfl (by kernel_rfl) (by kernel_rfl) (by kernel_rfl) (by kernel_rfl) (fun _ _ _ h => h) rfl (v := ?_) ?_ ?_
        rotate_left
        · intro w'; go_simp; (try with_reducible rfl)
        (try simp only [Act.put, List.setIfInBounds_toArray, List.set_cons_zero, List.set_cons_succ])
        refine takeL 32 HS0 rfl (by kernel_rfl) (by kernel_rfl) (by kernel_rfl) (by kernel_rfl) (by kernel_rfl) (fun _ _ _ h => h) rfl (v := ?_) ?_ ?_
        rotate_left
        · intro w' hw'; first | (refine Eq.trans (xLoad1 (HH.below hw') _ rfl rfl (by first | exact (rfl : _ = some (Value.int _ _)) | exact (rfl : _ = some (Value.slice _ _ _)) | exact (rfl : _ = some (Value.bool _)) | exact (rfl : _ = some (Value.string _)) | exact (rfl : _ = some (Value.pointer _)) | rfl | (simp [List.getElem?_append]; done))) ?_; with_reducible rfl) | (refine Eq.trans (xLoadC _ rfl rfl (cell_below hw' (by assumption))) ?_; with_reducible rfl)
        (try simp only [Act.put, List.setIfInBounds_toArray, List.set_cons_zero, List.set_cons_succ])
        refine takeP 33 rfl (by kernel_rfl) (by kernel_rfl) (by kernel_rfl) (by kernel_rfl) (fun _ _ _ h => h) rfl (v := ?_) ?_ ?_
        rotate_left
        · intro w'; go_simp; (try with_reducible rfl)
        (try simp only [Act.put, List.setIfInBounds_toArray, List.set_cons_zero, List.set_cons_succ])
        refine takeP 34 rfl (by kernel_rfl) (by kernel_rfl) (by kernel_rfl) (by kernel_rfl) (fun _ _ _ h => h) rfl (v := ?_) ?_ ?_
        rotate_left
        · intro w'; go_simp; (try with_reducible rfl)
        (try simp only [Act.put, List.setIfInBounds_toArray, List.set_cons_zero, List.set_cons_succ])
        refine takeP 35 rfl (by kernel_rfl) (by kernel_rfl) (by kernel_rfl) (by kernel_rfl) (fun _ _ _ h => h) rfl (v := ?_) ?_ ?_
        rotate_left
        · intro w'; go_simp; (try with_reducible rfl)
        (try simp only [Act.put, List.setIfInBounds_toArray, List.set_cons_zero, List.set_cons_succ])
        refine stepL 36 rfl (by kernel_rfl) rfl (fun K hK => ?_)
        (refine oCellA (v := vw r) (new := (schW blk (t + 1)).map vw) H _ _ rfl rfl rfl rfl rfl (by rw [List.length_map, HLEN.out]; exact h64) HSET.out ?_; clear H; intro w' H; (try dsimp only at H); refine hK.out _ _ (fun h => by cases h) ?_; clear K hK HS0)
        (try simp only [Act.put, List.setIfInBounds_toArray, List.set_cons_zero, List.set_cons_succ])
        refine doneL (by kernel_rfl) ?_
        go_wp2
        go_roundw
        case rel => first | exact ⟨t + 1, by go_num, by omega, H⟩ | exact ⟨_, ⟨t + 1, by go_num, by omega, H⟩, rfl⟩ | exact ⟨_, _, ⟨t + 1, by go_num, by omega, H⟩, rfl, rfl⟩ | exact ⟨_, _, _, ⟨t + 1, by go_num, by omega, H⟩, rfl, rfl, rfl⟩ | exact ⟨_, _, _, _, ⟨t + 1, by go_num, by omega, H⟩, rfl, rfl, rfl, rfl⟩ | exact ⟨_, _, _, _, _, ⟨t + 1, by go_num, by omega, H⟩, rfl, rfl, rfl, rfl, rfl⟩ | ((repeat (apply Exists.intro)); exact ⟨⟨t + 1, by go_num, by omega, H⟩, rfl⟩)
        case measure => simp [intOf] <;> omega
      · have h16i : ((t : Int) < 16) = False := eq_false (by omega)
        have hhi := wT_high blk t (by omega)
        have c0 := ((H.hold.va (b := b7)).cell (t - 15)).trans (map_vw_get _ _ _ (schW_get blk t (t - 15) (by omega) (by omega)))
        have c1' := ((H.hold.va (b := b7)).cell (t - 2)).trans (map_vw_get _ _ _ (schW_get blk t (t - 2) (by omega) (by omega)))
        have c2 := ((H.hold.va (b := b7)).cell (t - 7)).trans (map_vw_get _ _ _ (schW_get blk t (t - 7) (by omega) (by omega)))
        have c3 := ((H.hold.va (b := b7)).cell (t - 16)).trans (map_vw_get _ _ _ (schW_get blk t (t - 16) (by omega) (by omega)))
        have G2 := map_vw_get _ _ _ (schW_get blk t (t - 7) (by omega) (by omega))
        have G3 := map_vw_get _ _ _ (schW_get blk t (t - 16) (by omega) (by omega))
        clear c2 c3
        generalize wT blk (t - 15) = x at *
        generalize wT blk (t - 2) = y at *
        generalize wT blk (t - 7) = x7 at *
        generalize wT blk (t - 16) = x16 at *
        have m1 : (t : Int) - 15 = ((t - 15 : Nat) : Int) := by omega
        have m2 : (t : Int) - 2 = ((t - 2 : Nat) : Int) := by omega
        have m3 : (t : Int) - 7 = ((t - 7 : Nat) : Int) := by omega
        have m4 : (t : Int) - 16 = ((t - 16 : Nat) : Int) := by omega
        generalize hu1 : t - 15 = u1 at *
        generalize hu2 : t - 2 = u2 at *
        generalize hu3 : t - 7 = u3 at *
        generalize hu4 : t - 16 = u4 at *
        have g1 : (u1 : Int) < 64 := by omega
        have g2 : (u2 : Int) < 64 := by omega
        have g3 : (u3 : Int) < 64 := by omega
        have g4 : (u4 : Int) < 64 := by omega
        have k1 : IntKind.i64.wrap (u1 : Int) = (u1 : Int) := i64w _ (by omega) (by omega)
        have k2 : IntKind.i64.wrap (u2 : Int) = (u2 : Int) := i64w _ (by omega) (by omega)
        have k3 : IntKind.i64.wrap (u3 : Int) = (u3 : Int) := i64w _ (by omega) (by omega)
        have k4 : IntKind.i64.wrap (u4 : Int) = (u4 : Int) := i64w _ (by omega) (by omega)
        clear hu1 hu2 hu3 hu4
        have cT7 : ∀ W, Calls Tryd.prog 146 #[vw x, .int .u64 7] W fun e w' => e = .returned (vw (rotr x 7)) ∧ Below W.heap.size W w' := fun W => (turn_any x 7 W (by decide) (by decide)).mono fun e w' h => ⟨h.1, h.2 ▸ Below.refl _ _⟩
        have cT18 : ∀ W, Calls Tryd.prog 146 #[vw x, .int .u64 18] W fun e w' => e = .returned (vw (rotr x 18)) ∧ Below W.heap.size W w' := fun W => (turn_any x 18 W (by decide) (by decide)).mono fun e w' h => ⟨h.1, h.2 ▸ Below.refl _ _⟩
        have cT17 : ∀ W, Calls Tryd.prog 146 #[vw y, .int .u64 17] W fun e w' => e = .returned (vw (rotr y 17)) ∧ Below W.heap.size W w' := fun W => (turn_any y 17 W (by decide) (by decide)).mono fun e w' h => ⟨h.1, h.2 ▸ Below.refl _ _⟩
        have cT19 : ∀ W, Calls Tryd.prog 146 #[vw y, .int .u64 19] W fun e w' => e = .returned (vw (rotr y 19)) ∧ Below W.heap.size W w' := fun W => (turn_any y 19 W (by decide) (by decide)).mono fun e w' h => ⟨h.1, h.2 ▸ Below.refl _ _⟩
        have p1 := xor32 (rotr x 7) (rotr x 18)
        have p2 := shr32 x 3 (by decide)
        have p3 := xor32 (rotr x 7 ^^^ rotr x 18) (x >>> UInt32.ofNat 3)
        have p4 := xor32 (rotr y 17) (rotr y 19)
        have p5 := shr32 y 10 (by decide)
        have p6 := xor32 (rotr y 17 ^^^ rotr y 19) (y >>> UInt32.ofNat 10)
        change _ = ((sm0 x).toNat : Int) at p3
        change _ = ((sm1 y).toNat : Int) at p6
        rw [show (2 : Int) ^ 3 = 8 by decide] at p2
        rw [show (2 : Int) ^ 10 = 1024 by decide] at p5
        have a1 := add32 (sm1 y) x7
        have a2 := add32 (sm1 y + x7) (sm0 x)
        have a3 := add32 (sm1 y + x7 + sm0 x) x16
        have har : sm1 y + x7 + sm0 x + x16 = wT blk t := by
          rw [hhi, UInt32.add_comm x16, UInt32.add_comm (sm1 y) x7, UInt32.add_assoc x7, UInt32.add_comm x7, UInt32.add_comm (sm0 x) x7, UInt32.add_assoc x7, UInt32.add_comm x7 (sm0 x + sm1 y), UInt32.add_comm (sm0 x) (sm1 y), UInt32.add_assoc, UInt32.add_assoc]
        rw [har] at a3
        clear hhi har
        generalize wT blk t = r at *
        generalize sm0 x = z0 at *
        generalize sm1 y = z1 at *
        generalize rotr x 7 = x1 at *
        generalize rotr x 18 = x2 at *
        generalize rotr y 17 = y1 at *
        generalize rotr y 19 = y2 at *
        generalize x >>> UInt32.ofNat 3 = x3 at *
        generalize y >>> UInt32.ofNat 10 = y3 at *
        generalize x1 ^^^ x2 = x12 at *
        generalize y1 ^^^ y2 = y12 at *
        generalize z1 + x7 + z0 = z3 at *
        generalize z1 + x7 = z2 at *
        have HG2 := Lib.hid G2
        have HG3 := Lib.hid G3
        have HSET := Lib.hid hset
        have HLEN := Lib.hid hlen
        clear hset hlen G2 G3
        go_wp2
        refine startA (fun i => false) (by kernel_rfl) (fun wS hS => ?_)
        replace H := H.drew
        rw [← hS] at H
        have HH := H.hold
        have HS0 : Below wS.heap.size wS wS := Below.refl _ _
        replace c0 := cellS hS c0
        replace c1' := cellS hS c1'
        clear hS
        refine takeP 0 rfl (by kernel_rfl) (by kernel_rfl) (by kernel_rfl) (by kernel_rfl) (fun _ _ _ h => h) rfl (v := ?_) ?_ ?_
        rotate_left
        · intro w'; go_simp; (try with_reducible rfl)
        (try simp only [Act.put, List.setIfInBounds_toArray, List.set_cons_zero, List.set_cons_succ])
        refine takeP 1 rfl (by kernel_rfl) (by kernel_rfl) (by kernel_rfl) (by kernel_rfl) (fun _ _ _ h => h) rfl (v := ?_) ?_ ?_
        rotate_left
        · intro w'; go_simp; (try with_reducible rfl)
        (try simp only [Act.put, List.setIfInBounds_toArray, List.set_cons_zero, List.set_cons_succ])
        refine takeP 2 rfl (by kernel_rfl) (by kernel_rfl) (by kernel_rfl) (by kernel_rfl) (fun _ _ _ h => h) rfl (v := ?_) ?_ ?_
        rotate_left
        · intro w'; go_simp; (try with_reducible rfl)
        (try simp only [Act.put, List.setIfInBounds_toArray, List.set_cons_zero, List.set_cons_succ])
        refine takeP 3 rfl (by kernel_rfl) (by kernel_rfl) (by kernel_rfl) (by kernel_rfl) (fun _ _ _ h => h) rfl (v := ?_) ?_ ?_
        rotate_left
        · intro w'; go_simp; (try with_reducible rfl)
        (try simp only [Act.put, List.setIfInBounds_toArray, List.set_cons_zero, List.set_cons_succ])
        refine takeL 4 HS0 rfl (by kernel_rfl) (by kernel_rfl) (by kernel_rfl) (by kernel_rfl) (by kernel_rfl) (fun _ _ _ h => h) rfl (v := ?_) ?_ ?_
        rotate_left
        · intro w' hw'; first | (refine Eq.trans (xLoad1 (HH.below hw') _ rfl rfl (by first | exact (rfl : _ = some (Value.int _ _)) | exact (rfl : _ = some (Value.slice _ _ _)) | exact (rfl : _ = some (Value.bool _)) | exact (rfl : _ = some (Value.string _)) | exact (rfl : _ = some (Value.pointer _)) | rfl | (simp [List.getElem?_append]; done))) ?_; with_reducible rfl) | (refine Eq.trans (xLoadC _ rfl rfl (cell_below hw' (by assumption))) ?_; with_reducible rfl)
        (try simp only [Act.put, List.setIfInBounds_toArray, List.set_cons_zero, List.set_cons_succ])
        refine takeP 5 rfl (by kernel_rfl) (by kernel_rfl) (by kernel_rfl) (by kernel_rfl) (fun _ _ _ h => h) rfl (v := ?_) ?_ ?_
        rotate_left
        · intro w'; go_simp; (try with_reducible rfl)
        (try simp only [Act.put, List.setIfInBounds_toArray, List.set_cons_zero, List.set_cons_succ])
        refine takeP 6 rfl (by kernel_rfl) (by kernel_rfl) (by kernel_rfl) (by kernel_rfl) (fun _ _ _ h => h) rfl (v := ?_) ?_ ?_
        rotate_left
        · intro w'; go_simp; (try with_reducible rfl)
        (try simp only [Act.put, List.setIfInBounds_toArray, List.set_cons_zero, List.set_cons_succ])
        refine takeP 7 rfl (by kernel_rfl) (by kernel_rfl) (by kernel_rfl) (by kernel_rfl) (fun _ _ _ h => h) rfl (v := ?_) ?_ ?_
        rotate_left
        · intro w'; go_simp; (try with_reducible rfl)
        (try simp only [Act.put, List.setIfInBounds_toArray, List.set_cons_zero, List.set_cons_succ])
        refine takeP 8 rfl (by kernel_rfl) (by kernel_rfl) (by kernel_rfl) (by kernel_rfl) (fun _ _ _ h => h) rfl (v := ?_) ?_ ?_
        rotate_left
        · intro w'; go_simp; (try with_reducible rfl)
        (try simp only [Act.put, List.setIfInBounds_toArray, List.set_cons_zero, List.set_cons_succ])
        refine takeL 9 HS0 rfl (by kernel_rfl) (by kernel_rfl) (by kernel_rfl) (by kernel_rfl) (by kernel_rfl) (fun _ _ _ h => h) rfl (v := ?_) ?_ ?_
        rotate_left
        · intro w' hw'; first | (refine Eq.trans (xLoad1 (HH.below hw') _ rfl rfl (by first | exact (rfl : _ = some (Value.int _ _)) | exact (rfl : _ = some (Value.slice _ _ _)) | exact (rfl : _ = some (Value.bool _)) | exact (rfl : _ = some (Value.string _)) | exact (rfl : _ = some (Value.pointer _)) | rfl | (simp [List.getElem?_append]; done))) ?_; with_reducible rfl) | (refine Eq.trans (xLoadC _ rfl rfl (cell_below hw' (by assumption))) ?_; with_reducible rfl)
        (try simp only [Act.put, List.setIfInBounds_toArray, List.set_cons_zero, List.set_cons_succ])
        refine takeP 10 rfl (by kernel_rfl) (by kernel_rfl) (by kernel_rfl) (by kernel_rfl) (fun _ _ _ h => h) rfl (v := ?_) ?_ ?_
        rotate_left
        · intro w'; go_simp; (try with_reducible rfl)
        (try simp only [Act.put, List.setIfInBounds_toArray, List.set_cons_zero, List.set_cons_succ])
        refine takeP 11 rfl (by kernel_rfl) (by kernel_rfl) (by kernel_rfl) (by kernel_rfl) (fun _ _ _ h => h) rfl (v := ?_) ?_ ?_
        rotate_left
        · intro w'; go_simp; (try with_reducible rfl)
        (try simp only [Act.put, List.setIfInBounds_toArray, List.set_cons_zero, List.set_cons_succ])
        refine doneL (by kernel_rfl) ?_
        clear c0 c1'
        have c2 := ((H.hold.va (b := b7)).cell u3).trans HG2.out
        have c3 := ((H.hold.va (b := b7)).cell u4).trans HG3.out
        go_wp2
        refine startA (fun i => i == 32) (by kernel_rfl) (fun wS hS => ?_)
        replace H := H.drew
        rw [← hS] at H
        have HH := H.hold
        have HS0 : Below wS.heap.size wS wS := Below.refl _ _
        replace c2 := cellS hS c2
        replace c3 := cellS hS c3
        clear hS
        refine takeP 0 rfl (by kernel_rfl) (by kernel_rfl) (by kernel_rfl) (by kernel_rfl) (fun _ _ _ h => h) rfl (v := ?_) ?_ ?_
        rotate_left
        · intro w'; go_simp; (try with_reducible rfl)
        (try simp only [Act.put, List.setIfInBounds_toArray, List.set_cons_zero, List.set_cons_succ])
        refine takeP 1 rfl (by kernel_rfl) (by kernel_rfl) (by kernel_rfl) (by kernel_rfl) (fun _ _ _ h => h) rfl (v := ?_) ?_ ?_
        rotate_left
        · intro w'; go_simp; (try with_reducible rfl)
        (try simp only [Act.put, List.setIfInBounds_toArray, List.set_cons_zero, List.set_cons_succ])
        refine takeP 2 rfl (by kernel_rfl) (by kernel_rfl) (by kernel_rfl) (by kernel_rfl) (fun _ _ _ h => h) rfl (v := ?_) ?_ ?_
        rotate_left
        · intro w'; go_simp; (try with_reducible rfl)
        (try simp only [Act.put, List.setIfInBounds_toArray, List.set_cons_zero, List.set_cons_succ])
        refine takeP 4 rfl (by kernel_rfl) (by kernel_rfl) (by kernel_rfl) (by kernel_rfl) (fun _ _ _ h => h) rfl (v := ?_) ?_ ?_
        rotate_left
        · intro w'; go_simp; (try with_reducible rfl)
        (try simp only [Act.put, List.setIfInBounds_toArray, List.set_cons_zero, List.set_cons_succ])
        refine takeP 7 rfl (by kernel_rfl) (by kernel_rfl) (by kernel_rfl) (by kernel_rfl) (fun _ _ _ h => h) rfl (v := ?_) ?_ ?_
        rotate_left
        · intro w'; go_simp; (try with_reducible rfl)
        (try simp only [Act.put, List.setIfInBounds_toArray, List.set_cons_zero, List.set_cons_succ])
        refine takeP 8 rfl (by kernel_rfl) (by kernel_rfl) (by kernel_rfl) (by kernel_rfl) (fun _ _ _ h => h) rfl (v := ?_) ?_ ?_
        rotate_left
        · intro w'; go_simp; (try with_reducible rfl)
        (try simp only [Act.put, List.setIfInBounds_toArray, List.set_cons_zero, List.set_cons_succ])
        refine takeP 10 rfl (by kernel_rfl) (by kernel_rfl) (by kernel_rfl) (by kernel_rfl) (fun _ _ _ h => h) rfl (v := ?_) ?_ ?_
        rotate_left
        · intro w'; go_simp; (try with_reducible rfl)
        (try simp only [Act.put, List.setIfInBounds_toArray, List.set_cons_zero, List.set_cons_succ])
        refine takeP 11 rfl (by kernel_rfl) (by kernel_rfl) (by kernel_rfl) (by kernel_rfl) (fun _ _ _ h => h) rfl (v := ?_) ?_ ?_
        rotate_left
        · intro w'; go_simp; (try with_reducible rfl)
        (try simp only [Act.put, List.setIfInBounds_toArray, List.set_cons_zero, List.set_cons_succ])
        refine takeP 12 rfl (by kernel_rfl) (by kernel_rfl) (by kernel_rfl) (by kernel_rfl) (fun _ _ _ h => h) rfl (v := ?_) ?_ ?_
        rotate_left
        · intro w'; go_simp; (try with_reducible rfl)
        (try simp only [Act.put, List.setIfInBounds_toArray, List.set_cons_zero, List.set_cons_succ])
        refine takeP 13 rfl (by kernel_rfl) (by kernel_rfl) (by kernel_rfl) (by kernel_rfl) (fun _ _ _ h => h) rfl (v := ?_) ?_ ?_
        rotate_left
        · intro w'; go_simp; (try with_reducible rfl)
        (try simp only [Act.put, List.setIfInBounds_toArray, List.set_cons_zero, List.set_cons_succ])
        refine takeL 14 HS0 rfl (by kernel_rfl) (by kernel_rfl) (by kernel_rfl) (by kernel_rfl) (by kernel_rfl) (fun _ _ _ h => h) rfl (v := ?_) ?_ ?_
        rotate_left
        · intro w' hw'; first | (refine Eq.trans (xLoad1 (HH.below hw') _ rfl rfl (by first | exact (rfl : _ = some (Value.int _ _)) | exact (rfl : _ = some (Value.slice _ _ _)) | exact (rfl : _ = some (Value.bool _)) | exact (rfl : _ = some (Value.string _)) | exact (rfl : _ = some (Value.pointer _)) | rfl | (simp [List.getElem?_append]; done))) ?_; with_reducible rfl) | (refine Eq.trans (xLoadC _ rfl rfl (cell_below hw' (by assumption))) ?_; with_reducible rfl)
        (try simp only [Act.put, List.setIfInBounds_toArray, List.set_cons_zero, List.set_cons_succ])
        refine takeP 16 rfl (by kernel_rfl) (by kernel_rfl) (by kernel_rfl) (by kernel_rfl) (fun _ _ _ h => h) rfl (v := ?_) ?_ ?_
        rotate_left
        · intro w'; go_simp; (try with_reducible rfl)
        (try simp only [Act.put, List.setIfInBounds_toArray, List.set_cons_zero, List.set_cons_succ])
        refine takeP 18 rfl (by kernel_rfl) (by kernel_rfl) (by kernel_rfl) (by kernel_rfl) (fun _ _ _ h => h) rfl (v := ?_) ?_ ?_
        rotate_left
        · intro w'; go_simp; (try with_reducible rfl)
        (try simp only [Act.put, List.setIfInBounds_toArray, List.set_cons_zero, List.set_cons_succ])
        refine takeP 21 rfl (by kernel_rfl) (by kernel_rfl) (by kernel_rfl) (by kernel_rfl) (fun _ _ _ h => h) rfl (v := ?_) ?_ ?_
        rotate_left
        · intro w'; go_simp; (try with_reducible rfl)
        (try simp only [Act.put, List.setIfInBounds_toArray, List.set_cons_zero, List.set_cons_succ])
        refine takeP 22 rfl (by kernel_rfl) (by kernel_rfl) (by kernel_rfl) (by kernel_rfl) (fun _ _ _ h => h) rfl (v := ?_) ?_ ?_
        rotate_left
        · intro w'; go_simp; (try with_reducible rfl)
        (try simp only [Act.put, List.setIfInBounds_toArray, List.set_cons_zero, List.set_cons_succ])
        refine takeP 25 rfl (by kernel_rfl) (by kernel_rfl) (by kernel_rfl) (by kernel_rfl) (fun _ _ _ h => h) rfl (v := ?_) ?_ ?_
        rotate_left
        · intro w'; go_simp; (try with_reducible rfl)
        (try simp only [Act.put, List.setIfInBounds_toArray, List.set_cons_zero, List.set_cons_succ])
        refine takeP 26 rfl (by kernel_rfl) (by kernel_rfl) (by kernel_rfl) (by kernel_rfl) (fun _ _ _ h => h) rfl (v := ?_) ?_ ?_
        rotate_left
        · intro w'; go_simp; (try with_reducible rfl)
        (try simp only [Act.put, List.setIfInBounds_toArray, List.set_cons_zero, List.set_cons_succ])
        refine takeP 27 rfl (by kernel_rfl) (by kernel_rfl) (by kernel_rfl) (by kernel_rfl) (fun _ _ _ h => h) rfl (v := ?_) ?_ ?_
        rotate_left
        · intro w'; go_simp; (try with_reducible rfl)
        (try simp only [Act.put, List.setIfInBounds_toArray, List.set_cons_zero, List.set_cons_succ])
        refine takeP 28 rfl (by kernel_rfl) (by kernel_rfl) (by kernel_rfl) (by kernel_rfl) (fun _ _ _ h => h) rfl (v := ?_) ?_ ?_
        rotate_left
        · intro w'; go_simp; (try with_reducible rfl)
        (try simp only [Act.put, List.setIfInBounds_toArray, List.set_cons_zero, List.set_cons_succ])
        refine takeL 29 HS0 rfl (by kernel_rfl) (by kernel_rfl) (by kernel_rfl) (by kernel_rfl) (by kernel_rfl) (fun _ _ _ h => h) rfl (v := ?_) ?_ ?_
        rotate_left
        · intro w' hw'; first | (refine Eq.trans (xLoad1 (HH.below hw') _ rfl rfl (by first | exact (rfl : _ = some (Value.int _ _)) | exact (rfl : _ = some (Value.slice _ _ _)) | exact (rfl : _ = some (Value.bool _)) | exact (rfl : _ = some (Value.string _)) | exact (rfl : _ = some (Value.pointer _)) | rfl | (simp [List.getElem?_append]; done))) ?_; with_reducible rfl) | (refine Eq.trans (xLoadC _ rfl rfl (cell_below hw' (by assumption))) ?_; with_reducible rfl)
        (try simp only [Act.put, List.setIfInBounds_toArray, List.set_cons_zero, List.set_cons_succ])
        refine stepL 3 rfl (by kernel_rfl) rfl (fun K hK => ?_)
        (go_simp; (with_reducible refine (cT17 _).mono ?_); rintro e w' ⟨rfl, hb⟩; replace H := H.step hb; replace HS0 := below_two HS0 HS0.size hb; clear hb; refine hK.out _ _ (fun _ _ => HS0) ?_; clear K hK)
        (try simp only [Act.put, List.setIfInBounds_toArray, List.set_cons_zero, List.set_cons_succ])
        refine stepL 5 rfl (by kernel_rfl) rfl (fun K hK => ?_)
        (go_simp; (with_reducible refine (cT19 _).mono ?_); rintro e w' ⟨rfl, hb⟩; replace H := H.step hb; replace HS0 := below_two HS0 HS0.size hb; clear hb; refine hK.out _ _ (fun _ _ => HS0) ?_; clear K hK)
        (try simp only [Act.put, List.setIfInBounds_toArray, List.set_cons_zero, List.set_cons_succ])
        refine takeP 6 rfl (by kernel_rfl) (by kernel_rfl) (by kernel_rfl) (by kernel_rfl) (fun _ _ _ h => h) rfl (v := ?_) ?_ ?_
        rotate_left
        · intro w'; go_simp; (try with_reducible rfl)
        (try simp only [Act.put, List.setIfInBounds_toArray, List.set_cons_zero, List.set_cons_succ])
        refine takeP 9 rfl (by kernel_rfl) (by kernel_rfl) (by kernel_rfl) (by kernel_rfl) (fun _ _ _ h => h) rfl (v := ?_) ?_ ?_
        rotate_left
        · intro w'; go_simp; (try with_reducible rfl)
        (try simp only [Act.put, List.setIfInBounds_toArray, List.set_cons_zero, List.set_cons_succ])
        refine takeP 15 rfl (by kernel_rfl) (by kernel_rfl) (by kernel_rfl) (by kernel_rfl) (fun _ _ _ h => h) rfl (v := ?_) ?_ ?_
        rotate_left
        · intro w'; go_simp; (try with_reducible rfl)
        (try simp only [Act.put, List.setIfInBounds_toArray, List.set_cons_zero, List.set_cons_succ])
        refine stepL 17 rfl (by kernel_rfl) rfl (fun K hK => ?_)
        (go_simp; (with_reducible refine (cT7 _).mono ?_); rintro e w' ⟨rfl, hb⟩; replace H := H.step hb; replace HS0 := below_two HS0 HS0.size hb; clear hb; refine hK.out _ _ (fun _ _ => HS0) ?_; clear K hK)
        (try simp only [Act.put, List.setIfInBounds_toArray, List.set_cons_zero, List.set_cons_succ])
        refine stepL 19 rfl (by kernel_rfl) rfl (fun K hK => ?_)
        (go_simp; (with_reducible refine (cT18 _).mono ?_); rintro e w' ⟨rfl, hb⟩; replace H := H.step hb; replace HS0 := below_two HS0 HS0.size hb; clear hb; refine hK.out _ _ (fun _ _ => HS0) ?_; clear K hK)
        (try simp only [Act.put, List.setIfInBounds_toArray, List.set_cons_zero, List.set_cons_succ])
        refine takeP 20 rfl (by kernel_rfl) (by kernel_rfl) (by kernel_rfl) (by kernel_rfl) (fun _ _ _ h => h) rfl (v := ?_) ?_ ?_
        rotate_left
        · intro w'; go_simp; (try with_reducible rfl)
        (try simp only [Act.put, List.setIfInBounds_toArray, List.set_cons_zero, List.set_cons_succ])
        refine takeP 23 rfl (by kernel_rfl) (by kernel_rfl) (by kernel_rfl) (by kernel_rfl) (fun _ _ _ h => h) rfl (v := ?_) ?_ ?_
        rotate_left
        · intro w'; go_simp; (try with_reducible rfl)
        (try simp only [Act.put, List.setIfInBounds_toArray, List.set_cons_zero, List.set_cons_succ])
        refine takeP 24 rfl (by kernel_rfl) (by kernel_rfl) (by kernel_rfl) (by kernel_rfl) (fun _ _ _ h => h) rfl (v := ?_) ?_ ?_
        rotate_left
        · intro w'; go_simp; (try with_reducible rfl)
        (try simp only [Act.put, List.setIfInBounds_toArray, List.set_cons_zero, List.set_cons_succ])
        refine takeP 30 rfl (by kernel_rfl) (by kernel_rfl) (by kernel_rfl) (by kernel_rfl) (fun _ _ _ h => h) rfl (v := ?_) ?_ ?_
        rotate_left
        · intro w'; go_simp; (try with_reducible rfl)
        (try simp only [Act.put, List.setIfInBounds_toArray, List.set_cons_zero, List.set_cons_succ])
        refine takeP 31 rfl (by kernel_rfl) (by kernel_rfl) (by kernel_rfl) (by kernel_rfl) (fun _ _ _ h => h) rfl (v := ?_) ?_ ?_
        rotate_left
        · intro w'; go_simp; (try with_reducible rfl)
        (try simp only [Act.put, List.setIfInBounds_toArray, List.set_cons_zero, List.set_cons_succ])
        refine stepL 32 rfl (by kernel_rfl) rfl (fun K hK => ?_)
        (refine oCellA (v := vw r) (new := (schW blk (t + 1)).map vw) H _ _ rfl rfl rfl rfl rfl (by rw [List.length_map, HLEN.out]; exact h64) HSET.out ?_; clear H; intro w' H; (try dsimp only at H); refine hK.out _ _ (fun h => by cases h) ?_; clear K hK HS0)
        (try simp only [Act.put, List.setIfInBounds_toArray, List.set_cons_zero, List.set_cons_succ])
        refine doneL (by kernel_rfl) ?_
        go_wp2
        go_roundw
        case rel => first | exact ⟨t + 1, by go_num, by omega, H⟩ | exact ⟨_, ⟨t + 1, by go_num, by omega, H⟩, rfl⟩ | exact ⟨_, _, ⟨t + 1, by go_num, by omega, H⟩, rfl, rfl⟩ | exact ⟨_, _, _, ⟨t + 1, by go_num, by omega, H⟩, rfl, rfl, rfl⟩ | exact ⟨_, _, _, _, ⟨t + 1, by go_num, by omega, H⟩, rfl, rfl, rfl, rfl⟩ | exact ⟨_, _, _, _, _, ⟨t + 1, by go_num, by omega, H⟩, rfl, rfl, rfl, rfl, rfl⟩ | ((repeat (apply Exists.intro)); exact ⟨⟨t + 1, by go_num, by omega, H⟩, rfl⟩)
        case measure => simp [intOf] <;> omega
    · obtain rfl : t = 64 := by omega
      go_wp2_with (first
        | ((with_reducible refine gDst 103 ?_); refine aLoad H _ rfl rfl (part_all HSL.out) HSL.out rfl ?_)
        | ((with_reducible refine gSto (.tmp 11) (.tmp 103) ?_); refine aStore H _ _ rfl rfl rfl ⟨by rfl, HSL.out⟩ HSO.out rfl ?_; clear H; intro w' H; (try dsimp only at H))
        | ((with_reducible refine gDst 3 ?_); refine aBox H _ rfl rfl rfl ?_; clear H; intro b3 w3 H)
        | ((with_reducible refine gDst 6 ?_); refine aAlloc H rfl rfl ?_; clear H; intro b6 w6 H)
        | ((with_reducible refine gDst 11 ?_); refine aAlloc H rfl rfl ?_; clear H; intro b11 w11 H)
        | ((with_reducible refine gLoad ?_); first | (refine aLoad1 H _ rfl rfl (by first | exact (rfl : _ = some (Value.int _ _)) | exact (rfl : _ = some (Value.slice _ _ _)) | exact (rfl : _ = some (Value.bool _)) | exact (rfl : _ = some (Value.string _)) | exact (rfl : _ = some (Value.pointer _)) | rfl | (simp [List.getElem?_append]; done)) rfl ?_) | (refine aLoadC _ rfl rfl (by assumption) rfl ?_) | (refine aLoad H _ rfl rfl (by first | exact part_all (by first | rfl | simp []) | (simp only [List.drop_succ_cons, List.drop_zero, List.take_succ_cons, List.take_zero]; rfl) | (simp [List.drop_append, List.take_append]; rfl)) (by first | rfl | simp []) rfl ?_))
        | ((with_reducible refine gStore ?_); (first | (refine aStore H _ _ rfl rfl rfl (by (first | exact ⟨rfl, rfl⟩ | exact ⟨by decide, rfl⟩ | (simp []; done) | (constructor <;> simp [] <;> omega))) (by first | rfl | simp [List.all_append, one_all]) rfl ?_) | (refine aLay H _ _ rfl rfl rfl (by (first | exact ⟨rfl, rfl⟩ | exact ⟨by decide, rfl⟩ | (simp []; done) | (constructor <;> simp [] <;> omega))) (by first | rfl | simp [List.all_append, one_all]) (by simp only [lay, List.take_succ_cons, List.take_zero, List.drop_succ_cons, List.drop_zero, List.nil_append, List.cons_append, List.length_cons, List.length_nil, Nat.zero_add, Nat.reduceAdd]; rfl) rfl ?_)); clear H; intro w' H; try dsimp only at H))
      go_loopw [12] (fun v12 wr => relR15 s blk w b3 b6 b7 b11 v12 wr) (fun v _ => 64 - (intOf v).toNat)
      case atStart => exact ⟨0, s, rfl, by omega, rfl, H⟩
      case round =>
        obtain ⟨t, ⟨qa, qb, qc, qd, qe, qf, qg, qh⟩, rfl, ht, HQ, HS⟩ := hrel
        clear H
        have H : SH Nil w wr [.blk b11 201 [vw qa, vw qb, vw qc, vw qd, vw qe, vw qf, vw qg, vw qh], .blk b7 30 ((schW blk 64).map vw), .blk b6 201 (List.replicate 8 (.int .u32 0)), .blk b3 201 (s.list.map vw)] := HS
        clear HS
        by_cases ht64 : t < 64
        · have hti : (t : Int) < 64 := by omega
          have hnext : runT blk s (t + 1) = stepT (runT blk s t) (kT t) (wT blk t) := rfl
          rw [← HQ.out] at hnext
          have hone : oneT ⟨qa, qb, qc, qd, qe, qf, qg, qh⟩ (kT t) (wT blk t) = (((qh + bS1 qe) + chF qe qf qg) + kT t) + wT blk t := rfl
          have htwo : twoT ⟨qa, qb, qc, qd, qe, qf, qg, qh⟩ = bS0 qa + majF qa qb qc := rfl
          rw [stepT, hone, htwo] at hnext
          simp only at hnext
          have hkc := HK2.out t ht64
          have HWT := Lib.hid (map_vw_get _ _ _ (schW_get blk 64 t ht64 (by omega)))
          have x1 := and32 qe qf
          have x2 : bits .xor .u32 (qe.toNat : Int) 4294967295 = ((qe ^^^ 4294967295).toNat : Int) := xor32 qe 4294967295
          have x3 := and32 (qe ^^^ 4294967295) qg
          have x4 := xor32 (qe &&& qf) ((qe ^^^ 4294967295) &&& qg)
          rw [ch_eq] at x4
          have y1 := and32 qa qb
          have y2 := and32 qa qc
          have y3 := xor32 (qa &&& qb) (qa &&& qc)
          have y4 := and32 qb qc
          have y5 := xor32 ((qa &&& qb) ^^^ (qa &&& qc)) (qb &&& qc)
          rw [maj_eq] at y5
          generalize (qe ^^^ 4294967295) &&& qg = m3 at *
          generalize qe ^^^ 4294967295 = m2 at *
          generalize qe &&& qf = m1 at *
          generalize (qa &&& qb) ^^^ (qa &&& qc) = m6 at *
          generalize qa &&& qb = m4 at *
          generalize qa &&& qc = m5 at *
          generalize qb &&& qc = m7 at *
          have cT6 : ∀ W, Calls Tryd.prog 146 #[vw qe, .int .u64 6] W fun e w' => e = .returned (vw (rotr qe 6)) ∧ Below W.heap.size W w' := fun W => (turn_any qe 6 W (by decide) (by decide)).mono fun e w' h => ⟨h.1, h.2 ▸ Below.refl _ _⟩
          have cT11 : ∀ W, Calls Tryd.prog 146 #[vw qe, .int .u64 11] W fun e w' => e = .returned (vw (rotr qe 11)) ∧ Below W.heap.size W w' := fun W => (turn_any qe 11 W (by decide) (by decide)).mono fun e w' h => ⟨h.1, h.2 ▸ Below.refl _ _⟩
          have cT25 : ∀ W, Calls Tryd.prog 146 #[vw qe, .int .u64 25] W fun e w' => e = .returned (vw (rotr qe 25)) ∧ Below W.heap.size W w' := fun W => (turn_any qe 25 W (by decide) (by decide)).mono fun e w' h => ⟨h.1, h.2 ▸ Below.refl _ _⟩
          have cT2 : ∀ W, Calls Tryd.prog 146 #[vw qa, .int .u64 2] W fun e w' => e = .returned (vw (rotr qa 2)) ∧ Below W.heap.size W w' := fun W => (turn_any qa 2 W (by decide) (by decide)).mono fun e w' h => ⟨h.1, h.2 ▸ Below.refl _ _⟩
          have cT13 : ∀ W, Calls Tryd.prog 146 #[vw qa, .int .u64 13] W fun e w' => e = .returned (vw (rotr qa 13)) ∧ Below W.heap.size W w' := fun W => (turn_any qa 13 W (by decide) (by decide)).mono fun e w' h => ⟨h.1, h.2 ▸ Below.refl _ _⟩
          have cT22 : ∀ W, Calls Tryd.prog 146 #[vw qa, .int .u64 22] W fun e w' => e = .returned (vw (rotr qa 22)) ∧ Below W.heap.size W w' := fun W => (turn_any qa 22 W (by decide) (by decide)).mono fun e w' h => ⟨h.1, h.2 ▸ Below.refl _ _⟩
          have s1 := xor32 (rotr qe 6) (rotr qe 11)
          have s2 := xor32 (rotr qe 6 ^^^ rotr qe 11) (rotr qe 25)
          change _ = ((bS1 qe).toNat : Int) at s2
          have s3 := xor32 (rotr qa 2) (rotr qa 13)
          have s4 := xor32 (rotr qa 2 ^^^ rotr qa 13) (rotr qa 22)
          change _ = ((bS0 qa).toNat : Int) at s4
          generalize rotr qe 6 ^^^ rotr qe 11 = n6 at *
          generalize rotr qa 2 ^^^ rotr qa 13 = n7 at *
          generalize rotr qe 6 = r6 at *
          generalize rotr qe 11 = r11 at *
          generalize rotr qe 25 = r25 at *
          generalize rotr qa 2 = r2 at *
          generalize rotr qa 13 = r13 at *
          generalize rotr qa 22 = r22 at *
          have a1 := add32 qh (bS1 qe)
          have a2 := add32 (qh + bS1 qe) (chF qe qf qg)
          have a3 := add32 (qh + bS1 qe + chF qe qf qg) (kT t)
          have a4 := add32 (qh + bS1 qe + chF qe qf qg + kT t) (wT blk t)
          have a5 := add32 (bS0 qa) (majF qa qb qc)
          generalize chF qe qf qg = gch at *
          generalize majF qa qb qc = gmj at *
          generalize bS1 qe = gs1 at *
          generalize bS0 qa = gs0 at *
          generalize kT t = gk at *
          generalize wT blk t = gw at *
          generalize qh + gs1 + gch + gk + gw = z4 at *
          generalize qh + gs1 + gch + gk = z3 at *
          generalize qh + gs1 + gch = z2 at *
          generalize qh + gs1 = z1 at *
          generalize gs0 + gmj = z5 at *
          have a6 := add32 z4 z5
          have a7 := add32 qd z4
          generalize z4 + z5 = z6 at *
          generalize qd + z4 = z7 at *
          have HN := Lib.hid hnext
          have HKC := Lib.hid hkc
          have htb : (t : Int) ≤ 64 := by omega
          clear hnext hone htwo hkc
          go_wp2
          have e0 : wr.cell? ⟨b11, 0, none⟩ = some (vw qa) := (H.hold.va (b := b11)).cell 0
          have e4 : wr.cell? ⟨b11, 4, none⟩ = some (vw qe) := (H.hold.va (b := b11)).cell 4
          refine startA (fun i => false) (by kernel_rfl) (fun wS hS => ?_)
          replace H := H.drew
          rw [← hS] at H
          have HH := H.hold
          have HS0 : Below wS.heap.size wS wS := Below.refl _ _
          replace e0 := cellS hS e0
          replace e4 := cellS hS e4
          clear hS
          refine takeP 0 rfl (by kernel_rfl) (by kernel_rfl) (by kernel_rfl) (by kernel_rfl) (fun _ _ _ h => h) rfl (v := ?_) ?_ ?_
          rotate_left
          · intro w'; go_simp; (try with_reducible rfl)
          (try simp only [Act.put, List.setIfInBounds_toArray, List.set_cons_zero, List.set_cons_succ])
          refine takeL 1 HS0 rfl (by kernel_rfl) (by kernel_rfl) (by kernel_rfl) (by kernel_rfl) (by kernel_rfl) (fun _ _ _ h => h) rfl (v := ?_) ?_ ?_
          rotate_left
          · intro w' hw'; first | (refine Eq.trans (xLoad1 (HH.below hw') _ rfl rfl (by first | exact (rfl : _ = some (Value.int _ _)) | exact (rfl : _ = some (Value.slice _ _ _)) | exact (rfl : _ = some (Value.bool _)) | exact (rfl : _ = some (Value.string _)) | exact (rfl : _ = some (Value.pointer _)) | rfl | (simp [List.getElem?_append]; done))) ?_; with_reducible rfl) | (refine Eq.trans (xLoadC _ rfl rfl (cell_below hw' (by assumption))) ?_; with_reducible rfl)
          (try simp only [Act.put, List.setIfInBounds_toArray, List.set_cons_zero, List.set_cons_succ])
          refine takeP 2 rfl (by kernel_rfl) (by kernel_rfl) (by kernel_rfl) (by kernel_rfl) (fun _ _ _ h => h) rfl (v := ?_) ?_ ?_
          rotate_left
          · intro w'; go_simp; (try with_reducible rfl)
          (try simp only [Act.put, List.setIfInBounds_toArray, List.set_cons_zero, List.set_cons_succ])
          refine takeL 3 HS0 rfl (by kernel_rfl) (by kernel_rfl) (by kernel_rfl) (by kernel_rfl) (by kernel_rfl) (fun _ _ _ h => h) rfl (v := ?_) ?_ ?_
          rotate_left
          · intro w' hw'; first | (refine Eq.trans (xLoad1 (HH.below hw') _ rfl rfl (by first | exact (rfl : _ = some (Value.int _ _)) | exact (rfl : _ = some (Value.slice _ _ _)) | exact (rfl : _ = some (Value.bool _)) | exact (rfl : _ = some (Value.string _)) | exact (rfl : _ = some (Value.pointer _)) | rfl | (simp [List.getElem?_append]; done))) ?_; with_reducible rfl) | (refine Eq.trans (xLoadC _ rfl rfl (cell_below hw' (by assumption))) ?_; with_reducible rfl)
          (try simp only [Act.put, List.setIfInBounds_toArray, List.set_cons_zero, List.set_cons_succ])
          refine takeP 4 rfl (by kernel_rfl) (by kernel_rfl) (by kernel_rfl) (by kernel_rfl) (fun _ _ _ h => h) rfl (v := ?_) ?_ ?_
          rotate_left
          · intro w'; go_simp; (try with_reducible rfl)
          (try simp only [Act.put, List.setIfInBounds_toArray, List.set_cons_zero, List.set_cons_succ])
          refine takeP 5 rfl (by kernel_rfl) (by kernel_rfl) (by kernel_rfl) (by kernel_rfl) (fun _ _ _ h => h) rfl (v := ?_) ?_ ?_
          rotate_left
          · intro w'; go_simp; (try with_reducible rfl)
          (try simp only [Act.put, List.setIfInBounds_toArray, List.set_cons_zero, List.set_cons_succ])
          refine doneL (by kernel_rfl) ?_
          clear e0 e4
          go_wp2
          have e7 := (H.hold.va (b := b11)).cell 7
          have e5 := (H.hold.va (b := b11)).cell 5
          have e6 := (H.hold.va (b := b11)).cell 6
          have ek := cell_below H.below HKC.out
          have ew := ((H.hold.va (b := b7)).cell t).trans HWT.out
          change _ = some (vw qh) at e7
          change _ = some (vw qf) at e5
          change _ = some (vw qg) at e6
          go_wp2
          refine startA (fun i => false) (by kernel_rfl) (fun wS hS => ?_)
          replace H := H.drew
          rw [← hS] at H
          have HH := H.hold
          have HS0 : Below wS.heap.size wS wS := Below.refl _ _
          replace e7 := cellS hS e7
          replace e5 := cellS hS e5
          replace e6 := cellS hS e6
          replace ek := cellS hS ek
          replace ew := cellS hS ew
          clear hS
          refine takeP 0 rfl (by kernel_rfl) (by kernel_rfl) (by kernel_rfl) (by kernel_rfl) (fun _ _ _ h => h) rfl (v := ?_) ?_ ?_
          rotate_left
          · intro w'; go_simp; (try with_reducible rfl)
          (try simp only [Act.put, List.setIfInBounds_toArray, List.set_cons_zero, List.set_cons_succ])
          refine takeL 1 HS0 rfl (by kernel_rfl) (by kernel_rfl) (by kernel_rfl) (by kernel_rfl) (by kernel_rfl) (fun _ _ _ h => h) rfl (v := ?_) ?_ ?_
          rotate_left
          · intro w' hw'; first | (refine Eq.trans (xLoad1 (HH.below hw') _ rfl rfl (by first | exact (rfl : _ = some (Value.int _ _)) | exact (rfl : _ = some (Value.slice _ _ _)) | exact (rfl : _ = some (Value.bool _)) | exact (rfl : _ = some (Value.string _)) | exact (rfl : _ = some (Value.pointer _)) | rfl | (simp [List.getElem?_append]; done))) ?_; with_reducible rfl) | (refine Eq.trans (xLoadC _ rfl rfl (cell_below hw' (by assumption))) ?_; with_reducible rfl)
          (try simp only [Act.put, List.setIfInBounds_toArray, List.set_cons_zero, List.set_cons_succ])
          refine takeP 2 rfl (by kernel_rfl) (by kernel_rfl) (by kernel_rfl) (by kernel_rfl) (fun _ _ _ h => h) rfl (v := ?_) ?_ ?_
          rotate_left
          · intro w'; go_simp; (try with_reducible rfl)
          (try simp only [Act.put, List.setIfInBounds_toArray, List.set_cons_zero, List.set_cons_succ])
          refine takeP 4 rfl (by kernel_rfl) (by kernel_rfl) (by kernel_rfl) (by kernel_rfl) (fun _ _ _ h => h) rfl (v := ?_) ?_ ?_
          rotate_left
          · intro w'; go_simp; (try with_reducible rfl)
          (try simp only [Act.put, List.setIfInBounds_toArray, List.set_cons_zero, List.set_cons_succ])
          refine takeP 7 rfl (by kernel_rfl) (by kernel_rfl) (by kernel_rfl) (by kernel_rfl) (fun _ _ _ h => h) rfl (v := ?_) ?_ ?_
          rotate_left
          · intro w'; go_simp; (try with_reducible rfl)
          (try simp only [Act.put, List.setIfInBounds_toArray, List.set_cons_zero, List.set_cons_succ])
          refine takeP 11 rfl (by kernel_rfl) (by kernel_rfl) (by kernel_rfl) (by kernel_rfl) (fun _ _ _ h => h) rfl (v := ?_) ?_ ?_
          rotate_left
          · intro w'; go_simp; (try with_reducible rfl)
          (try simp only [Act.put, List.setIfInBounds_toArray, List.set_cons_zero, List.set_cons_succ])
          refine takeP 12 rfl (by kernel_rfl) (by kernel_rfl) (by kernel_rfl) (by kernel_rfl) (fun _ _ _ h => h) rfl (v := ?_) ?_ ?_
          rotate_left
          · intro w'; go_simp; (try with_reducible rfl)
          (try simp only [Act.put, List.setIfInBounds_toArray, List.set_cons_zero, List.set_cons_succ])
          refine takeL 13 HS0 rfl (by kernel_rfl) (by kernel_rfl) (by kernel_rfl) (by kernel_rfl) (by kernel_rfl) (fun _ _ _ h => h) rfl (v := ?_) ?_ ?_
          rotate_left
          · intro w' hw'; first | (refine Eq.trans (xLoad1 (HH.below hw') _ rfl rfl (by first | exact (rfl : _ = some (Value.int _ _)) | exact (rfl : _ = some (Value.slice _ _ _)) | exact (rfl : _ = some (Value.bool _)) | exact (rfl : _ = some (Value.string _)) | exact (rfl : _ = some (Value.pointer _)) | rfl | (simp [List.getElem?_append]; done))) ?_; with_reducible rfl) | (refine Eq.trans (xLoadC _ rfl rfl (cell_below hw' (by assumption))) ?_; with_reducible rfl)
          (try simp only [Act.put, List.setIfInBounds_toArray, List.set_cons_zero, List.set_cons_succ])
          refine takeP 14 rfl (by kernel_rfl) (by kernel_rfl) (by kernel_rfl) (by kernel_rfl) (fun _ _ _ h => h) rfl (v := ?_) ?_ ?_
          rotate_left
          · intro w'; go_simp; (try with_reducible rfl)
          (try simp only [Act.put, List.setIfInBounds_toArray, List.set_cons_zero, List.set_cons_succ])
          refine takeP 15 rfl (by kernel_rfl) (by kernel_rfl) (by kernel_rfl) (by kernel_rfl) (fun _ _ _ h => h) rfl (v := ?_) ?_ ?_
          rotate_left
          · intro w'; go_simp; (try with_reducible rfl)
          (try simp only [Act.put, List.setIfInBounds_toArray, List.set_cons_zero, List.set_cons_succ])
          refine takeP 16 rfl (by kernel_rfl) (by kernel_rfl) (by kernel_rfl) (by kernel_rfl) (fun _ _ _ h => h) rfl (v := ?_) ?_ ?_
          rotate_left
          · intro w'; go_simp; (try with_reducible rfl)
          (try simp only [Act.put, List.setIfInBounds_toArray, List.set_cons_zero, List.set_cons_succ])
          refine takeP 17 rfl (by kernel_rfl) (by kernel_rfl) (by kernel_rfl) (by kernel_rfl) (fun _ _ _ h => h) rfl (v := ?_) ?_ ?_
          rotate_left
          · intro w'; go_simp; (try with_reducible rfl)
          (try simp only [Act.put, List.setIfInBounds_toArray, List.set_cons_zero, List.set_cons_succ])
          refine takeL 18 HS0 rfl (by kernel_rfl) (by kernel_rfl) (by kernel_rfl) (by kernel_rfl) (by kernel_rfl) (fun _ _ _ h => h) rfl (v := ?_) ?_ ?_
          rotate_left
          · intro w' hw'; first | (refine Eq.trans (xLoad1 (HH.below hw') _ rfl rfl (by first | exact (rfl : _ = some (Value.int _ _)) | exact (rfl : _ = some (Value.slice _ _ _)) | exact (rfl : _ = some (Value.bool _)) | exact (rfl : _ = some (Value.string _)) | exact (rfl : _ = some (Value.pointer _)) | rfl | (simp [List.getElem?_append]; done))) ?_; with_reducible rfl) | (refine Eq.trans (xLoadC _ rfl rfl (cell_below hw' (by assumption))) ?_; with_reducible rfl)
          (try simp only [Act.put, List.setIfInBounds_toArray, List.set_cons_zero, List.set_cons_succ])
          refine takeP 19 rfl (by kernel_rfl) (by kernel_rfl) (by kernel_rfl) (by kernel_rfl) (fun _ _ _ h => h) rfl (v := ?_) ?_ ?_
          rotate_left
          · intro w'; go_simp; (try with_reducible rfl)
          (try simp only [Act.put, List.setIfInBounds_toArray, List.set_cons_zero, List.set_cons_succ])
          refine takeP 20 rfl (by kernel_rfl) (by kernel_rfl) (by kernel_rfl) (by kernel_rfl) (fun _ _ _ h => h) rfl (v := ?_) ?_ ?_
          rotate_left
          · intro w'; go_simp; (try with_reducible rfl)
          (try simp only [Act.put, List.setIfInBounds_toArray, List.set_cons_zero, List.set_cons_succ])
          refine takeP 22 rfl (by kernel_rfl) (by kernel_rfl) (by kernel_rfl) (by kernel_rfl) (fun _ _ _ h => h) rfl (v := ?_) ?_ ?_
          rotate_left
          · intro w'; go_simp; (try with_reducible rfl)
          (try simp only [Act.put, List.setIfInBounds_toArray, List.set_cons_zero, List.set_cons_succ])
          refine takeP 23 rfl (by kernel_rfl) (by kernel_rfl) (by kernel_rfl) (by kernel_rfl) (fun _ _ _ h => h) rfl (v := ?_) ?_ ?_
          rotate_left
          · intro w'; go_simp; (try with_reducible rfl)
          (try simp only [Act.put, List.setIfInBounds_toArray, List.set_cons_zero, List.set_cons_succ])
          refine takeP 24 rfl (by kernel_rfl) (by kernel_rfl) (by kernel_rfl) (by kernel_rfl) (fun _ _ _ h => h) rfl (v := ?_) ?_ ?_
          rotate_left
          · intro w'; go_simp; (try with_reducible rfl)
          (try simp only [Act.put, List.setIfInBounds_toArray, List.set_cons_zero, List.set_cons_succ])
          refine takeL 25 HS0 rfl (by kernel_rfl) (by kernel_rfl) (by kernel_rfl) (by kernel_rfl) (by kernel_rfl) (fun _ _ _ h => h) rfl (v := ?_) ?_ ?_
          rotate_left
          · intro w' hw'; first | (refine Eq.trans (xLoad1 (HH.below hw') _ rfl rfl (by first | exact (rfl : _ = some (Value.int _ _)) | exact (rfl : _ = some (Value.slice _ _ _)) | exact (rfl : _ = some (Value.bool _)) | exact (rfl : _ = some (Value.string _)) | exact (rfl : _ = some (Value.pointer _)) | rfl | (simp [List.getElem?_append]; done))) ?_; with_reducible rfl) | (refine Eq.trans (xLoadC _ rfl rfl (cell_below hw' (by assumption))) ?_; with_reducible rfl)
          (try simp only [Act.put, List.setIfInBounds_toArray, List.set_cons_zero, List.set_cons_succ])
          refine takeP 27 rfl (by kernel_rfl) (by kernel_rfl) (by kernel_rfl) (by kernel_rfl) (fun _ _ _ h => h) rfl (v := ?_) ?_ ?_
          rotate_left
          · intro w'; go_simp; (try with_reducible rfl)
          (try simp only [Act.put, List.setIfInBounds_toArray, List.set_cons_zero, List.set_cons_succ])
          refine takeP 28 rfl (by kernel_rfl) (by kernel_rfl) (by kernel_rfl) (by kernel_rfl) (fun _ _ _ h => h) rfl (v := ?_) ?_ ?_
          rotate_left
          · intro w'; go_simp; (try with_reducible rfl)
          (try simp only [Act.put, List.setIfInBounds_toArray, List.set_cons_zero, List.set_cons_succ])
          refine takeP 29 rfl (by kernel_rfl) (by kernel_rfl) (by kernel_rfl) (by kernel_rfl) (fun _ _ _ h => h) rfl (v := ?_) ?_ ?_
          rotate_left
          · intro w'; go_simp; (try with_reducible rfl)
          (try simp only [Act.put, List.setIfInBounds_toArray, List.set_cons_zero, List.set_cons_succ])
          refine takeL 30 HS0 rfl (by kernel_rfl) (by kernel_rfl) (by kernel_rfl) (by kernel_rfl) (by kernel_rfl) (fun _ _ _ h => h) rfl (v := ?_) ?_ ?_
          rotate_left
          · intro w' hw'; first | (refine Eq.trans (xLoad1 (HH.below hw') _ rfl rfl (by first | exact (rfl : _ = some (Value.int _ _)) | exact (rfl : _ = some (Value.slice _ _ _)) | exact (rfl : _ = some (Value.bool _)) | exact (rfl : _ = some (Value.string _)) | exact (rfl : _ = some (Value.pointer _)) | rfl | (simp [List.getElem?_append]; done))) ?_; with_reducible rfl) | (refine Eq.trans (xLoadC _ rfl rfl (cell_below hw' (by assumption))) ?_; with_reducible rfl)
          (try simp only [Act.put, List.setIfInBounds_toArray, List.set_cons_zero, List.set_cons_succ])
          refine stepL 3 rfl (by kernel_rfl) rfl (fun K hK => ?_)
          (go_simp; (with_reducible refine (cT6 _).mono ?_); rintro e w' ⟨rfl, hb⟩; replace H := H.step hb; replace HS0 := below_two HS0 HS0.size hb; clear hb; refine hK.out _ _ (fun _ _ => HS0) ?_; clear K hK)
          (try simp only [Act.put, List.setIfInBounds_toArray, List.set_cons_zero, List.set_cons_succ])
          refine stepL 5 rfl (by kernel_rfl) rfl (fun K hK => ?_)
          (go_simp; (with_reducible refine (cT11 _).mono ?_); rintro e w' ⟨rfl, hb⟩; replace H := H.step hb; replace HS0 := below_two HS0 HS0.size hb; clear hb; refine hK.out _ _ (fun _ _ => HS0) ?_; clear K hK)
          (try simp only [Act.put, List.setIfInBounds_toArray, List.set_cons_zero, List.set_cons_succ])
          refine takeP 6 rfl (by kernel_rfl) (by kernel_rfl) (by kernel_rfl) (by kernel_rfl) (fun _ _ _ h => h) rfl (v := ?_) ?_ ?_
          rotate_left
          · intro w'; go_simp; (try with_reducible rfl)
          (try simp only [Act.put, List.setIfInBounds_toArray, List.set_cons_zero, List.set_cons_succ])
          refine stepL 8 rfl (by kernel_rfl) rfl (fun K hK => ?_)
          (go_simp; (with_reducible refine (cT25 _).mono ?_); rintro e w' ⟨rfl, hb⟩; replace H := H.step hb; replace HS0 := below_two HS0 HS0.size hb; clear hb; refine hK.out _ _ (fun _ _ => HS0) ?_; clear K hK)
          (try simp only [Act.put, List.setIfInBounds_toArray, List.set_cons_zero, List.set_cons_succ])
          refine takeP 9 rfl (by kernel_rfl) (by kernel_rfl) (by kernel_rfl) (by kernel_rfl) (fun _ _ _ h => h) rfl (v := ?_) ?_ ?_
          rotate_left
          · intro w'; go_simp; (try with_reducible rfl)
          (try simp only [Act.put, List.setIfInBounds_toArray, List.set_cons_zero, List.set_cons_succ])
          refine takeP 10 rfl (by kernel_rfl) (by kernel_rfl) (by kernel_rfl) (by kernel_rfl) (fun _ _ _ h => h) rfl (v := ?_) ?_ ?_
          rotate_left
          · intro w'; go_simp; (try with_reducible rfl)
          (try simp only [Act.put, List.setIfInBounds_toArray, List.set_cons_zero, List.set_cons_succ])
          refine takeP 21 rfl (by kernel_rfl) (by kernel_rfl) (by kernel_rfl) (by kernel_rfl) (fun _ _ _ h => h) rfl (v := ?_) ?_ ?_
          rotate_left
          · intro w'; go_simp; (try with_reducible rfl)
          (try simp only [Act.put, List.setIfInBounds_toArray, List.set_cons_zero, List.set_cons_succ])
          refine takeP 26 rfl (by kernel_rfl) (by kernel_rfl) (by kernel_rfl) (by kernel_rfl) (fun _ _ _ h => h) rfl (v := ?_) ?_ ?_
          rotate_left
          · intro w'; go_simp; (try with_reducible rfl)
          (try simp only [Act.put, List.setIfInBounds_toArray, List.set_cons_zero, List.set_cons_succ])
          refine takeP 31 rfl (by kernel_rfl) (by kernel_rfl) (by kernel_rfl) (by kernel_rfl) (fun _ _ _ h => h) rfl (v := ?_) ?_ ?_
          rotate_left
          · intro w'; go_simp; (try with_reducible rfl)
          (try simp only [Act.put, List.setIfInBounds_toArray, List.set_cons_zero, List.set_cons_succ])
          refine takeP 32 rfl (by kernel_rfl) (by kernel_rfl) (by kernel_rfl) (by kernel_rfl) (fun _ _ _ h => h) rfl (v := ?_) ?_ ?_
          rotate_left
          · intro w'; go_simp; (try with_reducible rfl)
          (try simp only [Act.put, List.setIfInBounds_toArray, List.set_cons_zero, List.set_cons_succ])
          refine doneL (by kernel_rfl) ?_
          clear e7 e5 e6 ek ew
          go_wp2
          have e1 := (H.hold.va (b := b11)).cell 1
          have e2 := (H.hold.va (b := b11)).cell 2
          change _ = some (vw qb) at e1
          change _ = some (vw qc) at e2
          refine startA (fun i => false) (by kernel_rfl) (fun wS hS => ?_)
          replace H := H.drew
          rw [← hS] at H
          have HH := H.hold
          have HS0 : Below wS.heap.size wS wS := Below.refl _ _
          replace e1 := cellS hS e1
          replace e2 := cellS hS e2
          clear hS
          refine takeP 0 rfl (by kernel_rfl) (by kernel_rfl) (by kernel_rfl) (by kernel_rfl) (fun _ _ _ h => h) rfl (v := ?_) ?_ ?_
          rotate_left
          · intro w'; go_simp; (try with_reducible rfl)
          (try simp only [Act.put, List.setIfInBounds_toArray, List.set_cons_zero, List.set_cons_succ])
          refine takeP 2 rfl (by kernel_rfl) (by kernel_rfl) (by kernel_rfl) (by kernel_rfl) (fun _ _ _ h => h) rfl (v := ?_) ?_ ?_
          rotate_left
          · intro w'; go_simp; (try with_reducible rfl)
          (try simp only [Act.put, List.setIfInBounds_toArray, List.set_cons_zero, List.set_cons_succ])
          refine takeP 5 rfl (by kernel_rfl) (by kernel_rfl) (by kernel_rfl) (by kernel_rfl) (fun _ _ _ h => h) rfl (v := ?_) ?_ ?_
          rotate_left
          · intro w'; go_simp; (try with_reducible rfl)
          (try simp only [Act.put, List.setIfInBounds_toArray, List.set_cons_zero, List.set_cons_succ])
          refine takeP 8 rfl (by kernel_rfl) (by kernel_rfl) (by kernel_rfl) (by kernel_rfl) (fun _ _ _ h => h) rfl (v := ?_) ?_ ?_
          rotate_left
          · intro w'; go_simp; (try with_reducible rfl)
          (try simp only [Act.put, List.setIfInBounds_toArray, List.set_cons_zero, List.set_cons_succ])
          refine takeP 9 rfl (by kernel_rfl) (by kernel_rfl) (by kernel_rfl) (by kernel_rfl) (fun _ _ _ h => h) rfl (v := ?_) ?_ ?_
          rotate_left
          · intro w'; go_simp; (try with_reducible rfl)
          (try simp only [Act.put, List.setIfInBounds_toArray, List.set_cons_zero, List.set_cons_succ])
          refine takeL 10 HS0 rfl (by kernel_rfl) (by kernel_rfl) (by kernel_rfl) (by kernel_rfl) (by kernel_rfl) (fun _ _ _ h => h) rfl (v := ?_) ?_ ?_
          rotate_left
          · intro w' hw'; first | (refine Eq.trans (xLoad1 (HH.below hw') _ rfl rfl (by first | exact (rfl : _ = some (Value.int _ _)) | exact (rfl : _ = some (Value.slice _ _ _)) | exact (rfl : _ = some (Value.bool _)) | exact (rfl : _ = some (Value.string _)) | exact (rfl : _ = some (Value.pointer _)) | rfl | (simp [List.getElem?_append]; done))) ?_; with_reducible rfl) | (refine Eq.trans (xLoadC _ rfl rfl (cell_below hw' (by assumption))) ?_; with_reducible rfl)
          (try simp only [Act.put, List.setIfInBounds_toArray, List.set_cons_zero, List.set_cons_succ])
          refine takeP 11 rfl (by kernel_rfl) (by kernel_rfl) (by kernel_rfl) (by kernel_rfl) (fun _ _ _ h => h) rfl (v := ?_) ?_ ?_
          rotate_left
          · intro w'; go_simp; (try with_reducible rfl)
          (try simp only [Act.put, List.setIfInBounds_toArray, List.set_cons_zero, List.set_cons_succ])
          refine takeP 12 rfl (by kernel_rfl) (by kernel_rfl) (by kernel_rfl) (by kernel_rfl) (fun _ _ _ h => h) rfl (v := ?_) ?_ ?_
          rotate_left
          · intro w'; go_simp; (try with_reducible rfl)
          (try simp only [Act.put, List.setIfInBounds_toArray, List.set_cons_zero, List.set_cons_succ])
          refine takeP 13 rfl (by kernel_rfl) (by kernel_rfl) (by kernel_rfl) (by kernel_rfl) (fun _ _ _ h => h) rfl (v := ?_) ?_ ?_
          rotate_left
          · intro w'; go_simp; (try with_reducible rfl)
          (try simp only [Act.put, List.setIfInBounds_toArray, List.set_cons_zero, List.set_cons_succ])
          refine takeL 14 HS0 rfl (by kernel_rfl) (by kernel_rfl) (by kernel_rfl) (by kernel_rfl) (by kernel_rfl) (fun _ _ _ h => h) rfl (v := ?_) ?_ ?_
          rotate_left
          · intro w' hw'; first | (refine Eq.trans (xLoad1 (HH.below hw') _ rfl rfl (by first | exact (rfl : _ = some (Value.int _ _)) | exact (rfl : _ = some (Value.slice _ _ _)) | exact (rfl : _ = some (Value.bool _)) | exact (rfl : _ = some (Value.string _)) | exact (rfl : _ = some (Value.pointer _)) | rfl | (simp [List.getElem?_append]; done))) ?_; with_reducible rfl) | (refine Eq.trans (xLoadC _ rfl rfl (cell_below hw' (by assumption))) ?_; with_reducible rfl)
          (try simp only [Act.put, List.setIfInBounds_toArray, List.set_cons_zero, List.set_cons_succ])
          refine takeP 15 rfl (by kernel_rfl) (by kernel_rfl) (by kernel_rfl) (by kernel_rfl) (fun _ _ _ h => h) rfl (v := ?_) ?_ ?_
          rotate_left
          · intro w'; go_simp; (try with_reducible rfl)
          (try simp only [Act.put, List.setIfInBounds_toArray, List.set_cons_zero, List.set_cons_succ])
          refine takeP 16 rfl (by kernel_rfl) (by kernel_rfl) (by kernel_rfl) (by kernel_rfl) (fun _ _ _ h => h) rfl (v := ?_) ?_ ?_
          rotate_left
          · intro w'; go_simp; (try with_reducible rfl)
          (try simp only [Act.put, List.setIfInBounds_toArray, List.set_cons_zero, List.set_cons_succ])
          refine takeP 17 rfl (by kernel_rfl) (by kernel_rfl) (by kernel_rfl) (by kernel_rfl) (fun _ _ _ h => h) rfl (v := ?_) ?_ ?_
          rotate_left
          · intro w'; go_simp; (try with_reducible rfl)
          (try simp only [Act.put, List.setIfInBounds_toArray, List.set_cons_zero, List.set_cons_succ])
          refine takeL 18 HS0 rfl (by kernel_rfl) (by kernel_rfl) (by kernel_rfl) (by kernel_rfl) (by kernel_rfl) (fun _ _ _ h => h) rfl (v := ?_) ?_ ?_
          rotate_left
          · intro w' hw'; first | (refine Eq.trans (xLoad1 (HH.below hw') _ rfl rfl (by first | exact (rfl : _ = some (Value.int _ _)) | exact (rfl : _ = some (Value.slice _ _ _)) | exact (rfl : _ = some (Value.bool _)) | exact (rfl : _ = some (Value.string _)) | exact (rfl : _ = some (Value.pointer _)) | rfl | (simp [List.getElem?_append]; done))) ?_; with_reducible rfl) | (refine Eq.trans (xLoadC _ rfl rfl (cell_below hw' (by assumption))) ?_; with_reducible rfl)
          (try simp only [Act.put, List.setIfInBounds_toArray, List.set_cons_zero, List.set_cons_succ])
          refine takeP 19 rfl (by kernel_rfl) (by kernel_rfl) (by kernel_rfl) (by kernel_rfl) (fun _ _ _ h => h) rfl (v := ?_) ?_ ?_
          rotate_left
          · intro w'; go_simp; (try with_reducible rfl)
          (try simp only [Act.put, List.setIfInBounds_toArray, List.set_cons_zero, List.set_cons_succ])
          refine takeL 20 HS0 rfl (by kernel_rfl) (by kernel_rfl) (by kernel_rfl) (by kernel_rfl) (by kernel_rfl) (fun _ _ _ h => h) rfl (v := ?_) ?_ ?_
          rotate_left
          · intro w' hw'; first | (refine Eq.trans (xLoad1 (HH.below hw') _ rfl rfl (by first | exact (rfl : _ = some (Value.int _ _)) | exact (rfl : _ = some (Value.slice _ _ _)) | exact (rfl : _ = some (Value.bool _)) | exact (rfl : _ = some (Value.string _)) | exact (rfl : _ = some (Value.pointer _)) | rfl | (simp [List.getElem?_append]; done))) ?_; with_reducible rfl) | (refine Eq.trans (xLoadC _ rfl rfl (cell_below hw' (by assumption))) ?_; with_reducible rfl)
          (try simp only [Act.put, List.setIfInBounds_toArray, List.set_cons_zero, List.set_cons_succ])
          refine takeP 21 rfl (by kernel_rfl) (by kernel_rfl) (by kernel_rfl) (by kernel_rfl) (fun _ _ _ h => h) rfl (v := ?_) ?_ ?_
          rotate_left
          · intro w'; go_simp; (try with_reducible rfl)
          (try simp only [Act.put, List.setIfInBounds_toArray, List.set_cons_zero, List.set_cons_succ])
          refine takeP 22 rfl (by kernel_rfl) (by kernel_rfl) (by kernel_rfl) (by kernel_rfl) (fun _ _ _ h => h) rfl (v := ?_) ?_ ?_
          rotate_left
          · intro w'; go_simp; (try with_reducible rfl)
          (try simp only [Act.put, List.setIfInBounds_toArray, List.set_cons_zero, List.set_cons_succ])
          refine stepL 1 rfl (by kernel_rfl) rfl (fun K hK => ?_)
          (go_simp; (with_reducible refine (cT2 _).mono ?_); rintro e w' ⟨rfl, hb⟩; replace H := H.step hb; replace HS0 := below_two HS0 HS0.size hb; clear hb; refine hK.out _ _ (fun _ _ => HS0) ?_; clear K hK)
          (try simp only [Act.put, List.setIfInBounds_toArray, List.set_cons_zero, List.set_cons_succ])
          refine stepL 3 rfl (by kernel_rfl) rfl (fun K hK => ?_)
          (go_simp; (with_reducible refine (cT13 _).mono ?_); rintro e w' ⟨rfl, hb⟩; replace H := H.step hb; replace HS0 := below_two HS0 HS0.size hb; clear hb; refine hK.out _ _ (fun _ _ => HS0) ?_; clear K hK)
          (try simp only [Act.put, List.setIfInBounds_toArray, List.set_cons_zero, List.set_cons_succ])
          refine takeP 4 rfl (by kernel_rfl) (by kernel_rfl) (by kernel_rfl) (by kernel_rfl) (fun _ _ _ h => h) rfl (v := ?_) ?_ ?_
          rotate_left
          · intro w'; go_simp; (try with_reducible rfl)
          (try simp only [Act.put, List.setIfInBounds_toArray, List.set_cons_zero, List.set_cons_succ])
          refine stepL 6 rfl (by kernel_rfl) rfl (fun K hK => ?_)
          (go_simp; (with_reducible refine (cT22 _).mono ?_); rintro e w' ⟨rfl, hb⟩; replace H := H.step hb; replace HS0 := below_two HS0 HS0.size hb; clear hb; refine hK.out _ _ (fun _ _ => HS0) ?_; clear K hK)
          (try simp only [Act.put, List.setIfInBounds_toArray, List.set_cons_zero, List.set_cons_succ])
          refine takeP 7 rfl (by kernel_rfl) (by kernel_rfl) (by kernel_rfl) (by kernel_rfl) (fun _ _ _ h => h) rfl (v := ?_) ?_ ?_
          rotate_left
          · intro w'; go_simp; (try with_reducible rfl)
          (try simp only [Act.put, List.setIfInBounds_toArray, List.set_cons_zero, List.set_cons_succ])
          refine takeP 23 rfl (by kernel_rfl) (by kernel_rfl) (by kernel_rfl) (by kernel_rfl) (fun _ _ _ h => h) rfl (v := ?_) ?_ ?_
          rotate_left
          · intro w'; go_simp; (try with_reducible rfl)
          (try simp only [Act.put, List.setIfInBounds_toArray, List.set_cons_zero, List.set_cons_succ])
          refine takeP 24 rfl (by kernel_rfl) (by kernel_rfl) (by kernel_rfl) (by kernel_rfl) (fun _ _ _ h => h) rfl (v := ?_) ?_ ?_
          rotate_left
          · intro w'; go_simp; (try with_reducible rfl)
          (try simp only [Act.put, List.setIfInBounds_toArray, List.set_cons_zero, List.set_cons_succ])
          refine doneL (by kernel_rfl) ?_
          clear e1 e2
          go_wp2_with (first
            | ((with_reducible refine gDst 187 ?_); refine aBuildC _ _ rfl ((S8.list ⟨z6, qa, qb, qc, z7, qe, qf, qg⟩).map vw) rfl rfl ?_)
            | ((with_reducible refine gSto (.tmp 11) (.tmp 187) ?_); refine aStore H _ _ rfl rfl rfl ⟨by rfl, by rfl⟩ (one_w _) rfl ?_; clear H; intro w' H; (try dsimp only at H))
            | ((with_reducible refine gDst 3 ?_); refine aBox H _ rfl rfl rfl ?_; clear H; intro b3 w3 H)
            | ((with_reducible refine gDst 6 ?_); refine aAlloc H rfl rfl ?_; clear H; intro b6 w6 H)
            | ((with_reducible refine gDst 11 ?_); refine aAlloc H rfl rfl ?_; clear H; intro b11 w11 H)
            | ((with_reducible refine gLoad ?_); first | (refine aLoad1 H _ rfl rfl (by first | exact (rfl : _ = some (Value.int _ _)) | exact (rfl : _ = some (Value.slice _ _ _)) | exact (rfl : _ = some (Value.bool _)) | exact (rfl : _ = some (Value.string _)) | exact (rfl : _ = some (Value.pointer _)) | rfl | (simp [List.getElem?_append]; done)) rfl ?_) | (refine aLoadC _ rfl rfl (by assumption) rfl ?_) | (refine aLoad H _ rfl rfl (by first | exact part_all (by first | rfl | simp []) | (simp only [List.drop_succ_cons, List.drop_zero, List.take_succ_cons, List.take_zero]; rfl) | (simp [List.drop_append, List.take_append]; rfl)) (by first | rfl | simp []) rfl ?_))
            | ((with_reducible refine gStore ?_); (first | (refine aStore H _ _ rfl rfl rfl (by (first | exact ⟨rfl, rfl⟩ | exact ⟨by decide, rfl⟩ | (simp []; done) | (constructor <;> simp [] <;> omega))) (by first | rfl | simp [List.all_append, one_all]) rfl ?_) | (refine aLay H _ _ rfl rfl rfl (by (first | exact ⟨rfl, rfl⟩ | exact ⟨by decide, rfl⟩ | (simp []; done) | (constructor <;> simp [] <;> omega))) (by first | rfl | simp [List.all_append, one_all]) (by simp only [lay, List.take_succ_cons, List.take_zero, List.drop_succ_cons, List.drop_zero, List.nil_append, List.cons_append, List.length_cons, List.length_nil, Nat.zero_add, Nat.reduceAdd]; rfl) rfl ?_)); clear H; intro w' H; try dsimp only at H))
          go_roundw
          case rel => first | exact ⟨t + 1, _, by go_num, by omega, HN.out.symm, H⟩ | exact ⟨_, ⟨t + 1, _, by go_num, by omega, HN.out.symm, H⟩, rfl⟩ | exact ⟨_, _, ⟨t + 1, _, by go_num, by omega, HN.out.symm, H⟩, rfl, rfl⟩ | exact ⟨_, _, _, ⟨t + 1, _, by go_num, by omega, HN.out.symm, H⟩, rfl, rfl, rfl⟩ | exact ⟨_, _, _, _, ⟨t + 1, _, by go_num, by omega, HN.out.symm, H⟩, rfl, rfl, rfl, rfl⟩ | exact ⟨_, _, _, _, _, ⟨t + 1, _, by go_num, by omega, HN.out.symm, H⟩, rfl, rfl, rfl, rfl, rfl⟩ | ((repeat (apply Exists.intro)); exact ⟨⟨t + 1, _, by go_num, by omega, HN.out.symm, H⟩, rfl⟩)
          case measure => simp [intOf] <;> omega
        · obtain rfl : t = 64 := by omega
          go_wp2
          go_loopw [17] (fun v17 wr => relM8 s ⟨qa, qb, qc, qd, qe, qf, qg, qh⟩ blk w b3 b6 b7 b11 v17 wr) (fun v _ => 8 - (intOf v).toNat)
          case atStart => exact ⟨0, rfl, by omega, H⟩
          case round =>
            obtain ⟨i, rfl, hi, HS⟩ := hrel
            clear H
            have H := HS
            clear HS
            by_cases hi8 : i < 8
            · have hii : (i : Int) < 8 := by omega
              obtain ⟨m1, m2, m3⟩ := mixR_step s ⟨qa, qb, qc, qd, qe, qf, qg, qh⟩ i hi8
              have m0 := mixR_len s ⟨qa, qb, qc, qd, qe, qf, qg, qh⟩ i hi
              have c1' := ((H.hold.va (b := b11)).cell i).trans (map_vw_get _ _ _ m2)
              have c2 := ((H.hold.va (b := b3)).cell i).trans (map_vw_get _ _ _ m3)
              have a1 := add32 ((S8.list ⟨qa, qb, qc, qd, qe, qf, qg, qh⟩).getD i 0) (s.list.getD i 0)
              rw [UInt32.add_comm] at a1
              generalize (S8.list ⟨qa, qb, qc, qd, qe, qf, qg, qh⟩).getD i 0 = x at *
              generalize s.list.getD i 0 = y at *
              generalize y + x = z at *
              have hset : ((mixR s ⟨qa, qb, qc, qd, qe, qf, qg, qh⟩ i).map vw).set i (vw z) = (mixR s ⟨qa, qb, qc, qd, qe, qf, qg, qh⟩ (i + 1)).map vw := List.map_set.symm.trans (congrArg (List.map vw) m1)
              have HSET := Lib.hid hset
              have HLEN := Lib.hid m0
              clear hset m0 m1 m2 m3
              go_wp2
              refine startA (fun i => i == 9) (by kernel_rfl) (fun wS hS => ?_)
              replace H := H.drew
              rw [← hS] at H
              have HH := H.hold
              have HS0 : Below wS.heap.size wS wS := Below.refl _ _
              replace c1' := cellS hS c1'
              replace c2 := cellS hS c2
              clear hS
              refine takeP 0 rfl (by kernel_rfl) (by kernel_rfl) (by kernel_rfl) (by kernel_rfl) (fun _ _ _ h => h) rfl (v := ?_) ?_ ?_
              rotate_left
              · intro w'; go_simp; (try with_reducible rfl)
              (try simp only [Act.put, List.setIfInBounds_toArray, List.set_cons_zero, List.set_cons_succ])
              refine takeP 1 rfl (by kernel_rfl) (by kernel_rfl) (by kernel_rfl) (by kernel_rfl) (fun _ _ _ h => h) rfl (v := ?_) ?_ ?_
              rotate_left
              · intro w'; go_simp; (try with_reducible rfl)
              (try simp only [Act.put, List.setIfInBounds_toArray, List.set_cons_zero, List.set_cons_succ])
              refine takeP 2 rfl (by kernel_rfl) (by kernel_rfl) (by kernel_rfl) (by kernel_rfl) (fun _ _ _ h => h) rfl (v := ?_) ?_ ?_
              rotate_left
              · intro w'; go_simp; (try with_reducible rfl)
              (try simp only [Act.put, List.setIfInBounds_toArray, List.set_cons_zero, List.set_cons_succ])
              refine takeL 3 HS0 rfl (by kernel_rfl) (by kernel_rfl) (by kernel_rfl) (by kernel_rfl) (by kernel_rfl) (fun _ _ _ h => h) rfl (v := ?_) ?_ ?_
              rotate_left
              · intro w' hw'; first | (refine Eq.trans (xLoad1 (HH.below hw') _ rfl rfl (by first | exact (rfl : _ = some (Value.int _ _)) | exact (rfl : _ = some (Value.slice _ _ _)) | exact (rfl : _ = some (Value.bool _)) | exact (rfl : _ = some (Value.string _)) | exact (rfl : _ = some (Value.pointer _)) | rfl | (simp [List.getElem?_append]; done))) ?_; with_reducible rfl) | (refine Eq.trans (xLoadC _ rfl rfl (cell_below hw' (by assumption))) ?_; with_reducible rfl)
              (try simp only [Act.put, List.setIfInBounds_toArray, List.set_cons_zero, List.set_cons_succ])
              refine takeP 4 rfl (by kernel_rfl) (by kernel_rfl) (by kernel_rfl) (by kernel_rfl) (fun _ _ _ h => h) rfl (v := ?_) ?_ ?_
              rotate_left
              · intro w'; go_simp; (try with_reducible rfl)
              (try simp only [Act.put, List.setIfInBounds_toArray, List.set_cons_zero, List.set_cons_succ])
              refine takeP 5 rfl (by kernel_rfl) (by kernel_rfl) (by kernel_rfl) (by kernel_rfl) (fun _ _ _ h => h) rfl (v := ?_) ?_ ?_
              rotate_left
              · intro w'; go_simp; (try with_reducible rfl)
              (try simp only [Act.put, List.setIfInBounds_toArray, List.set_cons_zero, List.set_cons_succ])
              refine takeL 6 HS0 rfl (by kernel_rfl) (by kernel_rfl) (by kernel_rfl) (by kernel_rfl) (by kernel_rfl) (fun _ _ _ h => h) rfl (v := ?_) ?_ ?_
              rotate_left
              · intro w' hw'; first | (refine Eq.trans (xLoad1 (HH.below hw') _ rfl rfl (by first | exact (rfl : _ = some (Value.int _ _)) | exact (rfl : _ = some (Value.slice _ _ _)) | exact (rfl : _ = some (Value.bool _)) | exact (rfl : _ = some (Value.string _)) | exact (rfl : _ = some (Value.pointer _)) | rfl | (simp [List.getElem?_append]; done))) ?_; with_reducible rfl) | (refine Eq.trans (xLoadC _ rfl rfl (cell_below hw' (by assumption))) ?_; with_reducible rfl)
              (try simp only [Act.put, List.setIfInBounds_toArray, List.set_cons_zero, List.set_cons_succ])
              refine takeP 7 rfl (by kernel_rfl) (by kernel_rfl) (by kernel_rfl) (by kernel_rfl) (fun _ _ _ h => h) rfl (v := ?_) ?_ ?_
              rotate_left
              · intro w'; go_simp; (try with_reducible rfl)
              (try simp only [Act.put, List.setIfInBounds_toArray, List.set_cons_zero, List.set_cons_succ])
              refine takeP 8 rfl (by kernel_rfl) (by kernel_rfl) (by kernel_rfl) (by kernel_rfl) (fun _ _ _ h => h) rfl (v := ?_) ?_ ?_
              rotate_left
              · intro w'; go_simp; (try with_reducible rfl)
              (try simp only [Act.put, List.setIfInBounds_toArray, List.set_cons_zero, List.set_cons_succ])
              refine stepL 9 rfl (by kernel_rfl) rfl (fun K hK => ?_)
              (refine oCellA (v := vw z) (new := (mixR s ⟨qa, qb, qc, qd, qe, qf, qg, qh⟩ (i + 1)).map vw) H _ _ rfl rfl rfl rfl rfl (by rw [List.length_map, HLEN.out]; exact hi8) HSET.out ?_; clear H; intro w' H; (try dsimp only at H); refine hK.out _ _ (fun h => by cases h) ?_; clear K hK HS0)
              (try simp only [Act.put, List.setIfInBounds_toArray, List.set_cons_zero, List.set_cons_succ])
              refine doneL (by kernel_rfl) ?_
              go_wp2
              go_roundw
              case rel => first | exact ⟨i + 1, by go_num, by omega, H⟩ | exact ⟨_, ⟨i + 1, by go_num, by omega, H⟩, rfl⟩ | exact ⟨_, _, ⟨i + 1, by go_num, by omega, H⟩, rfl, rfl⟩ | exact ⟨_, _, _, ⟨i + 1, by go_num, by omega, H⟩, rfl, rfl, rfl⟩ | exact ⟨_, _, _, _, ⟨i + 1, by go_num, by omega, H⟩, rfl, rfl, rfl, rfl⟩ | exact ⟨_, _, _, _, _, ⟨i + 1, by go_num, by omega, H⟩, rfl, rfl, rfl, rfl, rfl⟩ | ((repeat (apply Exists.intro)); exact ⟨⟨i + 1, by go_num, by omega, H⟩, rfl⟩)
              case measure => simp [intOf] <;> omega
            · obtain rfl : i = 8 := by omega
              have hcomp : mixR s ⟨qa, qb, qc, qd, qe, qf, qg, qh⟩ 8 = (compB s blk).list := by rw [compB, ← HQ.out]; rfl
              rw [hcomp] at H
              go_wp2_with (first
                | ((with_reducible refine gDst 201 ?_); refine aLoad H _ rfl rfl (part_all (S8.len _)) (S8.len _) rfl ?_)
                | ((with_reducible refine gSto (.tmp 6) (.tmp 201) ?_); refine aStore H _ _ rfl rfl rfl ⟨by rfl, S8.len _⟩ (one_w _) rfl ?_; clear H; intro w' H; (try dsimp only at H)))
              refine bodyPost_ret (res_cell rfl _ H.hold rfl (by exact S8.len _)) rfl ?_
              exact ⟨rfl, H.below⟩
end Go.Proofs.YticfcelbnkiopaaDoor
