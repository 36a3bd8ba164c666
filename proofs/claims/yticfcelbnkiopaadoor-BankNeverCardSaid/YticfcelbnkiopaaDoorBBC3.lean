/- Ground of the statements BankHealed, part 3: RowsSV, Sha7, Sha8, Sha9, Sha10, Sha11, Sha12, Sha13, Sha14, ShaT, Sha17, Sha18, Make, Man1, Man4, Mpa, NumLaw, Num, Man2, Mp1, Mp2. -/
import Derived.Laws.CopyRow
import Derived.RangeFuncFrom
import Derived.RangeFuncLeaves
import Derived.Conc.MuLone
import Derived.Laws.Bits128
import Derived.Test.YticfcelbnkiopaaDoorBBC2
namespace Go.Proofs.YticfcelbnkiopaaDoor
set_option maxRecDepth 100000
open Go.RowKit
set_option linter.unusedSimpArgs false
set_option linter.unusedVariables false

def SVT : Ty SVV := ⟨22, 1, 24, .slice none 0 0, fun s => [s.val], fun _ => rfl, fun s u hu => by rw [List.mem_singleton.mp hu]; rfl, by decide, by decide⟩
def sV : ST Tryd.prog SVV := ⟨SVT, 192, .slice none 0 0, Tryd.underlying192, by kernel_rfl, rfl⟩
theorem SVT_all (ss : List SVV) : SVT.all ss = ss.map SVV.val := by
  unfold Ty.all
  induction ss with
  | nil => rfl
  | cons s ss ih => rw [List.flatMap_cons, ih]; rfl
/-- Nothing. -/
abbrev sv0 : SVV := (none, 0, 0)
section
variable {ops : Array Oper} {rest : List Oper} {o : Oper} {a : Act} {Q : Exit → Act → World → Prop} {F : Nat → Prop} {w0 w : World} {L : List Own} {K : Act → World → Prop}
theorem aAppS1 (H : SH F w0 w L) (s x : Operand) (ho : o.op = .call { callee := .builtin .append, args := #[s, x], argTypes := #[192, 192] }) {A B : Option Addr} {len cap n c : Nat} {xs : List SVV} {put : Value → List SVV → List Own} (hs : a.eval s = .slice A len cap) (hx : a.eval x = .slice (some ⟨w.heap.size, 0, none⟩) 1 1) [hr : HasR L (.slice A len cap) SVV SVT xs put] (hl : xs.length ≤ 1000000)
    (hw : Region.wanted o (yielded ops a.tmps) = true) (h : ∀ v1 w1 zs, Hid (zs = xs ++ [(B, n, c)]) → SH F w0 w1 (put v1 zs) → wpList Tryd.prog ops Q rest (a.put o.dst v1) w1) : wpList Tryd.prog ops Q (o :: rest) a (w.alloc (.cells #[.slice B n c] 22)) :=
  aAppLit sV [(B, n, c)] #[.slice B n c] rfl (by simp) 1 rfl H s x ho hs hx (by show (xs.length + 1) * 24 ≤ _; omega) hw h
theorem oAppS1 (H : SH F w0 w L) (s x : Operand) (ho : o.op = .call { callee := .builtin .append, args := #[s, x], argTypes := #[192, 192] }) {A B : Option Addr} {len cap n c : Nat} {xs : List SVV} {put : Value → List SVV → List Own} (hs : a.eval s = .slice A len cap) (hx : a.eval x = .slice (some ⟨w.heap.size, 0, none⟩) 1 1) [hr : HasR L (.slice A len cap) SVV SVT xs put] (hl : xs.length ≤ 1000000)
    (h : ∀ v1 w1 zs, Hid (zs = xs ++ [(B, n, c)]) → SH F w0 w1 (put v1 zs) → K (a.put o.dst v1) w1) : o.wp Tryd.prog a (w.alloc (.cells #[.slice B n c] 22)) K Q :=
  oAppL sV [(B, n, c)] #[.slice B n c] rfl (by simp) 1 rfl H s x ho hs hx (by show (xs.length + 1) * 24 ≤ _; omega) h
end
/-- A row of the call's own, as the block that it begins. -/
theorem SH.toBlkG {α : Type} {T : Ty α} {F : Nat → Prop} {w0 w : World} {L : List Own} {A : Option Addr} {len cp : Nat} {xs : List α} (h : SH F w0 w (.row T (.slice A len cp) xs :: L)) (hp : 0 < xs.length) :
    ∃ g tail, A = some ⟨g, 0, none⟩ ∧ len = xs.length ∧ xs.length ≤ cp ∧ SH F w0 w (.blk g T.id (T.all xs ++ tail) :: L) := by
  have ho := h.or0 0 rfl
  rcases ho.2 with ⟨h1, h2⟩ | ⟨g, cap, cur, hv, _, hg, h1, h2, h3, h4⟩
  · omega
  · obtain ⟨rfl, rfl, rfl⟩ : A = some ⟨g, 0, none⟩ ∧ len = xs.length ∧ cp = cap := by injection hv with e1 e2 e3; exact ⟨e1, e2, e3⟩
    have e : cur.toList = T.all xs ++ cur.toList.drop (T.all xs).length := by
      have h5 : cur.toList.take (T.all xs).length = T.all xs := by rw [Ty.all_length]; simpa using h4
      have h6 := (List.take_append_drop (T.all xs).length cur.toList).symm
      rw [h5] at h6
      exact h6
    refine ⟨g, cur.toList.drop (T.all xs).length, rfl, rfl, h1, h.change 0 rfl (Chg.refl _ w) _ ?_ (fun b hb => .inl ?_)⟩
    · show w.heap[g]? = _
      rw [hg, ← e]
    · show Value.ownBlock _ = some b
      rw [show b = g from hb]; rfl

/-- v reads as xs in all worlds that came of w by changes of block g alone. -/
def KBw (g : Nat) (w : World) (v : Value) (xs : List UInt8) : Prop := ∀ w', Chg (fun k => k = g) w w' → RB w' v xs
theorem KBw.rb {g : Nat} {w : World} {v : Value} {xs : List UInt8} (h : KBw g w v xs) : RB w v xs := h w (Chg.refl _ w)
theorem Chg.trans2 {F : Nat → Prop} {a b c : World} (h : Chg F a b) (k : Chg F b c) : Chg F a c := ⟨k.os.trans h.os, k.tape.trans h.tape, k.output.trans h.output, Nat.le_trans h.size k.size, fun i hi hn => (k.block i (Nat.lt_of_lt_of_le hi h.size) hn).trans (h.block i hi hn)⟩
theorem KBw.step {g : Nat} {w w' : World} {v : Value} {xs : List UInt8} (h : KBw g w v xs) (hc : Chg (fun k => k = g) w w') : KBw g w' v xs := fun w2 h2 => h w2 (hc.trans2 h2)
theorem KBw.below {g : Nat} {w w' : World} {v : Value} {xs : List UInt8} (h : KBw g w v xs) (hb : Below w.heap.size w w') : KBw g w' v xs := h.step (chg_below hb _)
theorem KBw.old {g : Nat} {w : World} {v : Value} {xs : List UInt8} (h : RB w v xs) (hg : w.heap.size ≤ g) : KBw g w v xs := fun w' hc =>
  h.below ⟨hc.os, hc.tape, hc.output, hc.size, fun k hk => hc.block k hk (fun e => by have : k = g := e; omega)⟩
theorem SH.kb {F : Nat → Prop} {w0 w : World} {L : List Own} {v : Value} {xs : List UInt8} {g : Nat} {t : TypeId} {cs : List Value} {put : List Value → List Own} (h : SH F w0 w (.row B8 v xs :: L)) [hb : HasB L g t cs put] : KBw g w v xs := fun w' hc => by
  obtain ⟨i, h1, _⟩ := hb.ix
  have hap := (List.pairwise_cons.1 h.apart).1 _ (List.mem_of_getElem? h1)
  have ho : (Own.row B8 v xs).holds w := h.holds _ (List.mem_cons_self ..)
  exact OR.reads (base := 0) (T := B8) (Own.keep (Own.row B8 v xs) w w' ho hc.size fun b hf => hc.block b (Own.lt (Own.row B8 v xs) w b ho hf) fun e => hap b hf e)

/-- The slices of ss read as the rows of N, whatever becomes of block g. -/
structure LR (g : Nat) (w : World) (ss : List SVV) (N : List (List UInt8)) : Prop where
  len : ss.length = N.length
  at_ : ∀ i, i < N.length → KBw g w (ss.getD i sv0).val (N.getD i [])
theorem LR.step {g : Nat} {w w' : World} {ss : List SVV} {N : List (List UInt8)} (h : LR g w ss N) (hc : Chg (fun k => k = g) w w') : LR g w' ss N := ⟨h.len, fun i hi => (h.at_ i hi).step hc⟩
theorem LR.below {g : Nat} {w w' : World} {ss : List SVV} {N : List (List UInt8)} (h : LR g w ss N) (hb : Below w.heap.size w w') : LR g w' ss N := h.step (chg_below hb _)
theorem LR.set {g : Nat} {w : World} {ss : List SVV} {N : List (List UInt8)} (h : LR g w ss N) (i : Nat) (s : SVV) (x : List UInt8) (hk : KBw g w s.val x) : LR g w (ss.set i s) (N.set i x) := by
  refine ⟨by rw [List.length_set, List.length_set]; exact h.len, fun j hj => ?_⟩
  rw [List.length_set] at hj
  have hl := h.len
  by_cases e : i = j
  · subst e
    rw [List.getD_eq_getElem?_getD, List.getElem?_set_self (by omega), List.getD_eq_getElem?_getD, List.getElem?_set_self hj]
    exact hk
  · rw [List.getD_eq_getElem?_getD, List.getElem?_set_ne e, List.getD_eq_getElem?_getD (l := N.set i x), List.getElem?_set_ne e, ← List.getD_eq_getElem?_getD, ← List.getD_eq_getElem?_getD]
    exact h.at_ j hj
theorem svcell (ss : List SVV) (tail : List Value) (i : Nat) (hi : i < ss.length) : (ss.map SVV.val ++ tail)[i]? = some (ss.getD i sv0).val := by
  rw [List.getElem?_append_left (by rw [List.length_map]; exact hi), List.getElem?_map, List.getD_eq_getElem?_getD, List.getElem?_eq_getElem hi]; rfl
theorem svset (ss : List SVV) (tail : List Value) (i : Nat) (s : SVV) (hi : i < ss.length) : (ss.map SVV.val ++ tail).set i s.val = (ss.set i s).map SVV.val ++ tail := by
  rw [List.set_append_left _ _ (by rw [List.length_map]; exact hi), List.map_set]
/-- The slices of ss read as the rows of N. -/
def LB (w : World) (ss : List SVV) (N : List (List UInt8)) : Prop := ss.length = N.length ∧ ∀ i, i < N.length → RB w (ss.getD i sv0).val (N.getD i [])
theorem LB.below {w w' : World} {ss : List SVV} {N : List (List UInt8)} (h : LB w ss N) (hb : Below w.heap.size w w') : LB w' ss N := ⟨h.1, fun i hi => (h.2 i hi).below hb⟩
theorem getD_snoc {α : Type} (l : List α) (x d : α) (i : Nat) : (l ++ [x]).getD i d = if i < l.length then l.getD i d else if i = l.length then x else d := by
  by_cases e : i < l.length
  · rw [if_pos e, List.getD_eq_getElem?_getD, List.getElem?_append_left e, ← List.getD_eq_getElem?_getD]
  · rw [if_neg e, List.getD_eq_getElem?_getD, List.getElem?_append_right (by omega)]
    by_cases e2 : i = l.length
    · rw [if_pos e2, e2, Nat.sub_self]; rfl
    · rw [if_neg e2, List.getElem?_eq_none (by simp; omega)]; rfl
theorem LB.snoc {w : World} {ss : List SVV} {N : List (List UInt8)} (h : LB w ss N) (s : SVV) (x : List UInt8) (hk : RB w s.val x) : LB w (ss ++ [s]) (N ++ [x]) := by
  refine ⟨by rw [List.length_append, List.length_append, h.1]; rfl, fun i hi => ?_⟩
  rw [List.length_append, List.length_singleton] at hi
  have hl := h.1
  rw [getD_snoc, getD_snoc]
  by_cases e : i < N.length
  · rw [if_pos e, if_pos (by omega)]; exact h.2 i e
  · rw [if_neg e, if_neg (by omega), if_pos (by omega), if_pos (by omega)]; exact hk
/-- What slice s stands in. -/
def svF (s : SVV) (x : List UInt8) (k : Nat) : Prop := 0 < x.length ∧ ∃ ad : Addr, s.1 = some ad ∧ ad.block = k
/-- All rows that slices read, as one thing. -/
def Own.rdAll (ss : List SVV) (N : List (List UInt8)) : Own where
  foot k := ∃ i, i < N.length ∧ svF (ss.getD i sv0) (N.getD i []) k
  holds w := LB w ss N
  lt w k h e := by
    obtain ⟨i, hi, hp, ad, he, rfl⟩ := e
    have := h.2 i hi
    refine Own.lt (Own.rd B8 (ss.getD i sv0).val (N.getD i [])) w _ this ⟨hp, ad, (ss.getD i sv0).2.1, (ss.getD i sv0).2.2, ?_, rfl⟩
    rw [SVV.val, he]
  keep w w' h hs hk := ⟨h.1, fun i hi => Own.keep (Own.rd B8 (ss.getD i sv0).val (N.getD i [])) w w' (h.2 i hi) hs fun b ⟨hp, ad, n, c, he, hb⟩ => hk b ⟨i, hi, hp, ad, by unfold SVV.val at he; injection he, hb⟩⟩
theorem SH.rdNil {F : Nat → Prop} {w0 w : World} {L : List Own} (h : SH F w0 w L) : SH F w0 w (.rdAll [] [] :: L) :=
  h.push (Below.refl _ _) _ ⟨rfl, fun i hi => by simp at hi⟩ (fun b ⟨i, hi, _⟩ => by simp at hi)
/-- A row of the call's own joins them. -/
theorem SH.rdSnoc {F : Nat → Prop} {w0 w : World} {L : List Own} {A : Option Addr} {n c : Nat} {x : List UInt8} {ss : List SVV} {N : List (List UInt8)} (h : SH F w0 w (.row B8 (.slice A n c) x :: .rdAll ss N :: L)) : SH F w0 w (.rdAll (ss ++ [(A, n, c)]) (N ++ [x]) :: L) := by
  have ho : OR B8 w 0 (.slice A n c) x := h.or0 0 rfl
  have hl : ss.length = N.length := (h.at_ 1 rfl).1
  refine h.merge _ (fun h1 h2 => LB.snoc h2 _ x (OR.reads h1)) fun b ⟨i, hi, hf⟩ => ?_
  rw [List.length_append, List.length_singleton] at hi
  rw [getD_snoc, getD_snoc] at hf
  by_cases e : i < N.length
  · rw [if_pos e, if_pos (by omega)] at hf
    exact .inr ⟨i, e, hf⟩
  · rw [if_neg e, if_neg (by omega), if_pos (by omega), if_pos (by omega)] at hf
    obtain ⟨hp, ad, he, hb⟩ := hf
    left
    obtain ⟨g, cap, hv, _, _⟩ := ho.form hp
    show (Value.slice A n c).ownBlock = some b
    injection hv with e1 e2 e3
    rw [e1] at he ⊢
    injection he with he
    rw [← hb, ← he]
    rfl
end Go.Proofs.YticfcelbnkiopaaDoor

namespace Go.Proofs.YticfcelbnkiopaaDoor
set_option maxRecDepth 100000
open Go.RowKit
set_option linter.unusedSimpArgs false
set_option linter.unusedVariables false

section
variable {P : Program} {ops : Array Oper} {rest : List Oper} {o : Oper} {a : Act} {Q : Exit → Act → World → Prop} {F : Nat → Prop} {w0 w : World} {L : List Own} {K : Act → World → Prop} {ρ : Operand → Value}
variable {b off dLen dCap sLen sCap : Nat} {t2 : TypeId} {cs new : List Value} {put : List Value → List Own}
/-- copy(d, s) of bytes, into a block. -/
theorem xCopy (H : SH F w0 w L) (d s : Operand) (ho : o.op = .call { callee := .builtin .copy, args := #[d, s], argTypes := #[22, 22] }) (hd : ρ d = .slice (some ⟨b, off, none⟩) dLen dCap) {ad : Addr} (hs : ρ s = .slice (some ad) sLen sCap) [hb : HasB L b t2 cs put]
    (xs : List UInt8) (hx : xs.length = Nat.min sLen dLen) (hsrc : ∀ (j : Nat) (u : Value), (xs.map cb)[j]? = some u → w.cell? (ad.add j) = some u) (hfit : off + xs.length ≤ cs.length) (hn : lay cs off (xs.map cb) = new) :
    ∃ w', (execOp ρ o).run Tryd.prog w = .ok (.value (.int .i64 (xs.length : Int))) w' ∧ Chg (fun k => k = b) w w' ∧ SH F w0 w' (put new) := by
  obtain ⟨i, h2, h3⟩ := hb.ix
  subst hn
  have hl : (xs.map cb).length = xs.length := List.length_map ..
  have hr := run_copy_row (P := Tryd.prog) w 22 22 o.type 5 b off dLen dCap ad sLen sCap cs.toArray t2 (xs.map cb) Tryd.underlying22 (by kernel_rfl) (H.va i h2) (by rw [hl]; exact hx) hsrc (by rw [hl]; simpa using hfit) (List.all_eq_true.1 (one_all xs))
  refine ⟨w.setRow b (lay cs off (xs.map cb)).toArray, ?_, ?_, ?_⟩
  rotate_left
  · have := chg_grown (setRow_grown w b (lay cs off (xs.map cb)).toArray)
    exact ⟨this.os, this.tape, this.output, this.size, fun k hk hn => this.block k hk (fun e => hn (by injection e with e; exact e.symm))⟩
  · rw [← h3]
    exact H.setRow i h2 _
  · unfold execOp
    simp only [ho, resolve, invoke, builtin, Sem.run_bind, Sem.run_pure, Result.andThen_ok, List.map_toArray, List.map_cons, List.map_nil, hd, hs, hr, hl, lay]
    rfl
end
theorem addr_mid (g off k : Nat) : (⟨g, off, none⟩ : Addr).add k = ⟨g, off + k, none⟩ := Addr.add_mid g off k
theorem oCopyB {o : Oper} {a : Act} {Q : Exit → Act → World → Prop} {F : Nat → Prop} {w0 w : World} {L : List Own} {K : Act → World → Prop} {b off dLen dCap sLen sCap : Nat} {t2 : TypeId} {cs new : List Value} {put : List Value → List Own}
    (H : SH F w0 w L) (d s : Operand) (ho : o.op = .call { callee := .builtin .copy, args := #[d, s], argTypes := #[22, 22] }) (hd : a.eval d = .slice (some ⟨b, off, none⟩) dLen dCap) {ad : Addr} (hs : a.eval s = .slice (some ad) sLen sCap) [hb : HasB L b t2 cs put]
    (xs : List UInt8) (hx : xs.length = Nat.min sLen dLen) (hsrc : ∀ (j : Nat) (u : Value), (xs.map cb)[j]? = some u → w.cell? (ad.add j) = some u) (hfit : off + xs.length ≤ cs.length) (hn : lay cs off (xs.map cb) = new)
    (h : ∀ w', Chg (fun k => k = b) w w' → SH F w0 w' (put new) → K (a.put o.dst (.int .i64 (xs.length : Int))) w') : o.wp Tryd.prog a w K Q := by
  obtain ⟨w', hr, hch, H'⟩ := xCopy (ρ := a.eval) H d s ho hd hs xs hx hsrc hfit hn
  exact opV hr (h w' hch H')
/-- A cut of the block of a hash. -/
theorem cutBlk (b hd : Nat) (h : hd < 64) (W : World) : (Instr.sliceAt 220 (.pointer (some ⟨b, 8, none⟩)) (some (.int .i64 (hd : Int))) none none).run Tryd.prog W = .ok (.slice (some ⟨b, 8 + hd, none⟩) (64 - hd) (64 - hd)) W := by
  have hel : Tryd.prog.elem 220 = 5 := by simp [Program.elem, Tryd.underlying220]
  have hal : Tryd.prog.arrayLen 220 = 64 := by simp [Program.arrayLen, Tryd.underlying220]
  obtain ⟨i0, hi, hz⟩ := Option.map_eq_some_iff.1 Tryd.info_u8
  simp only [Prod.mk.injEq] at hz
  obtain ⟨_, hsz, _⟩ := hz
  have hne : (64 : Nat) ≠ hd := by omega
  rw [run_sliceAt_array_l W 220 ⟨b, 8, none⟩ (by rw [hal, hel]; exact Tryd.underlying220) .i64 (hd : Int) (by omega) (by rw [hal]; omega), hel, size_of _ (by kernel_rfl), hal]
  simp only [Result.andThen_ok, slicedAt, Int.toNat_natCast, if_neg hne, Nat.mul_one, addr_mid]
theorem cutKB {g : Nat} {w : World} {A : Option Addr} {c : Nat} {xs : List UInt8} (h : KBw g w (.slice A xs.length c) xs) (n : Nat) (hn : n ≤ xs.length) :
    ∃ A', (∀ (kl : IntKind) (W : World), (Instr.slice 22 (.slice A xs.length c) (some (.int kl (n : Int))) none none).run Tryd.prog W = .ok (.slice A' (xs.length - n) (c - n)) W) ∧ KBw g w (.slice A' (xs.length - n) (c - n)) (xs.drop n) := by
  have hc : xs.length ≤ c := by
    obtain ⟨A', c', e, h1⟩ := h.rb.len
    injection e with e1 e2 e3
    omega
  obtain ⟨A', -, h2, -, h3⟩ := cutB A c xs n xs.length hn (Nat.le_refl _) hc
  refine ⟨A', fun kl W => h2 kl W rfl, fun w' hw => ?_⟩
  have := h3 w' (h w' hw)
  rw [List.take_of_length_le (Nat.le_refl _)] at this
  exact this
/-- What a hash that goes on holds of a text. -/
structure HashIs (msg : List UInt8) (s : S8) (blk : List UInt8) (held : Nat) : Prop where
  st : s = foldB msg (msg.length / 64)
  bl : blk.length = 64
  hd : held = msg.length % 64
  tk : blk.take held = msg.drop (64 * (msg.length / 64))
theorem HashIs.start : HashIs [] S8.start (List.replicate 64 0) 0 := ⟨rfl, by simp, rfl, rfl⟩
theorem foldB_app (l x : List UInt8) : ∀ n, 64 * n ≤ l.length → foldB (l ++ x) n = foldB l n
  | 0, _ => rfl
  | n + 1, h => by
    rw [foldB, foldB, foldB_app l x n (by omega), List.drop_append_of_le_length (by omega), List.take_append_of_le_length (by rw [List.length_drop]; omega)]
def putB (blk : List UInt8) (held : Nat) (ys : List UInt8) : List UInt8 := blk.take held ++ ys ++ blk.drop (held + ys.length)
theorem putB_len (blk : List UInt8) (held : Nat) (ys : List UInt8) (hb : blk.length = 64) (h : held + ys.length ≤ 64) : (putB blk held ys).length = 64 := by
  rw [putB, List.length_append, List.length_append, List.length_take, List.length_drop, hb]; omega
theorem HashIs.more {msg : List UInt8} {s : S8} {blk : List UInt8} {held : Nat} (h : HashIs msg s blk held) (ys : List UInt8) (hy : held + ys.length < 64) : HashIs (msg ++ ys) s (putB blk held ys) (held + ys.length) := by
  have hd := h.hd
  have hq : (msg ++ ys).length / 64 = msg.length / 64 := by rw [List.length_append]; omega
  refine ⟨by rw [hq, foldB_app _ _ _ (by omega)]; exact h.st, putB_len _ _ _ h.bl (by omega), by rw [List.length_append]; omega, ?_⟩
  rw [hq, List.drop_append_of_le_length (by omega), ← h.tk, putB, List.append_assoc, ← List.append_assoc, List.take_left' (by rw [List.length_append, List.length_take, h.bl]; omega)]
theorem HashIs.full {msg : List UInt8} {s : S8} {blk : List UInt8} {held : Nat} (h : HashIs msg s blk held) (ys : List UInt8) (hy : held + ys.length = 64) : HashIs (msg ++ ys) (compB s (putB blk held ys)) (putB blk held ys) 0 := by
  have hd := h.hd
  have hq : (msg ++ ys).length / 64 = msg.length / 64 + 1 := by rw [List.length_append]; omega
  have hp : putB blk held ys = msg.drop (64 * (msg.length / 64)) ++ ys := by
    rw [putB, List.drop_of_length_le (by rw [h.bl]; omega), List.append_nil, h.tk]
  refine ⟨?_, putB_len _ _ _ h.bl (by omega), by rw [List.length_append]; omega, ?_⟩
  · rw [hq, foldB, foldB_app _ _ _ (by omega), ← h.st, List.drop_append_of_le_length (by omega), ← hp, List.take_of_length_le (by rw [putB_len _ _ _ h.bl (by omega)]; omega)]
  · rw [hq, List.take_zero, List.drop_of_length_le (by rw [List.length_append]; omega)]
theorem hashC_lay (s : S8) (blk : List UInt8) (held long : Nat) (ys : List UInt8) (hb : blk.length = 64) (h : held + ys.length ≤ 64) : lay (hashC s blk held long) (8 + held) (ys.map cb) = hashC s (putB blk held ys) held long := by
  have e : hashC s blk held long = (s.list.map vw ++ (blk.take held).map cb) ++ ((blk.drop held).map cb ++ [.int .i64 (held : Int), .int .u64 (long : Int)]) := by
    rw [hashC, List.append_assoc, ← List.append_assoc (List.map cb (blk.take held)), ← List.map_append, List.take_append_drop]
  have hl : (s.list.map vw ++ (blk.take held).map cb).length = 8 + held := by rw [List.length_append, S8.len, List.length_map, List.length_take, hb]; omega
  rw [e, lay, List.take_left' hl, ← List.drop_drop, List.drop_left' hl, List.length_map, List.drop_append_of_le_length (by rw [List.length_map, List.length_drop, hb]; omega), ← List.map_drop, List.drop_drop, hashC, putB, List.map_append, List.map_append]
  simp only [List.append_assoc]
def relW (msg xs : List UInt8) (F : Nat → Prop) (w : World) (b long : Nat) (v1 : Value) (wr : World) : Prop :=
  ∃ (dn rs : List UInt8) (A : Option Addr) (c : Nat) (s : S8) (blk : List UInt8) (held : Nat), v1 = .slice A rs.length c ∧ KBw b wr (.slice A rs.length c) rs ∧ Hid (xs = dn ++ rs) ∧ Hid (HashIs (msg ++ dn) s blk held) ∧ SH F w wr [.blk b 222 (hashC s blk held long)]
set_option maxHeartbeats 3200000 in
theorem Write_any (msg xs : List UInt8) (s : S8) (blk : List UInt8) (held b : Nat) (vb : Value) (w : World) (hv : VA w b 222 (hashC s blk held msg.length)) (hi : HashIs msg s blk held) (hx : KBw b w vb xs) (hl : msg.length + xs.length ≤ 4611686018427387904) :
    Calls Tryd.prog 118 #[.pointer (some ⟨b, 0, none⟩), vb] w fun e w' => ∃ s' blk' held', e = .returned (.tuple #[]) ∧ HashIs (msg ++ xs) s' blk' held' ∧ SH (fun k => k = b) w w' [.blk b 222 (hashC s' blk' held' (msg ++ xs).length)] := by
  have H := SH.ofB hv
  obtain ⟨A0, c0, rfl, hc0⟩ := id hx.rb.len
  have hlong := (hv.cell 73).trans (hashC_long s blk hi.bl held msg.length)
  have hsl := hashC_setLong s blk hi.bl held msg.length (msg ++ xs).length
  have hadd : IntKind.u64.wrap ((msg.length : Int) + (xs.length : Int)) = (((msg ++ xs).length : Nat) : Int) := by rw [List.length_append, IntKind.wrap_u64]; omega
  have hcw : IntKind.u64.wrap (xs.length : Int) = (xs.length : Int) := by rw [IntKind.wrap_u64]; omega
  have hl73 := hashC_len s blk hi.bl held msg.length
  generalize hM : (msg ++ xs).length = long at *
  have HSL := Lib.hid hsl
  have HL73 := Lib.hid hl73
  have HI := Lib.hid hi
  have HX := Lib.hid hx
  have HM := Lib.hid hM
  have hxb : (xs.length : Int) ≤ 4611686018427387904 := by omega
  clear hsl hl73 hv hi hx hM
  go_enter Tryd.func118, Tryd.ntmps118
  go_wp2_with (first
    | ((with_reducible refine gDst 10 ?_); refine aLoadC _ rfl rfl hlong rfl ?_)
    | ((with_reducible refine gStore ?_); refine aCellC (v := .int .u64 (long : Int)) (new := hashC s blk held long) H _ _ rfl rfl rfl rfl rfl (by rw [HL73.out]; omega) HSL.out rfl ?_; clear H hlong; intro w' hch H; (try dsimp only at H); replace HX := Lib.hid (HX.out.step hch); clear hch))
  simp only [Act.put]
  go_loopw [1] (fun v1 wr => relW msg xs (fun k => k = b) w b long v1 wr) (fun v _ => match v with | .slice _ n _ => n | _ => 0)
  case atStart => exact ⟨[], xs, _, _, s, blk, held, rfl, HX.out, rfl, by rw [List.append_nil]; exact HI.out, H⟩
  case round =>
    obtain ⟨dn, rs, A, c, q, bk, hd, rfl, hK, HD, HH, HS⟩ := hrel
    clear H
    have H := HS
    clear HS
    have hbl := HH.out.bl
    have hdm := HH.out.hd
    have hrl : rs.length ≤ xs.length := by rw [HD.out, List.length_append]; omega
    rcases Nat.eq_zero_or_pos rs.length with h0 | h0
    · have hrs : rs = [] := List.eq_nil_of_length_eq_zero h0
      have hxd : xs = dn := by rw [HD.out, hrs, List.append_nil]
      have h0i : (rs.length : Int) = 0 := by omega
      go_wp2
      go_end0
      exact ⟨q, bk, hd, rfl, by rw [hxd]; exact HH.out, H⟩
    · have h0i : (0 : Int) < (rs.length : Int) := by omega
      have h64 : hd < 64 := by omega
      have c72 := ((H.hold.va (b := b)).cell 72).trans (hashC_held q bk hbl hd long)
      obtain ⟨n, hn⟩ : ∃ n, n = Nat.min rs.length (64 - hd) := ⟨_, rfl⟩
      have hnr : n ≤ rs.length := by rw [hn]; exact Nat.min_le_left _ _
      have hnh1 : n ≤ 64 - hd := by rw [hn]; exact Nat.min_le_right _ _
      have hnh : hd + n ≤ 64 := by omega
      have hn0 : 0 < n := by rw [hn]; exact Nat.lt_min.mpr ⟨h0, by omega⟩
      have hyl : (rs.take n).length = n := by rw [List.length_take]; omega
      have hlay := hashC_lay q bk hd long (rs.take n) hbl (by rw [hyl]; exact hnh)
      obtain ⟨A2, hcut, hK2⟩ := cutKB hK n hnr
      obtain ⟨ad, rfl, hcc⟩ := hK.rb.at0 h0
      have hsrc : ∀ (wS : World), wS.heap = wr.heap → ∀ (j : Nat) (u : Value), ((rs.take n).map cb)[j]? = some u → wS.cell? (ad.add j) = some u := fun wS e j u hj => by
        have := hcc j u (by
          rw [List.map_take, List.getElem?_take] at hj
          split at hj
          · exact hj
          · cases hj)
        unfold World.cell? at this ⊢
        rw [e]
        exact this
      have hstep := HD.out
      rw [show rs = rs.take n ++ rs.drop n from (List.take_append_drop n rs).symm, ← List.append_assoc] at hstep
      have hdl : (rs.drop n).length = rs.length - n := List.length_drop ..
      have hni : (n : Int) ≤ (rs.length : Int) := by omega
      have hmin : (rs.take n).length = Nat.min rs.length (64 - hd) := by rw [hyl, hn]
      have hHS : ∀ wS, wS = wr.drew → (∀ (j : Nat) (u : Value), ((rs.take n).map cb)[j]? = some u → wS.cell? (ad.add j) = some u) ∧ KBw b wS (.slice A2 (rs.length - n) (c - n)) (rs.drop n) := fun wS e => by
        subst e
        exact ⟨hsrc _ rfl, hK2.step (Chg.refl _ _).drew⟩
      have hdi : (hd : Int) < 64 := by omega
      have hdn : (hd : Int) + (n : Int) ≤ 64 := by omega
      have h64c : (hashC q bk hd long).length = 74 := hashC_len q bk hbl hd long
      have hmore : hd + n < 64 → HashIs (msg ++ (dn ++ rs.take n)) q (putB bk hd (rs.take n)) (hd + n) := fun h => by
        have := HH.out.more (rs.take n) (by rw [hyl]; exact h)
        rw [hyl] at this
        rw [← List.append_assoc]; exact this
      have hfull : hd + n = 64 → HashIs (msg ++ (dn ++ rs.take n)) (compB q (putB bk hd (rs.take n))) (putB bk hd (rs.take n)) 0 := fun h => by rw [← List.append_assoc]; exact HH.out.full _ (by rw [hyl]; exact h)
      have hpl := putB_len bk hd (rs.take n) hbl (by rw [hyl]; exact hnh)
      have hsh := hashC_setHeld q (putB bk hd (rs.take n)) hpl hd long (hd + n)
      have hc2 := hashC_held q (putB bk hd (rs.take n)) hpl (hd + n) long
      have hc3 := hashC_held q (putB bk hd (rs.take n)) hpl hd long
      have hpl74 := hashC_len q (putB bk hd (rs.take n)) hpl hd long
      have cT := fun (W : World) (h : VA W b 222 (hashC q (putB bk hd (rs.take n)) (hd + n) long)) => take_any q (putB bk hd (rs.take n)) (hd + n) long b W h hpl
      generalize putB bk hd (rs.take n) = bk2 at *
      generalize rs.take n = ys at *
      have HLAY := Lib.hid hlay
      have HST := Lib.hid hstep
      have HHS := Lib.hid hHS
      have HMIN := Lib.hid hmin
      have HYL := Lib.hid hyl
      have H64C := Lib.hid h64c
      have HMORE := Lib.hid hmore
      have HFULL := Lib.hid hfull
      have HSH := Lib.hid hsh
      have HC2 := Lib.hid hc2
      have HC3 := Lib.hid hc3
      have H74 := Lib.hid hpl74
      have HDL := Lib.hid hdl
      have HCT := Lib.hid cT
      clear hlay hstep hHS hmin hyl h64c hmore hfull hsh hc2 hc3 hpl74 hdl cT hsrc hcc hK hK2 hn hbl hdm hpl
      generalize rs.drop n = rs2 at *
      have hsa := fun W => cutBlk b hd h64 W
      go_wp2
      refine startA (fun i => i == 9) (by kernel_rfl) (fun wS hS => ?_)
      replace H := H.drew
      rw [← hS] at H
      have HH := H.hold
      have HS0 : Below wS.heap.size wS wS := Below.refl _ _
      replace c72 := cellS hS c72
      obtain ⟨hsr, hK3⟩ := HHS.out wS hS
      clear hS
      refine takeP 0 rfl (by kernel_rfl) (by kernel_rfl) (by kernel_rfl) (by kernel_rfl) (fun _ _ _ h => h) rfl (v := ?_) ?_ ?_
      rotate_left
      · intro w'; go_simp; (try with_reducible rfl)
      (try simp only [Act.put, List.setIfInBounds_toArray, List.set_cons_zero, List.set_cons_succ])
      refine takeP 1 rfl (by kernel_rfl) (by kernel_rfl) (by kernel_rfl) (by kernel_rfl) (fun _ _ _ h => h) rfl (v := ?_) ?_ ?_
      rotate_left
      · intro w'; go_simp; (try with_reducible rfl)
      (try simp only [Act.put, List.setIfInBounds_toArray, List.set_cons_zero, List.set_cons_succ])
      refine takeP 2 rfl (by kernel_rfl) (by kernel_rfl) (by kernel_rfl) (by kernel_rfl) (fun _ _ _ h => h) rfl (v := ?_) ?_ ?_
      rotate_left
      · intro w'; go_simp; (try with_reducible rfl)
      (try simp only [Act.put, List.setIfInBounds_toArray, List.set_cons_zero, List.set_cons_succ])
      refine takeP 3 rfl (by kernel_rfl) (by kernel_rfl) (by kernel_rfl) (by kernel_rfl) (fun _ _ _ h => h) rfl (v := ?_) ?_ ?_
      rotate_left
      · intro w'; go_simp; (try with_reducible rfl)
      (try simp only [Act.put, List.setIfInBounds_toArray, List.set_cons_zero, List.set_cons_succ])
      refine takeP 4 rfl (by kernel_rfl) (by kernel_rfl) (by kernel_rfl) (by kernel_rfl) (fun _ _ _ h => h) rfl (v := ?_) ?_ ?_
      rotate_left
      · intro w'; go_simp; (try with_reducible rfl)
      (try simp only [Act.put, List.setIfInBounds_toArray, List.set_cons_zero, List.set_cons_succ])
      refine takeP 5 rfl (by kernel_rfl) (by kernel_rfl) (by kernel_rfl) (by kernel_rfl) (fun _ _ _ h => h) rfl (v := ?_) ?_ ?_
      rotate_left
      · intro w'; go_simp; (try with_reducible rfl)
      (try simp only [Act.put, List.setIfInBounds_toArray, List.set_cons_zero, List.set_cons_succ])
      refine takeL 6 HS0 rfl (by kernel_rfl) (by kernel_rfl) (by kernel_rfl) (by kernel_rfl) (by kernel_rfl) (fun _ _ _ h => h) rfl (v := ?_) ?_ ?_
      rotate_left
      · intro w' hw'; first | (refine Eq.trans (xLoad1 (HH.below hw') _ rfl rfl (by first | exact (rfl : _ = some (Value.int _ _)) | exact (rfl : _ = some (Value.slice _ _ _)) | exact (rfl : _ = some (Value.bool _)) | exact (rfl : _ = some (Value.string _)) | exact (rfl : _ = some (Value.pointer _)) | rfl | (simp [List.getElem?_append]; done))) ?_; with_reducible rfl) | (refine Eq.trans (xLoadC _ rfl rfl (cell_below hw' (by assumption))) ?_; with_reducible rfl)
      (try simp only [Act.put, List.setIfInBounds_toArray, List.set_cons_zero, List.set_cons_succ])
      refine takeP 7 rfl (by kernel_rfl) (by kernel_rfl) (by kernel_rfl) (by kernel_rfl) (fun _ _ _ h => h) rfl (v := ?_) ?_ ?_
      rotate_left
      · intro w'; go_simp; (try with_reducible rfl)
      (try simp only [Act.put, List.setIfInBounds_toArray, List.set_cons_zero, List.set_cons_succ])
      refine takeP 8 rfl (by kernel_rfl) (by kernel_rfl) (by kernel_rfl) (by kernel_rfl) (fun _ _ _ h => h) rfl (v := ?_) ?_ ?_
      rotate_left
      · intro w'; go_simp; (try with_reducible rfl)
      (try simp only [Act.put, List.setIfInBounds_toArray, List.set_cons_zero, List.set_cons_succ])
      refine stepL 9 rfl (by kernel_rfl) rfl (fun K hK => ?_)
      (refine oCopyB H _ _ rfl rfl rfl ys HMIN.out hsr (by rw [HYL.out, H64C.out]; omega) HLAY.out ?_; clear H; intro w7 hch H; (try dsimp only at H); rw [HYL.out]; have hK4 := hK3.step hch; refine hK.out _ _ (fun h => by cases h) ?_; clear K hK HS0 hK3 hch hsr)
      (try simp only [Act.put, List.setIfInBounds_toArray, List.set_cons_zero, List.set_cons_succ])
      refine takeP 10 rfl (by kernel_rfl) (by kernel_rfl) (by kernel_rfl) (by kernel_rfl) (fun _ _ _ h => h) rfl (v := ?_) ?_ ?_
      rotate_left
      · intro w'; go_simp; (try with_reducible rfl)
      (try simp only [Act.put, List.setIfInBounds_toArray, List.set_cons_zero, List.set_cons_succ])
      refine doneL (by kernel_rfl) ?_
      have c33 := ((H.hold.va (b := b)).cell 72).trans HC3.out
      have hsum : (hd : Int) + (n : Int) = ((hd + n : Nat) : Int) := by omega
      rw [← HDL.out] at hK4 hcut
      obtain ⟨m, hm⟩ : ∃ m, m = hd + n := ⟨_, rfl⟩
      have hmb : (m : Int) ≤ 64 := by omega
      rw [← hm] at hsum
      have hc2 := HC2.out
      have hsh := HSH.out
      have hct := HCT.out
      rw [← hm] at hc2 hsh hct
      have HC2m := Lib.hid hc2
      have HSHm := Lib.hid hsh
      have HCTm := Lib.hid hct
      clear hc2 hsh hct HC2 HSH HCT
      rcases Nat.lt_or_ge m 64 with hlt | hge
      · have hne : ((m : Int) == 64) = false := beq_eq_false_iff_ne.mpr (by omega)
        have hne2 : ((m : Int) = 64) = False := eq_false (by omega)
        have hfin := HMORE.out (by omega)
        rw [← hm] at hfin
        have HFIN := Lib.hid hfin
        clear hfin hlt hm hnh hnh1 hdn
        go_wp2_with (first
          | ((with_reducible refine gDst 33 ?_); refine aLoadC _ rfl rfl c33 rfl ?_)
          | ((with_reducible refine gDst 44 ?_); refine aLoadC _ rfl rfl c44 rfl ?_)
          | ((with_reducible refine gStore ?_); refine aCellC (v := .int .i64 (m : Int)) (new := hashC q bk2 m long) H _ _ rfl rfl rfl rfl rfl (by rw [H74.out]; omega) HSHm.out rfl ?_; clear H c33; intro w8 hch H; (try dsimp only at H); replace hK4 := hK4.step hch; clear hch; have c44 := ((H.hold.va (b := b)).cell 72).trans HC2m.out))
        go_roundw
        case rel => first | exact ⟨dn ++ ys, rs2, A2, c - n, q, bk2, m, rfl, hK4, HST.out, HFIN, H⟩ | exact ⟨_, ⟨dn ++ ys, rs2, A2, c - n, q, bk2, m, rfl, hK4, HST.out, HFIN, H⟩, rfl⟩ | exact ⟨_, _, ⟨dn ++ ys, rs2, A2, c - n, q, bk2, m, rfl, hK4, HST.out, HFIN, H⟩, rfl, rfl⟩ | exact ⟨_, _, _, ⟨dn ++ ys, rs2, A2, c - n, q, bk2, m, rfl, hK4, HST.out, HFIN, H⟩, rfl, rfl, rfl⟩ | exact ⟨_, _, _, _, ⟨dn ++ ys, rs2, A2, c - n, q, bk2, m, rfl, hK4, HST.out, HFIN, H⟩, rfl, rfl, rfl, rfl⟩ | exact ⟨_, _, _, _, _, ⟨dn ++ ys, rs2, A2, c - n, q, bk2, m, rfl, hK4, HST.out, HFIN, H⟩, rfl, rfl, rfl, rfl, rfl⟩ | ((repeat (apply Exists.intro)); exact ⟨⟨dn ++ ys, rs2, A2, c - n, q, bk2, m, rfl, hK4, HST.out, HFIN, H⟩, rfl⟩)
        case measure => simp [HDL.out] <;> omega
      · have hm64 : m = 64 := by omega
        have hne : ((m : Int) == 64) = true := beq_iff_eq.mpr (by omega)
        have hne2 : ((m : Int) = 64) = True := eq_true (by omega)
        have hfin := HFULL.out (by omega)
        have HFIN := Lib.hid hfin
        clear hfin hge hm64 hm hnh hnh1 hdn
        go_wp2_with (first
          | ((with_reducible refine gDst 33 ?_); refine aLoadC _ rfl rfl c33 rfl ?_)
          | ((with_reducible refine gDst 44 ?_); refine aLoadC _ rfl rfl c44 rfl ?_)
          | ((with_reducible refine gStore ?_); refine aCellC (v := .int .i64 (m : Int)) (new := hashC q bk2 m long) H _ _ rfl rfl rfl rfl rfl (by rw [H74.out]; omega) HSHm.out rfl ?_; clear H c33; intro w8 hch H; (try dsimp only at H); replace hK4 := hK4.step hch; clear hch; have c44 := ((H.hold.va (b := b)).cell 72).trans HC2m.out)
          | (go_at_call 144; (refine (HCTm.out _ H.hold.va).mono ?_); rintro e w9 ⟨rfl, k⟩; have H9 := SH.viaB H k; (try dsimp only at H9); replace hK4 := hK4.step k.chg; clear H k c44; have H := H9; clear H9))
        go_roundw
        case rel => first | exact ⟨dn ++ ys, rs2, A2, c - n, _, bk2, 0, rfl, hK4, HST.out, HFIN, H⟩ | exact ⟨_, ⟨dn ++ ys, rs2, A2, c - n, _, bk2, 0, rfl, hK4, HST.out, HFIN, H⟩, rfl⟩ | exact ⟨_, _, ⟨dn ++ ys, rs2, A2, c - n, _, bk2, 0, rfl, hK4, HST.out, HFIN, H⟩, rfl, rfl⟩ | exact ⟨_, _, _, ⟨dn ++ ys, rs2, A2, c - n, _, bk2, 0, rfl, hK4, HST.out, HFIN, H⟩, rfl, rfl, rfl⟩ | exact ⟨_, _, _, _, ⟨dn ++ ys, rs2, A2, c - n, _, bk2, 0, rfl, hK4, HST.out, HFIN, H⟩, rfl, rfl, rfl, rfl⟩ | exact ⟨_, _, _, _, _, ⟨dn ++ ys, rs2, A2, c - n, _, bk2, 0, rfl, hK4, HST.out, HFIN, H⟩, rfl, rfl, rfl, rfl, rfl⟩ | ((repeat (apply Exists.intro)); exact ⟨⟨dn ++ ys, rs2, A2, c - n, _, bk2, 0, rfl, hK4, HST.out, HFIN, H⟩, rfl⟩)
        case measure => simp [HDL.out] <;> omega
end Go.Proofs.YticfcelbnkiopaaDoor

namespace Go.Proofs.YticfcelbnkiopaaDoor
set_option maxRecDepth 100000
open Go.RowKit
set_option linter.unusedSimpArgs false
set_option linter.unusedVariables false

/-- How many bytes of its block a hash holds, in a world. -/
def heldOf (w : World) (b : Nat) : Nat := match w.cell? ⟨b, 72, none⟩ with | some (.int _ h) => h.toNat | _ => 0
theorem heldOf_eq {w : World} {b h : Nat} (hc : w.cell? ⟨b, 72, none⟩ = some (.int .i64 (h : Int))) : heldOf w b = h := by rw [heldOf, hc]; rfl
/-- One byte is written, as a literal row. -/
theorem Write_lit (msg : List UInt8) (x : UInt8) (s : S8) (blk : List UInt8) (held b : Nat) (w0 w : World) (F : Nat → Prop) (L : List Own) (put : List Value → List Own) (H : SH F w0 w L) [hbb : HasB L b 222 (hashC s blk held msg.length) put] (hi : HashIs msg s blk held) (hl : msg.length + 1 ≤ 4611686018427387904) :
    Calls Tryd.prog 118 #[.pointer (some ⟨b, 0, none⟩), .slice (some ⟨w.heap.size, 0, none⟩) 1 1] (w.alloc (.cells #[.int .u8 (x.toNat : Int)] 5)) fun e w' => ∃ s' blk' held', e = .returned (.tuple #[]) ∧ HashIs (msg ++ [x]) s' blk' held' ∧ SH F w0 w' (put (hashC s' blk' held' (msg ++ [x]).length)) := by
  have H1 := H.pushRow (alloc_belowAt w _) (OB.lit w w.heap.size [x] #[.int .u8 (x.toNat : Int)] rfl (Nat.le_refl _) (by simp))
  have hk := H1.kb (g := b)
  refine (Write_any msg [x] s blk held b _ _ (H1.hold.va (b := b)) hi hk (by simpa using hl)).mono fun e w' ⟨s', blk', held', he, hh, hs⟩ => ⟨s', blk', held', he, hh, ?_⟩
  exact (SH.viaB H1 hs).tail
def relZ (msg : List UInt8) (w : World) (b2 b3 : Nat) (wr : World) : Prop := ∃ (z : Nat) (s : S8) (blk : List UInt8) (held : Nat), z ≤ (119 - msg.length % 64) % 64 ∧ Hid (HashIs (msg ++ [128] ++ List.replicate z 0) s blk held) ∧ SH Nil w wr [.blk b3 222 (hashC s blk held (msg ++ [128] ++ List.replicate z 0).length), .blk b2 29 (List.replicate 32 (.int .u8 0))]
def relL (msg m2 : List UInt8) (w : World) (b2 b3 : Nat) (v5 : Value) (wr : World) : Prop := ∃ (k : Nat) (s : S8) (blk : List UInt8) (held : Nat), v5 = .int .i64 (56 - 8 * (k : Int)) ∧ k ≤ 8 ∧ Hid (HashIs (m2 ++ (be8 (msg.length * 8)).take k) s blk held) ∧ SH Nil w wr [.blk b3 222 (hashC s blk held (m2 ++ (be8 (msg.length * 8)).take k).length), .blk b2 29 (List.replicate 32 (.int .u8 0))]
def outC (s : S8) (i : Nat) : List Value := ((outB s).take i ++ List.replicate (32 - i) 0).map cb
def relO2 (s : S8) (blk : List UInt8) (held long : Nat) (w : World) (b2 b3 b6 : Nat) (v36 : Value) (wr : World) : Prop := ∃ i : Nat, v36 = .int .i64 (i : Int) ∧ i ≤ 32 ∧ SH Nil w wr [.blk b6 29 (outC s i), .blk b3 222 (hashC s blk held long), .blk b2 29 (List.replicate 32 (.int .u8 0))]
theorem be8_len (n : Nat) : (be8 n).length = 8 := by simp [be8]
theorem be8_take (n k : Nat) (h : k < 8) : (be8 n).take (k + 1) = (be8 n).take k ++ [UInt8.ofNat (n / 256 ^ (7 - k))] := by
  rw [List.take_add_one, be8, List.getElem?_map, List.getElem?_range h]; rfl
theorem outB_len (s : S8) : (outB s).length = 32 := by simp [outB]
theorem outC_len (s : S8) (i : Nat) (h : i ≤ 32) : (outC s i).length = 32 := by
  rw [outC, List.length_map, List.length_append, List.length_take, outB_len, List.length_replicate]; omega
theorem outC_zero (s : S8) : outC s 0 = List.replicate 32 (.int .u8 0) := by simp [outC, cb]
theorem outC_full (s : S8) : outC s 32 = (outB s).map cb := by
  rw [outC, List.take_of_length_le (by rw [outB_len]; omega), Nat.sub_self, List.replicate_zero, List.append_nil]
theorem outB_get (s : S8) (i : Nat) (h : i < 32) : (outB s)[i]? = some (UInt8.ofNat ((s.list.getD (i / 4) 0).toNat / 256 ^ (3 - i % 4))) := by
  rw [outB, List.getElem?_map, List.getElem?_range h]; rfl
theorem outC_step (s : S8) (i : Nat) (h : i < 32) : (outC s i).set i (cb (UInt8.ofNat ((s.list.getD (i / 4) 0).toNat / 256 ^ (3 - i % 4)))) = outC s (i + 1) := by
  have ht : ((outB s).take i).length = i := by rw [List.length_take, outB_len]; omega
  rw [outC, outC, List.take_add_one, outB_get s i h, List.map_append, List.set_append_right _ _ (by rw [List.length_map, ht]; omega), List.length_map, ht, Nat.sub_self,
    show 32 - i = (32 - (i + 1)) + 1 by omega, List.replicate_succ, List.map_cons, List.set_cons_zero]
  simp
theorem hashC_word (s : S8) (blk : List UInt8) (held long p : Nat) (h : p < 8) : (hashC s blk held long)[p]? = some (vw (s.list.getD p 0)) := by
  rw [hashC, List.getElem?_append_left (by rw [S8.len]; exact h)]
  rcases p with _ | _ | _ | _ | _ | _ | _ | _ | p
  all_goals first | rfl | omega
theorem pow8 (k : Nat) : 2 ^ (8 * k) = 256 ^ k := by rw [Nat.pow_mul]
set_option maxHeartbeats 3200000 in
theorem HSum_any (msg : List UInt8) (s : S8) (blk : List UInt8) (held b : Nat) (w : World) (hv : VA w b 222 (hashC s blk held msg.length)) (hi : HashIs msg s blk held) (hl : msg.length ≤ 1000000000000) :
    Calls Tryd.prog 119 #[.pointer (some ⟨b, 0, none⟩)] w fun e w' => e = .returned (.agg ((shaL msg).map cb).toArray) ∧ Below w.heap.size w w' := by
  have H := SH.start Nil w
  have RO := HOLD.one hv
  have h74 := hashC_len s blk hi.bl held msg.length
  have hlong := hashC_long s blk hi.bl held msg.length
  have hmul : IntKind.u64.wrap ((msg.length : Int) * 8) = ((msg.length * 8 : Nat) : Int) := by rw [IntKind.wrap_u64]; omega
  have hone : ((hashC s blk held msg.length).all fun u => u.oneCell') = true := by
    rw [hashC, List.all_append, one_w, List.all_append, one_all]; rfl
  have c73 := (hv.cell 73).trans hlong
  have H74 := Lib.hid h74
  have HONE := Lib.hid hone
  have HC73 := Lib.hid c73
  have HI := Lib.hid hi
  obtain ⟨mz, hmz⟩ : ∃ mz, mz = msg.length * 8 := ⟨_, rfl⟩
  rw [← hmz] at hmul
  have HMZ := Lib.hid hmz
  clear hmz
  clear h74 hlong hone c73 hi hv
  go_enter Tryd.func119, Tryd.ntmps119
  go_wp2_with (first
    | ((with_reducible refine gDst 13 ?_); refine aLoadR RO H _ rfl rfl (part_all H74.out) H74.out rfl ?_)
    | ((with_reducible refine gDst 17 ?_); refine aLoadC _ rfl rfl (cell_below H.below HC73.out) rfl ?_)
    | ((with_reducible refine gSto (.tmp 3) (.tmp 13) ?_); refine aStore H _ _ rfl rfl rfl ⟨by rfl, H74.out⟩ HONE.out rfl ?_; clear H; intro w' H; (try dsimp only at H))
    | ((with_reducible refine gDst 2 ?_); refine aAlloc H rfl rfl ?_; clear H; intro b2 w2 H)
    | ((with_reducible refine gDst 3 ?_); refine aAlloc H rfl rfl ?_; clear H; intro b3 w3 H)
    | ((with_reducible refine gDst 6 ?_); refine aAlloc H rfl rfl ?_; clear H; intro b6 w6 H)
    | ((with_reducible refine gLoad ?_); first | (refine aLoad1 H _ rfl rfl (by first | exact (rfl : _ = some (Value.int _ _)) | exact (rfl : _ = some (Value.slice _ _ _)) | exact (rfl : _ = some (Value.bool _)) | exact (rfl : _ = some (Value.string _)) | exact (rfl : _ = some (Value.pointer _)) | rfl | (simp [List.getElem?_append]; done)) rfl ?_) | (refine aLoadC _ rfl rfl (by assumption) rfl ?_) | (refine aLoad H _ rfl rfl (by first | exact part_all (by first | rfl | simp []) | (simp only [List.drop_succ_cons, List.drop_zero, List.take_succ_cons, List.take_zero]; rfl) | (simp [List.drop_append, List.take_append]; rfl)) (by first | rfl | simp []) rfl ?_))
    | ((with_reducible refine gBuild ?_); refine aZero rfl rfl ?_)
    | ((with_reducible refine gStore ?_); (first | (refine aCell H _ _ rfl rfl (by first | exact (rfl : _ = Value.int _ _) | exact (rfl : _ = Value.bool _) | exact (rfl : _ = Value.slice _ _ _) | exact (rfl : _ = Value.string _) | exact (rfl : _ = Value.pointer _) | exact (rfl : _ = Value.func _ _ _) | rfl) (by rfl) (by rfl) (by first | exact of_decide_eq_true rfl | (simp []; done) | (simp []; omega)) (by first | (simp only [List.set_cons_zero, List.set_cons_succ]; rfl) | (simp [List.set_append]; rfl)) rfl ?_) | (refine aStore H _ _ rfl rfl rfl (by (first | exact ⟨rfl, rfl⟩ | exact ⟨by decide, rfl⟩ | (simp []; done) | (constructor <;> simp [] <;> omega))) (by first | rfl | simp [List.all_append, one_all]) rfl ?_) | (refine aLay H _ _ rfl rfl rfl (by (first | exact ⟨rfl, rfl⟩ | exact ⟨by decide, rfl⟩ | (simp []; done) | (constructor <;> simp [] <;> omega))) (by first | rfl | simp [List.all_append, one_all]) (by simp only [lay, List.take_succ_cons, List.take_zero, List.drop_succ_cons, List.drop_zero, List.nil_append, List.cons_append, List.length_cons, List.length_nil, Nat.zero_add, Nat.reduceAdd]; rfl) rfl ?_)); clear H; intro w' H; try dsimp only at H)
    | (go_at_call 118; refine (Write_lit msg 128 s blk held b3 w _ Nil _ _ H HI.out (by omega)).mono ?_; rintro e w' ⟨s1, bk1, hd1, rfl, hh1, H1⟩; (try dsimp only at H1); clear H; have H := H1; clear H1))
  go_loopw [22] (fun _ wr => relZ msg w b2 b3 wr) (fun _ wr => (120 - heldOf wr b3) % 64)
  case atStart => exact ⟨0, s1, bk1, hd1, Nat.zero_le _, by rw [List.replicate_zero, List.append_nil]; exact hh1, by rw [List.replicate_zero, List.append_nil]; exact H⟩
  case round =>
    obtain ⟨z, q, bk, hd, hz, HH, HS⟩ := hrel
    clear H
    have H := HS
    clear HS
    have hbl := HH.out.bl
    have hdm := HH.out.hd
    have hml : (msg ++ [128] ++ List.replicate z 0).length = msg.length + 1 + z := by simp; omega
    rw [hml] at hdm
    have c72 := ((H.hold.va (b := b3)).cell 72).trans (hashC_held q bk hbl hd _)
    have hho := heldOf_eq c72
    have hdi : (hd : Int) < 64 := by omega
    by_cases h56 : hd = 56
    · have hne : ((hd : Int) != 56) = false := by simp; omega
      have hne1 : ((hd : Int) == 56) = true := beq_iff_eq.mpr (by omega)
      have hz2 : z = (119 - msg.length % 64) % 64 := by omega
      obtain ⟨m2, hm2⟩ : ∃ m2, m2 = msg ++ [128] ++ List.replicate z 0 := ⟨_, rfl⟩
      rw [← hm2] at H HH hml
      have hm2' : m2 ++ be8 (msg.length * 8) = padL msg := by rw [hm2, hz2, padL]
      have HP := Lib.hid hm2'
      have HM2 := Lib.hid hml
      clear hm2 hm2' hz2 hho hdm hml
      go_wp2_with (first
        | ((with_reducible refine gDst 22 ?_); refine aLoadC _ rfl rfl c72 rfl ?_))
      go_loopw [5] (fun v5 wr => relL msg m2 w b2 b3 v5 wr) (fun v _ => ((intOf v) + 8).toNat)
      case atStart => exact ⟨0, q, bk, hd, rfl, by omega, by rw [List.take_zero, List.append_nil]; exact HH, by rw [List.take_zero, List.append_nil]; exact H⟩
      case round =>
        obtain ⟨k, q2, bk2, hd2, rfl, hk, HH2, HS⟩ := hrel
        clear H HH c72
        have H := HS
        clear HS
        by_cases hk8 : k < 8
        · have htk := be8_take (msg.length * 8) k hk8
          have hj : (56 : Int) - 8 * (k : Int) = ((56 - 8 * k : Nat) : Int) := by omega
          have hje : 56 - 8 * k = 8 * (7 - k) := by omega
          have hr : (mz : Int) / 2 ^ (56 - 8 * k) = ((msg.length * 8 / 256 ^ (7 - k) : Nat) : Int) := by rw [HMZ.out, hje, ← pow8]; push_cast; rfl
          generalize hjj : 56 - 8 * k = j at *
          have hx : IntKind.u8.wrap ((msg.length * 8 / 256 ^ (7 - k) : Nat) : Int) = ((UInt8.ofNat (msg.length * 8 / 256 ^ (7 - k))).toNat : Int) := by rw [IntKind.wrap_u8, UInt8.toNat_ofNat']; omega
          generalize msg.length * 8 / 256 ^ (7 - k) = q at *
          generalize UInt8.ofNat q = x at *
          have hxq : (q : Int) % 256 = (x.toNat : Int) := by rw [← hx, IntKind.wrap_u8]
          have hle : (j : Int) ≤ 56 := by omega
          have hj0 : ((j : Int) >= 0) := by omega
          have HTK := Lib.hid htk
          have HJJ := Lib.hid hjj
          have hmt : (m2 ++ (be8 (msg.length * 8)).take k).length + 1 ≤ 4611686018427387904 := by rw [List.length_append, List.length_take, be8_len, HM2.out]; omega
          have HMT := Lib.hid hmt
          clear htk hje hjj hmt
          have happ : m2 ++ (be8 (msg.length * 8)).take k ++ [x] = m2 ++ (be8 (msg.length * 8)).take (k + 1) := by rw [HTK.out, List.append_assoc]
          have HAPP := Lib.hid happ
          clear happ
          generalize m2 ++ (be8 (msg.length * 8)).take k = m3 at *
          rw [hj]
          go_wp2_with (first
            | (go_at_call 118; refine (Write_lit m3 x q2 bk2 hd2 b3 w _ Nil _ _ H HH2.out HMT.out).mono ?_; rintro e w' ⟨s2, bk3, hd3, rfl, hh3, H1⟩; (try dsimp only at H1); clear H; have H := H1; clear H1))
          rw [HAPP.out] at hh3 H
          go_roundw
          case rel => first | exact ⟨k + 1, s2, bk3, hd3, by have := HJJ.out; go_num, by omega, hh3, H⟩ | exact ⟨_, ⟨k + 1, s2, bk3, hd3, by have := HJJ.out; go_num, by omega, hh3, H⟩, rfl⟩ | exact ⟨_, _, ⟨k + 1, s2, bk3, hd3, by have := HJJ.out; go_num, by omega, hh3, H⟩, rfl, rfl⟩ | exact ⟨_, _, _, ⟨k + 1, s2, bk3, hd3, by have := HJJ.out; go_num, by omega, hh3, H⟩, rfl, rfl, rfl⟩ | exact ⟨_, _, _, _, ⟨k + 1, s2, bk3, hd3, by have := HJJ.out; go_num, by omega, hh3, H⟩, rfl, rfl, rfl, rfl⟩ | exact ⟨_, _, _, _, _, ⟨k + 1, s2, bk3, hd3, by have := HJJ.out; go_num, by omega, hh3, H⟩, rfl, rfl, rfl, rfl, rfl⟩ | ((repeat (apply Exists.intro)); exact ⟨⟨k + 1, s2, bk3, hd3, by have := HJJ.out; go_num, by omega, hh3, H⟩, rfl⟩)
          case measure => simp [intOf] <;> omega
        · obtain rfl : k = 8 := by omega
          have hfull : m2 ++ (be8 (msg.length * 8)).take 8 = padL msg := by rw [List.take_of_length_le (by rw [be8_len]; omega)]; exact HP.out
          rw [hfull] at H HH2
          have hst := HH2.out.st
          have hbl2 := HH2.out.bl
          have hsha : shaL msg = outB q2 := by rw [shaL, ← hst]
          have HSHA := Lib.hid hsha
          clear hst hsha hfull
          have HBL := Lib.hid hbl2
          clear hbl2
          go_wp2_with (first
            | ((with_reducible refine gDst 2 ?_); refine aAlloc H rfl rfl ?_; clear H; intro b2 w2 H)
            | ((with_reducible refine gDst 3 ?_); refine aAlloc H rfl rfl ?_; clear H; intro b3 w3 H)
            | ((with_reducible refine gDst 6 ?_); refine aAlloc H rfl rfl ?_; clear H; intro b6 w6 H)
            | ((with_reducible refine gLoad ?_); first | (refine aLoad1 H _ rfl rfl (by first | exact (rfl : _ = some (Value.int _ _)) | exact (rfl : _ = some (Value.slice _ _ _)) | exact (rfl : _ = some (Value.bool _)) | exact (rfl : _ = some (Value.string _)) | exact (rfl : _ = some (Value.pointer _)) | rfl | (simp [List.getElem?_append]; done)) rfl ?_) | (refine aLoadC _ rfl rfl (by assumption) rfl ?_) | (refine aLoad H _ rfl rfl (by first | exact part_all (by first | rfl | simp []) | (simp only [List.drop_succ_cons, List.drop_zero, List.take_succ_cons, List.take_zero]; rfl) | (simp [List.drop_append, List.take_append]; rfl)) (by first | rfl | simp []) rfl ?_))
            | ((with_reducible refine gBuild ?_); refine aZero rfl rfl ?_)
            | ((with_reducible refine gStore ?_); (first | (refine aCell H _ _ rfl rfl (by first | exact (rfl : _ = Value.int _ _) | exact (rfl : _ = Value.bool _) | exact (rfl : _ = Value.slice _ _ _) | exact (rfl : _ = Value.string _) | exact (rfl : _ = Value.pointer _) | exact (rfl : _ = Value.func _ _ _) | rfl) (by rfl) (by rfl) (by first | exact of_decide_eq_true rfl | (simp []; done) | (simp []; omega)) (by first | (simp only [List.set_cons_zero, List.set_cons_succ]; rfl) | (simp [List.set_append]; rfl)) rfl ?_) | (refine aStore H _ _ rfl rfl rfl (by (first | exact ⟨rfl, rfl⟩ | exact ⟨by decide, rfl⟩ | (simp []; done) | (constructor <;> simp [] <;> omega))) (by first | rfl | simp [List.all_append, one_all]) rfl ?_) | (refine aLay H _ _ rfl rfl rfl (by (first | exact ⟨rfl, rfl⟩ | exact ⟨by decide, rfl⟩ | (simp []; done) | (constructor <;> simp [] <;> omega))) (by first | rfl | simp [List.all_append, one_all]) (by simp only [lay, List.take_succ_cons, List.take_zero, List.drop_succ_cons, List.drop_zero, List.nil_append, List.cons_append, List.length_cons, List.length_nil, Nat.zero_add, Nat.reduceAdd]; rfl) rfl ?_)); clear H; intro w' H; try dsimp only at H))
          go_loopw [36] (fun v36 wr => relO2 q2 bk2 hd2 (padL msg).length w b2 b3 b6 v36 wr) (fun v _ => 32 - (intOf v).toNat)
          case atStart => exact ⟨0, rfl, by omega, by rw [outC_zero]; exact H⟩
          case round =>
            obtain ⟨i, rfl, hi, HS⟩ := hrel
            clear H
            have H := HS
            clear HS
            by_cases hi32 : i < 32
            · have hii : (i : Int) < 32 := by omega
              have hw := ((H.hold.va (b := b3)).cell (i / 4)).trans (hashC_word q2 bk2 hd2 _ (i / 4) (by omega))
              have hstep := outC_step q2 i hi32
              have hlen := outC_len q2 i hi
              have hq : (i : Int).tdiv 4 = ((i / 4 : Nat) : Int) := by rw [Int.tdiv_eq_ediv_of_nonneg (by omega)]; push_cast; rfl
              have hm : (i : Int).tmod 4 = ((i % 4 : Nat) : Int) := by rw [Int.tmod_eq_emod_of_nonneg (by omega)]; push_cast; rfl
              have hql : i / 4 < 8 := by omega
              have hrl : i % 4 < 4 := by omega
              have hrj : (24 : Int) - 8 * ((i % 4 : Nat) : Int) = ((24 - 8 * (i % 4) : Nat) : Int) := by omega
              have hje : 24 - 8 * (i % 4) = 8 * (3 - i % 4) := by omega
              have hr : ((q2.list.getD (i / 4) 0).toNat : Int) / 2 ^ (24 - 8 * (i % 4)) = (((q2.list.getD (i / 4) 0).toNat / 256 ^ (3 - i % 4) : Nat) : Int) := by rw [hje, ← pow8]; push_cast; rfl
              have hjl : 24 - 8 * (i % 4) ≤ 24 := by omega
              generalize 24 - 8 * (i % 4) = j at *
              have hx : IntKind.u8.wrap (((q2.list.getD (i / 4) 0).toNat / 256 ^ (3 - i % 4) : Nat) : Int) = ((UInt8.ofNat ((q2.list.getD (i / 4) 0).toNat / 256 ^ (3 - i % 4))).toNat : Int) := by rw [IntKind.wrap_u8, UInt8.toNat_ofNat']; omega
              generalize (q2.list.getD (i / 4) 0).toNat / 256 ^ (3 - i % 4) = q at *
              generalize UInt8.ofNat q = x at *
              have hxq : (q : Int) % 256 = (x.toNat : Int) := by rw [← hx, IntKind.wrap_u8]
              generalize q2.list.getD (i / 4) 0 = y at *
              generalize i / 4 = p at *
              generalize i % 4 = r at *
              have hjb : (j : Int) ≤ 24 := by omega
              have hpb : (p : Int) < 8 := by omega
              have hrb : (r : Int) < 4 := by omega
              have hpw : IntKind.i64.wrap (p : Int) = (p : Int) := i64w _ (by omega) (by omega)
              have hrw : IntKind.i64.wrap (8 * (r : Int)) = 8 * (r : Int) := i64w _ (by omega) (by omega)
              have HSTEP := Lib.hid hstep
              have HLEN := Lib.hid hlen
              clear hstep hlen hje
              go_wp2_with (first
                | ((with_reducible refine gDst 44 ?_); refine aLoadC _ rfl rfl hw rfl ?_)
                | ((with_reducible refine gSto (.tmp 51) (.tmp 50) ?_); refine aCell (v := cb x) (new := outC q2 (i + 1)) H _ _ rfl rfl rfl rfl rfl (by rw [HLEN.out]; omega) HSTEP.out rfl ?_; clear H hw; intro w' H; (try dsimp only at H)))
              go_roundw
              case rel => first | exact ⟨i + 1, by go_num, by omega, H⟩ | exact ⟨_, ⟨i + 1, by go_num, by omega, H⟩, rfl⟩ | exact ⟨_, _, ⟨i + 1, by go_num, by omega, H⟩, rfl, rfl⟩ | exact ⟨_, _, _, ⟨i + 1, by go_num, by omega, H⟩, rfl, rfl, rfl⟩ | exact ⟨_, _, _, _, ⟨i + 1, by go_num, by omega, H⟩, rfl, rfl, rfl, rfl⟩ | exact ⟨_, _, _, _, _, ⟨i + 1, by go_num, by omega, H⟩, rfl, rfl, rfl, rfl, rfl⟩ | ((repeat (apply Exists.intro)); exact ⟨⟨i + 1, by go_num, by omega, H⟩, rfl⟩)
              case measure => simp [intOf] <;> omega
            · obtain rfl : i = 32 := by omega
              rw [outC_full] at H
              have hl32 : ((outB q2).map cb).length = 32 := by rw [List.length_map, outB_len]
              go_wp2_with (first
                | ((with_reducible refine gDst 53 ?_); refine aLoad H _ rfl rfl (part_all hl32) hl32 rfl ?_)
                | ((with_reducible refine gSto (.tmp 2) (.tmp 53) ?_); refine aStore H _ _ rfl rfl rfl ⟨by rfl, hl32⟩ (one_all _) rfl ?_; clear H; intro w' H; (try dsimp only at H)))
              refine bodyPost_ret (res_cell rfl _ H.hold rfl (by exact hl32)) rfl ?_
              exact ⟨by rw [HSHA.out], H.below⟩
    · have hne : ((hd : Int) != 56) = true := by simp; omega
      have hne1 : ((hd : Int) == 56) = false := beq_eq_false_iff_ne.mpr (by omega)
      have hrep : msg ++ [128] ++ List.replicate z 0 ++ [0] = msg ++ [128] ++ List.replicate (z + 1) 0 := by rw [List.append_assoc _ _ [0], List.replicate_succ']
      have hbig : (msg ++ [128] ++ List.replicate z 0).length + 1 ≤ 4611686018427387904 := by rw [hml]; omega
      have HML := Lib.hid hml
      have HBIG := Lib.hid hbig
      have HREP := Lib.hid hrep
      have HHO := Lib.hid hho
      have HDM := Lib.hid hdm
      clear hml hbig hrep hho hdm
      generalize msg ++ [128] ++ List.replicate z 0 = m1 at *
      go_wp2_with (first
        | ((with_reducible refine gDst 22 ?_); refine aLoadC _ rfl rfl c72 rfl ?_)
        | (go_at_call 118; refine (Write_lit m1 0 q bk hd b3 w _ Nil _ _ H HH.out HBIG.out).mono ?_; rintro e w' ⟨s1, bk1, hd1, rfl, hh1, H1⟩; (try dsimp only at H1); clear H; have H := H1; clear H1))
      have hdn := hh1.hd
      have hdn2 : hd1 = (hd + 1) % 64 := by rw [hdn, List.length_append, HML.out, HDM.out]; simp
      have c72' := ((H.hold.va (b := b3)).cell 72).trans (hashC_held s1 bk1 hh1.bl hd1 _)
      have hho2 := heldOf_eq c72'
      rw [HREP.out] at hh1 H
      go_roundw
      case rel => first | exact ⟨z + 1, s1, bk1, hd1, by have := HDM.out; omega, hh1, H⟩ | exact ⟨_, ⟨z + 1, s1, bk1, hd1, by have := HDM.out; omega, hh1, H⟩, rfl⟩ | exact ⟨_, _, ⟨z + 1, s1, bk1, hd1, by have := HDM.out; omega, hh1, H⟩, rfl, rfl⟩ | exact ⟨_, _, _, ⟨z + 1, s1, bk1, hd1, by have := HDM.out; omega, hh1, H⟩, rfl, rfl, rfl⟩ | exact ⟨_, _, _, _, ⟨z + 1, s1, bk1, hd1, by have := HDM.out; omega, hh1, H⟩, rfl, rfl, rfl, rfl⟩ | exact ⟨_, _, _, _, _, ⟨z + 1, s1, bk1, hd1, by have := HDM.out; omega, hh1, H⟩, rfl, rfl, rfl, rfl, rfl⟩ | ((repeat (apply Exists.intro)); exact ⟨⟨z + 1, s1, bk1, hd1, by have := HDM.out; omega, hh1, H⟩, rfl⟩)
      case measure => rw [hho2, HHO.out]; omega
end Go.Proofs.YticfcelbnkiopaaDoor

namespace Go.Proofs.YticfcelbnkiopaaDoor
set_option maxRecDepth 100000
open Go.RowKit
set_option linter.unusedSimpArgs false
set_option linter.unusedVariables false

theorem svCell {w : World} {ad : Addr} {n c : Nat} {ss : List SVV} (h : RR SVT w (.slice (some ad) n c) ss) (i : Nat) (hi : i < ss.length) : w.cell? (ad.add i) = some (ss.getD i sv0).val := by
  obtain ⟨ad', he, h1⟩ := h.at_ i hi
  injection he with he
  subst he
  have := h1 0 _ rfl
  rw [show i * SVT.sz + 0 = i from Nat.mul_one i] at this
  rw [List.getD_eq_getElem?_getD, List.getElem?_eq_getElem hi]
  exact this
theorem flat_take {α : Type} (N : List (List α)) (i : Nat) (h : i < N.length) : (N.take (i + 1)).flatten = (N.take i).flatten ++ N.getD i [] := by
  rw [List.take_add_one, List.getElem?_eq_getElem h, List.flatten_append, List.getD_eq_getElem?_getD, List.getElem?_eq_getElem h]
  simp
theorem flat_le {α : Type} (N : List (List α)) (i : Nat) : (N.take i).flatten.length ≤ N.flatten.length := by
  have h := congrArg (fun l => l.flatten.length) (List.take_append_drop i N)
  simp only [List.flatten_append, List.length_append] at h
  omega
def relAll (N : List (List UInt8)) (w : World) (b2 b6 : Nat) (v9 : Value) (wr : World) : Prop := ∃ (i : Nat) (s : S8) (blk : List UInt8) (held : Nat), v9 = .int .i64 (i : Int) ∧ i ≤ N.length ∧ Hid (HashIs (N.take i).flatten s blk held) ∧ SH Nil w wr [.blk b6 222 (hashC s blk held (N.take i).flatten.length), .blk b2 29 (List.replicate 32 (.int .u8 0))]
set_option maxHeartbeats 3200000 in
theorem All_any (v : Value) (ss : List SVV) (N : List (List UInt8)) (w : World) (hv : RR SVT w v ss) (hL : LB w ss N) (hl : N.flatten.length ≤ 1000000000000) :
    Calls Tryd.prog 75 #[v] w fun e w' => e = .returned (.agg ((shaL N.flatten).map cb).toArray) ∧ Below w.heap.size w w' := by
  have H := SH.start Nil w
  obtain ⟨A, c, rfl, -⟩ := hv.len
  have hlen := hL.1
  rw [hlen] at hv
  rw [hlen]
  have HL := Lib.hid hL
  have HV := Lib.hid hv
  have HLEN := Lib.hid hlen
  clear hL hv hlen
  go_enter Tryd.func75, Tryd.ntmps75
  go_wp2_with (first
    | (go_at_call 117; refine (New_any _).mono ?_; rintro e w' ⟨b6, rfl, H1⟩; replace H1 := H.join H1; (try dsimp only [List.cons_append, List.nil_append] at H1); clear H; have H := H1; clear H1)
    | ((with_reducible refine gDst 2 ?_); refine aAlloc H rfl rfl ?_; clear H; intro b2 w2 H)
    | ((with_reducible refine gLoad ?_); first | (refine aLoad1 H _ rfl rfl (by first | exact (rfl : _ = some (Value.int _ _)) | exact (rfl : _ = some (Value.slice _ _ _)) | exact (rfl : _ = some (Value.bool _)) | exact (rfl : _ = some (Value.string _)) | exact (rfl : _ = some (Value.pointer _)) | rfl | (simp [List.getElem?_append]; done)) rfl ?_) | (refine aLoadC _ rfl rfl (by assumption) rfl ?_))
    | ((with_reducible refine gStore ?_); (first | (refine aStore H _ _ rfl rfl rfl (by (first | exact ⟨rfl, rfl⟩ | exact ⟨by decide, rfl⟩ | (simp []; done) | (constructor <;> simp [] <;> omega))) (by first | rfl | simp [List.all_append, one_all]) rfl ?_) | (refine aLay H _ _ rfl rfl rfl (by (first | exact ⟨rfl, rfl⟩ | exact ⟨by decide, rfl⟩ | (simp []; done) | (constructor <;> simp [] <;> omega))) (by first | rfl | simp [List.all_append, one_all]) (by simp only [lay, List.take_succ_cons, List.take_zero, List.drop_succ_cons, List.drop_zero, List.nil_append, List.cons_append, List.length_cons, List.length_nil, Nat.zero_add, Nat.reduceAdd]; rfl) rfl ?_)); clear H; intro w' H; try dsimp only at H))
  go_loopw [9] (fun v9 wr => relAll N w b2 b6 v9 wr) (fun v _ => N.length - (intOf v).toNat)
  case atStart => exact ⟨0, S8.start, _, 0, rfl, Nat.zero_le _, HashIs.start, H⟩
  case round =>
    obtain ⟨i, q, bk, hd, rfl, hi, HH, HS⟩ := hrel
    clear H
    have H := HS
    clear HS
    by_cases h : i < N.length
    · have hii : (i : Int) < (N.length : Int) := by omega
      have hb6 : w.heap.size ≤ b6 := (H.foot _ (List.mem_cons_self ..) b6 rfl).resolve_left id
      have hbw := H.below
      have hkb : KBw b6 wr (ss.getD i sv0).val (N.getD i []) := (KBw.old (HL.out.2 i h) hb6).below hbw
      have hil : i < ss.length := by rw [HLEN.out]; exact h
      obtain ⟨ad, rfl, -⟩ := HV.out.at_ i hil
      have hc := cell_below hbw (svCell HV.out i hil)
      have hfl := flat_take N i h
      have hfb := flat_le N (i + 1)
      rw [hfl, List.length_append] at hfb
      have HFL := Lib.hid hfl
      have HKB := Lib.hid hkb
      have hsz : (N.take i).flatten.length + (N.getD i []).length ≤ 4611686018427387904 := by omega
      have HSZ := Lib.hid hsz
      have HII := Lib.hid h
      have hNl : (N.length : Int) ≤ 9223372036854775807 := by have := HV.out.len; obtain ⟨_, _, _, h1⟩ := HV.out; have := h1.2.1; rw [HLEN.out] at this; omega
      clear hfl hfb hkb hsz
      generalize (N.take i).flatten = m1 at *
      generalize N.getD i [] = x at *
      generalize (ss.getD i sv0).val = vx at *
      go_wp2_with (first
        | ((with_reducible refine gDst 12 ?_); refine aLoadC _ rfl rfl hc rfl ?_)
        | (go_at_call 118; refine (Write_any m1 x q bk hd b6 vx _ (H.hold.va (b := b6)) HH.out HKB.out HSZ.out).mono ?_; rintro e w' ⟨s1, bk1, hd1, rfl, hh1, H1⟩; replace H1 := H.viaB H1; (try dsimp only at H1); clear H hc; have H := H1; clear H1))
      rw [← HFL.out] at hh1 H
      go_roundw
      case rel => first | exact ⟨i + 1, s1, bk1, hd1, by go_num, by omega, hh1, H⟩ | exact ⟨_, ⟨i + 1, s1, bk1, hd1, by go_num, by omega, hh1, H⟩, rfl⟩ | exact ⟨_, _, ⟨i + 1, s1, bk1, hd1, by go_num, by omega, hh1, H⟩, rfl, rfl⟩ | exact ⟨_, _, _, ⟨i + 1, s1, bk1, hd1, by go_num, by omega, hh1, H⟩, rfl, rfl, rfl⟩ | exact ⟨_, _, _, _, ⟨i + 1, s1, bk1, hd1, by go_num, by omega, hh1, H⟩, rfl, rfl, rfl, rfl⟩ | exact ⟨_, _, _, _, _, ⟨i + 1, s1, bk1, hd1, by go_num, by omega, hh1, H⟩, rfl, rfl, rfl, rfl, rfl⟩ | ((repeat (apply Exists.intro)); exact ⟨⟨i + 1, s1, bk1, hd1, by go_num, by omega, hh1, H⟩, rfl⟩)
      case measure => simp [intOf] <;> omega
    · obtain rfl : i = N.length := by omega
      rw [List.take_length] at H HH
      have HLB := Lib.hid hl
      go_wp2_with (first
        | (go_at_call 119; refine (HSum_any N.flatten q bk hd b6 _ (H.hold.va (b := b6)) HH.out hl).mono ?_; rintro e w' ⟨rfl, hb⟩; replace H := H.step hb)
        | ((with_reducible refine gSto (.tmp 2) (.tmp 18) ?_); refine aStore H _ _ rfl rfl rfl ⟨by rfl, by rw [List.length_map, shaL_len]⟩ (one_all _) rfl ?_; clear H; intro w' H; (try dsimp only at H)))
      have hl32 : ((shaL N.flatten).map cb).length = 32 := by rw [List.length_map, shaL_len]
      refine bodyPost_ret (res_cell rfl _ H.hold rfl (by exact hl32)) rfl ?_
      exact ⟨rfl, H.below⟩
theorem LB.one {w : World} {s : SVV} {x : List UInt8} (h : RB w s.val x) : LB w [s] [x] := ⟨rfl, fun i hi => by
  obtain rfl : i = 0 := by simpa using hi
  exact h⟩
set_option maxHeartbeats 1600000 in
theorem Sum_any (v : Value) (xs : List UInt8) (w : World) (hv : RB w v xs) (hl : xs.length ≤ 1000000000000) :
    Calls Tryd.prog 24 #[v] w fun e w' => e = .returned (.agg ((shaL xs).map cb).toArray) ∧ Below w.heap.size w w' := by
  have H := SH.start Nil w
  obtain ⟨A, c, rfl, -⟩ := hv.len
  have HV := Lib.hid hv
  clear hv
  have hA : ∀ W : World, Below w.heap.size w W → Calls Tryd.prog 75 #[.slice (some ⟨W.heap.size, 0, none⟩) 1 1] (W.alloc (.cells #[.slice A xs.length c] 22)) fun e w' => e = .returned (.agg ((shaL xs).map cb).toArray) ∧ Below (W.alloc (.cells #[.slice A xs.length c] 22)).heap.size (W.alloc (.cells #[.slice A xs.length c] 22)) w' := fun W hb => by
    have h := All_any _ [(A, xs.length, c)] [xs] (W.alloc (.cells #[.slice A xs.length c] 22)) (RR.lit SVT W [(A, xs.length, c)] #[.slice A xs.length c] rfl (by simp)) (LB.one ((HV.out.below hb).below (alloc_belowAt W _))) (by simpa using hl)
    rw [show [xs].flatten = xs by simp] at h
    exact h
  have HA := Lib.hid hA
  clear hA
  go_enter Tryd.func24, Tryd.ntmps24
  go_wp2_with (first
    | (go_at_call 75; refine (HA.out _ H.below).mono ?_; rintro e w' ⟨rfl, hb⟩; replace H := (H.step (alloc_belowAt _ _)).step hb; clear hb)
    | ((with_reducible refine gSto (.tmp 2) (.tmp 5) ?_); refine aStore H _ _ rfl rfl rfl ⟨by rfl, by rw [List.length_map, shaL_len]⟩ (one_all _) rfl ?_; clear H; intro w' H; (try dsimp only at H))
    | ((with_reducible refine gDst 2 ?_); refine aAlloc H rfl rfl ?_; clear H; intro b2 w2 H)
    | ((with_reducible refine gStore ?_); (first | (refine aStore H _ _ rfl rfl rfl (by (first | exact ⟨rfl, rfl⟩ | exact ⟨by decide, rfl⟩ | (simp []; done) | (constructor <;> simp [] <;> omega))) (by first | rfl | simp [List.all_append, one_all]) rfl ?_) | (refine aLay H _ _ rfl rfl rfl (by (first | exact ⟨rfl, rfl⟩ | exact ⟨by decide, rfl⟩ | (simp []; done) | (constructor <;> simp [] <;> omega))) (by first | rfl | simp [List.all_append, one_all]) (by simp only [lay, List.take_succ_cons, List.take_zero, List.drop_succ_cons, List.drop_zero, List.nil_append, List.cons_append, List.length_cons, List.length_nil, Nat.zero_add, Nat.reduceAdd]; rfl) rfl ?_)); clear H; intro w' H; try dsimp only at H))
  have hl32 : ((shaL xs).map cb).length = 32 := by rw [List.length_map, shaL_len]
  refine bodyPost_ret (res_cell rfl _ H.hold rfl (by exact hl32)) rfl ?_
  exact ⟨rfl, H.below⟩
end Go.Proofs.YticfcelbnkiopaaDoor

namespace Go.Proofs.YticfcelbnkiopaaDoor
set_option maxRecDepth 100000
open Go.RowKit
set_option linter.unusedSimpArgs false
set_option linter.unusedVariables false

def lenOf : Value → Nat
  | .slice _ n _ => n
  | _ => 0
def relPad (xs : List UInt8) (w : World) (v3 : Value) (wr : World) : Prop := ∃ (z : Nat) (A : Option Addr) (c n : Nat), v3 = .slice A n c ∧ n = xs.length + 1 + z ∧ z ≤ (119 - xs.length % 64) % 64 ∧ SH Nil w wr [.row B8 (.slice A n c) (xs ++ [128] ++ List.replicate z 0)]
def relPL (xs m2 : List UInt8) (w : World) (v3 v5 : Value) (wr : World) : Prop := ∃ (k : Nat) (A : Option Addr) (c n : Nat), v3 = .slice A n c ∧ v5 = .int .i64 (7 - (k : Int)) ∧ n = m2.length + k ∧ k ≤ 8 ∧ SH Nil w wr [.row B8 (.slice A n c) (m2 ++ (be8 (xs.length * 8)).take k)]
set_option maxHeartbeats 3200000 in
theorem padded_any (v : Value) (xs : List UInt8) (w : World) (hv : RB w v xs) (hl : xs.length ≤ 500000000) :
    Calls Tryd.prog 127 #[v] w fun e w' => ∃ A c, e = .returned (.slice A (padL xs).length c) ∧ OR B8 w' w.heap.size (.slice A (padL xs).length c) (padL xs) ∧ Below w.heap.size w w' := by
  have H := SH.start Nil w
  have RO := HOLD.rdOne hv
  obtain ⟨A0, c0, rfl, -⟩ := hv.len
  have hmul : IntKind.u64.wrap ((xs.length : Int) * 8) = ((xs.length * 8 : Nat) : Int) := by rw [IntKind.wrap_u64]; omega
  have hw0 : IntKind.u64.wrap (xs.length : Int) = (xs.length : Int) := by rw [IntKind.wrap_u64]; omega
  obtain ⟨mz, hmz⟩ : ∃ mz, mz = xs.length * 8 := ⟨_, rfl⟩
  rw [← hmz] at hmul
  have HMZ := Lib.hid hmz
  have hll : xs.length ≤ 1000000000 := by omega
  clear hmz hv
  go_enter Tryd.func127, Tryd.ntmps127
  go_wp2_with (first
    | ((with_reducible refine gDst 8 ?_); go_loud (refine aAppBs H _ _ rfl rfl rfl ((H.old RO).rd (.slice A0 xs.length c0)) ⟨by simp, hll⟩ rfl ?_); clear H; intro v' w' ys1 HY1 H; (try dsimp only at H); obtain ⟨A1, c1, rfl, hc1⟩ := (H.hold.rr v').len)
    | ((with_reducible refine gDst 11 ?_); refine aAppB1 128 H _ _ rfl rfl rfl (by rw [HY1.out, List.nil_append]; exact hll) rfl ?_; clear H; intro v' w' ys2 HY2 H; (try dsimp only at H); obtain ⟨A2, c2, rfl, hc2⟩ := (H.hold.rr v').len)
    | ((with_reducible refine gDst 6 ?_); refine aEmpty sB H rfl rfl ?_; clear H; intro b6 w6 H)
    | (at_builtin; refine aAppB1 _ H _ _ rfl rfl rfl (by first | omega | (have := HCL.out; omega)) rfl ?_; clear H; intro v' w' ys HY H; (try dsimp only at H); obtain ⟨A', c', rfl, hc'⟩ := (H.hold.rr v').len))
  have hy : ys2 = xs ++ [128] ++ List.replicate 0 0 := by rw [HY2.out, HY1.out]; simp
  have hyn : ys2.length = xs.length + 1 + 0 := by rw [hy]; simp
  have H2 : SH Nil w w' [.row B8 (.slice A2 ys2.length c2) (xs ++ [128] ++ List.replicate 0 0)] := by rw [← hy]; exact H
  have HYN := Lib.hid hyn
  clear hy hyn HY2 hc2
  go_loopw [3] (fun v3 wr => relPad xs w v3 wr) (fun v _ => (120 - lenOf v % 64) % 64)
  case atStart => exact ⟨0, _, _, _, rfl, HYN.out, Nat.zero_le _, H2⟩
  case round =>
    obtain ⟨z, A, c, n, rfl, hn, hz, HS⟩ := hrel
    clear H H2
    have H := HS
    clear HS
    have hm : (n : Int).tmod 64 = ((n % 64 : Nat) : Int) := by rw [Int.tmod_eq_emod_of_nonneg (by omega)]; push_cast; rfl
    have hml : (xs ++ [128] ++ List.replicate z (0 : UInt8)).length = n := by simp; omega
    have HML := Lib.hid hml
    have HN := Lib.hid hn
    clear hml
    obtain ⟨r, hr⟩ : ∃ r, r = n % 64 := ⟨_, rfl⟩
    rw [← hr] at hm
    have HR := Lib.hid hr
    by_cases h56 : r = 56
    · have hne : ((r : Int) != 56) = false := by simp; omega
      have hz2 : z = (119 - xs.length % 64) % 64 := by omega
      have hpd : xs ++ [128] ++ List.replicate z (0 : UInt8) ++ be8 (xs.length * 8) = padL xs := by rw [hz2, padL]
      have HP := Lib.hid hpd
      have hnl : n ≤ 600000000 := by omega
      clear hpd hz2 hn hz hr
      generalize xs ++ [128] ++ List.replicate z (0 : UInt8) = m2 at *
      go_wp2
      go_loopw [3, 5] (fun v3 v5 wr => relPL xs m2 w v3 v5 wr) (fun _ v _ => (intOf v + 1).toNat)
      case atStart => exact ⟨0, A, c, n, rfl, rfl, by rw [HML.out]; rfl, by omega, by rw [List.take_zero, List.append_nil]; exact H⟩
      case round =>
        obtain ⟨k, A3, c3, n3, rfl, rfl, hn3, hk, HS⟩ := hrel
        clear H
        have H := HS
        clear HS
        by_cases hk8 : k < 8
        · have htk := be8_take (xs.length * 8) k hk8
          have hj : (7 : Int) - (k : Int) = ((7 - k : Nat) : Int) := by omega
          have hr2 : (mz : Int) / 2 ^ (8 * (7 - k)) = ((xs.length * 8 / 256 ^ (7 - k) : Nat) : Int) := by rw [HMZ.out, ← pow8]; push_cast; rfl
          have hml3 : (m2 ++ (be8 (xs.length * 8)).take k).length = n3 := by rw [List.length_append, List.length_take, be8_len]; omega
          have hnl3 : n3 ≤ 1000000000 := by rw [hn3, HML.out]; omega
          have HTK := Lib.hid htk
          have HML3 := Lib.hid hml3
          have hx : IntKind.u8.wrap ((xs.length * 8 / 256 ^ (7 - k) : Nat) : Int) = ((UInt8.ofNat (xs.length * 8 / 256 ^ (7 - k))).toNat : Int) := by rw [IntKind.wrap_u8, UInt8.toNat_ofNat']; omega
          clear htk hml3
          generalize hjj : 7 - k = j at *
          generalize xs.length * 8 / 256 ^ j = q at *
          generalize UInt8.ofNat q = x at *
          have hxq : (q : Int) % 256 = (x.toNat : Int) := by rw [← hx, IntKind.wrap_u8]
          obtain ⟨j8, hj8⟩ : ∃ j8, j8 = 8 * j := ⟨_, rfl⟩
          rw [← hj8] at hr2
          have h8 : (8 : Int) * (j : Int) = (j8 : Int) := by omega
          have hj8b : (j8 : Int) ≤ 56 := by omega
          have hjb : (j : Int) ≤ 7 := by omega
          have h8w : IntKind.i64.wrap (j8 : Int) = (j8 : Int) := i64w _ (by omega) (by omega)
          have h8u : IntKind.u64.wrap (j8 : Int) = (j8 : Int) := by rw [IntKind.wrap_u64]; omega
          have HJJ := Lib.hid hjj
          have HN3 := Lib.hid hn3
          clear hj8 hjj hn3
          rw [hj]
          go_wp2_with (first
            | ((with_reducible refine gDst 35 ?_); refine aAppB1 x H _ _ rfl rfl rfl (by rw [HML3.out]; exact hnl3) rfl ?_; clear H; intro v' w' ys HY H; (try dsimp only at H); obtain ⟨A', c', rfl, hc'⟩ := (H.hold.rr v').len))
          have hy : ys = m2 ++ (be8 (xs.length * 8)).take (k + 1) := by rw [HY.out, HTK.out, List.append_assoc]
          have hyn : ys.length = m2.length + (k + 1) := by rw [HY.out, List.length_append, HML3.out, HN3.out]; rfl
          have H2 : SH Nil w w' [.row B8 (.slice A' ys.length c') (m2 ++ (be8 (xs.length * 8)).take (k + 1))] := by rw [← hy]; exact H
          have hf : (j : Int) - 1 = 7 - ((k + 1 : Nat) : Int) := by have := HJJ.out; omega
          clear hy
          go_roundw
          case rel => first | exact ⟨k + 1, A', c', ys.length, rfl, by rw [← hf], hyn, by omega, H2⟩ | exact ⟨_, ⟨k + 1, A', c', ys.length, rfl, by rw [← hf], hyn, by omega, H2⟩, rfl⟩ | exact ⟨_, _, ⟨k + 1, A', c', ys.length, rfl, by rw [← hf], hyn, by omega, H2⟩, rfl, rfl⟩ | exact ⟨_, _, _, ⟨k + 1, A', c', ys.length, rfl, by rw [← hf], hyn, by omega, H2⟩, rfl, rfl, rfl⟩ | exact ⟨_, _, _, _, ⟨k + 1, A', c', ys.length, rfl, by rw [← hf], hyn, by omega, H2⟩, rfl, rfl, rfl, rfl⟩ | exact ⟨_, _, _, _, _, ⟨k + 1, A', c', ys.length, rfl, by rw [← hf], hyn, by omega, H2⟩, rfl, rfl, rfl, rfl, rfl⟩ | ((repeat (apply Exists.intro)); exact ⟨⟨k + 1, A', c', ys.length, rfl, by rw [← hf], hyn, by omega, H2⟩, rfl⟩)
          case measure => simp [intOf] <;> omega
        · obtain rfl : k = 8 := by omega
          have hfull : m2 ++ (be8 (xs.length * 8)).take 8 = padL xs := by rw [List.take_of_length_le (by rw [be8_len]; omega)]; exact HP.out
          rw [hfull] at H
          have hlp : n3 = (padL xs).length := by rw [hn3, ← HP.out, List.length_append, be8_len]
          subst hlp
          go_wp2
          go_ret
          exact ⟨A3, c3, rfl, H.ow _, H.below⟩
    · have hne : ((r : Int) != 56) = true := by simp; omega
      have hz1 : z + 1 ≤ (119 - xs.length % 64) % 64 := by omega
      have hnl : n ≤ 1000000000 := by omega
      clear hr hn
      go_wp2_with (first
        | ((with_reducible refine gDst 18 ?_); refine aAppB1 0 H _ _ rfl rfl rfl (by rw [HML.out]; exact hnl) rfl ?_; clear H; intro v' w' ys HY H; (try dsimp only at H); obtain ⟨A', c', rfl, hc'⟩ := (H.hold.rr v').len))
      have hy : ys = xs ++ [128] ++ List.replicate (z + 1) 0 := by rw [HY.out, List.append_assoc _ _ [0], List.replicate_succ']
      have hyn : ys.length = n + 1 := by rw [HY.out, List.length_append, HML.out]; rfl
      have H2 : SH Nil w w' [.row B8 (.slice A' ys.length c') (xs ++ [128] ++ List.replicate (z + 1) 0)] := by rw [← hy]; exact H
      have hyn2 : ys.length = xs.length + 1 + (z + 1) := by have := HN.out; omega
      have hms : (120 - ys.length % 64) % 64 < (120 - n % 64) % 64 := by have := HR.out; omega
      clear hy hyn
      go_roundw
      case rel => first | exact ⟨z + 1, A', c', ys.length, rfl, hyn2, hz1, H2⟩ | exact ⟨_, ⟨z + 1, A', c', ys.length, rfl, hyn2, hz1, H2⟩, rfl⟩ | exact ⟨_, _, ⟨z + 1, A', c', ys.length, rfl, hyn2, hz1, H2⟩, rfl, rfl⟩ | exact ⟨_, _, _, ⟨z + 1, A', c', ys.length, rfl, hyn2, hz1, H2⟩, rfl, rfl, rfl⟩ | exact ⟨_, _, _, _, ⟨z + 1, A', c', ys.length, rfl, hyn2, hz1, H2⟩, rfl, rfl, rfl, rfl⟩ | exact ⟨_, _, _, _, _, ⟨z + 1, A', c', ys.length, rfl, hyn2, hz1, H2⟩, rfl, rfl, rfl, rfl, rfl⟩ | ((repeat (apply Exists.intro)); exact ⟨⟨z + 1, A', c', ys.length, rfl, hyn2, hz1, H2⟩, rfl⟩)
      case measure => exact hms
end Go.Proofs.YticfcelbnkiopaaDoor

namespace Go.Proofs.YticfcelbnkiopaaDoor
set_option maxRecDepth 100000
open Go.RowKit
set_option linter.unusedSimpArgs false
set_option linter.unusedVariables false

def relJ (N : List (List UInt8)) (w : World) (v3 v4 : Value) (wr : World) : Prop := ∃ (i : Nat) (A : Option Addr) (c : Nat), v3 = .slice A (N.take i).flatten.length c ∧ v4 = .int .i64 (i : Int) ∧ i ≤ N.length ∧ SH Nil w wr [.row B8 (.slice A (N.take i).flatten.length c) (N.take i).flatten]
end Go.Proofs.YticfcelbnkiopaaDoor

namespace Go.Proofs.YticfcelbnkiopaaDoor
set_option maxRecDepth 100000
open Go.RowKit
set_option linter.unusedSimpArgs false
set_option linter.unusedVariables false

def lenN (n : Nat) : Nat := if n = 0 then 0 else n.log2 + 1
theorem lenN_div (n k : Nat) (h : 2 ^ k ≤ n) : lenN n = lenN (n / 2 ^ k) + k := by
  have hp : 0 < 2 ^ k := Nat.two_pow_pos k
  have hd : n / 2 ^ k ≠ 0 := by have := Nat.div_pos h hp; omega
  rw [lenN, lenN, if_neg (by omega), if_neg hd]
  have e : n.log2 = (n / 2 ^ k).log2 + k := by
    have h1 := (Nat.log2_eq_iff hd).1 rfl
    refine (Nat.log2_eq_iff (by omega)).2 ⟨?_, ?_⟩
    · rw [Nat.pow_add]; exact (Nat.le_div_iff_mul_le hp).1 h1.1
    · rw [show (n / 2 ^ k).log2 + k + 1 = ((n / 2 ^ k).log2 + 1) + k by omega, Nat.pow_add]; exact (Nat.div_lt_iff_lt_mul hp).1 h1.2
  omega
theorem lenN_le (n k : Nat) (h : n < 2 ^ k) : lenN n ≤ k := by
  rw [lenN]
  split
  · omega
  · have h2 := (Nat.log2_lt (by assumption)).2 h
    omega
theorem tab_of (t : ByteArray) (m : Nat) (h : m < t.size) (hm : m < 256) (ht : ((List.range 256).all fun i => (t.data.getD i 0).toNat == lenN i) = true) : (t[m]'h).toNat = lenN m := by
  have h1 := List.all_eq_true.1 ht m (List.mem_range.2 hm)
  have h2 := beq_iff_eq.1 h1
  rw [← h2]
  have h3 : m < t.data.size := h
  rw [Array.getD, dif_pos h3]
  rfl
end Go.Proofs.YticfcelbnkiopaaDoor

namespace Go.Proofs.YticfcelbnkiopaaDoor
set_option maxRecDepth 100000
open Go.RowKit
set_option linter.unusedSimpArgs false
set_option linter.unusedVariables false

theorem Tryd.info_u32w : (Tryd.prog.info? 30).map (fun i => (i.zero, i.size, i.bytes)) = some (some (.int .u32 0), 1, 4) := by kernel_rfl
section
variable {ops : Array Oper} {rest : List Oper} {o : Oper} {a : Act} {Q : Exit → Act → World → Prop} {F : Nat → Prop} {w0 w : World} {L : List Own}
/-- make([]uint32, n). -/
theorem exec_makeW {ρ : Operand → Value} (n : Nat) (hn : n ≤ 1000000) (l c : Operand) (ho : o.op = .makeSlice 130 l c) (hl : ρ l = .int .i64 (n : Int)) (hc : ρ c = .int .i64 (n : Int)) :
    (execOp ρ o).run Tryd.prog w = .ok (.value (.slice (some ⟨w.heap.size, 0, none⟩) n n)) (w.alloc (.cells ((List.replicate n (0 : UInt32)).map vw).toArray 30)) := by
  obtain ⟨i0, hi, hz0, hz1, hz2⟩ := info_parts Tryd.info_u32w
  have h := run_make (P := Tryd.prog) w 130 30 i0 (.int .u32 0) Tryd.underlying130 hi hz0 .i64 .i64 (n : Int) (n : Int) (by omega) (by omega) (by rw [hz2]; omega) (by omega)
  have e1 : (madeCells #[.int .u32 0] n) = ((List.replicate n (0 : UInt32)).map vw).toArray := by
    apply Array.toList_inj.mp
    rw [toList_madeCells_one]
    simp
  have e2 : ((n : Int)).toNat = n := by omega
  rw [hz1, Nat.mul_one, e2] at h
  unfold execOp
  simp only [ho, hl, hc, h, Sem.run_bind, Sem.run_pure, Result.andThen_ok]
  rw [show (Value.int IntKind.u32 0).cells = #[.int .u32 0] from rfl, e1]
theorem aMakeW (n : Nat) (hn : n ≤ 1000000) (H : SH F w0 w L) (l c : Operand) (ho : o.op = .makeSlice 130 l c) (hl : a.eval l = .int .i64 (n : Int)) (hc : a.eval c = .int .i64 (n : Int)) (hw : Region.wanted o (yielded ops a.tmps) = true)
    (h : ∀ b w', SH F w0 w' (.blk b 30 ((List.replicate n (0 : UInt32)).map vw) :: L) → wpList Tryd.prog ops Q rest (a.put o.dst (.slice (some ⟨b, 0, none⟩) n n)) w') : wpList Tryd.prog ops Q (o :: rest) a w :=
  stepV (exec_makeW n hn l c ho hl hc) hw (h _ _ (H.new _ _))
end
/-- The schedule's first t words. -/
def schW (blk : List UInt8) (t : Nat) : List UInt32 := (List.range 64).map fun i => if i < t then wT blk i else 0
theorem schW_len (blk : List UInt8) (t : Nat) : (schW blk t).length = 64 := by simp [schW]
theorem schW_zero (blk : List UInt8) : schW blk 0 = List.replicate 64 0 := by
  unfold schW
  rw [show (fun i => if i < 0 then wT blk i else 0) = fun _ => (0 : UInt32) from funext fun i => if_neg (by omega)]
  rfl
theorem schW_get (blk : List UInt8) (t i : Nat) (h : i < t) (ht : t ≤ 64) : (schW blk t)[i]? = some (wT blk i) := by
  rw [schW, List.getElem?_map, List.getElem?_range (by omega), Option.map_some, if_pos h]
theorem schW_step (blk : List UInt8) (t : Nat) (ht : t < 64) : (schW blk t).set t (wT blk t) = schW blk (t + 1) := by
  apply List.ext_getElem?
  intro j
  by_cases hj : j < 64
  · rw [schW, schW, List.getElem?_map, List.getElem?_range hj, Option.map_some]
    by_cases e : t = j
    · subst e
      rw [List.getElem?_set_self (by simpa using ht), if_pos (by omega)]
    · rw [List.getElem?_set_ne e, List.getElem?_map, List.getElem?_range hj, Option.map_some]
      by_cases e2 : j < t
      · rw [if_pos e2, if_pos (by omega)]
      · rw [if_neg e2, if_neg (by omega)]
  · rw [List.getElem?_eq_none (by simp [schW]; omega), List.getElem?_eq_none (by simp [schW]; omega)]
end Go.Proofs.YticfcelbnkiopaaDoor

namespace Go.Proofs.YticfcelbnkiopaaDoor
set_option maxRecDepth 100000
open Go.RowKit
set_option linter.unusedSimpArgs false
set_option linter.unusedVariables false

theorem shl_byte (x : UInt8) (k : Nat) (hk : k ≤ 24) : (UInt32.ofNat x.toNat <<< UInt32.ofNat k).toNat = x.toNat * 2 ^ k := by
  have hx := x.toNat_lt
  have h1 : x.toNat * 2 ^ k ≤ 255 * 2 ^ 24 := Nat.mul_le_mul (by omega) (Nat.pow_le_pow_right (by omega) hk)
  have h2 : 255 * 2 ^ 24 < 2 ^ 32 := by decide
  rw [UInt32.toNat_shiftLeft, UInt32.toNat_ofNat', UInt32.toNat_ofNat', Nat.mod_eq_of_lt (by omega : k < 2 ^ 32), Nat.mod_eq_of_lt (by omega : k < 32), Nat.mod_eq_of_lt (by omega : x.toNat < 2 ^ 32), Nat.shiftLeft_eq, Nat.mod_eq_of_lt (by omega)]
theorem orAdd (i a b : Nat) (h : a < 2 ^ i) : a ||| (b * 2 ^ i) = a + b * 2 ^ i := by
  rw [Nat.or_comm, Nat.mul_comm, ← Nat.two_pow_add_eq_or_of_lt h b, Nat.add_comm]
theorem be4_or (a b c d : UInt8) : be4 a b c d = ((UInt32.ofNat a.toNat <<< UInt32.ofNat 24 ||| UInt32.ofNat b.toNat <<< UInt32.ofNat 16) ||| UInt32.ofNat c.toNat <<< UInt32.ofNat 8) ||| UInt32.ofNat d.toNat := by
  have ha := a.toNat_lt
  have hb := b.toNat_lt
  have hc := c.toNat_lt
  have hd := d.toNat_lt
  apply UInt32.toNat_inj.1
  rw [be4, UInt32.toNat_or, UInt32.toNat_or, UInt32.toNat_or, shl_byte a 24 (by omega), shl_byte b 16 (by omega), shl_byte c 8 (by omega), UInt32.toNat_ofNat', UInt32.toNat_ofNat', Nat.mod_eq_of_lt (by omega), Nat.mod_eq_of_lt (by omega)]
  rw [Nat.or_comm (a.toNat * 2 ^ 24), orAdd 24 _ _ (by omega), show b.toNat * 2 ^ 16 + a.toNat * 2 ^ 24 = (b.toNat + a.toNat * 256) * 2 ^ 16 by omega,
    Nat.or_comm _ (c.toNat * 2 ^ 8), orAdd 16 _ _ (by omega), show c.toNat * 2 ^ 8 + (b.toNat + a.toNat * 256) * 2 ^ 16 = (c.toNat + (b.toNat + a.toNat * 256) * 256) * 2 ^ 8 by omega,
    Nat.or_comm _ d.toNat, orAdd 8 _ _ (by omega)]
  omega
end Go.Proofs.YticfcelbnkiopaaDoor

namespace Go.Proofs.YticfcelbnkiopaaDoor
set_option maxRecDepth 100000
open Go.RowKit
set_option linter.unusedSimpArgs false
set_option linter.unusedVariables false

/-- How many go to the left. -/
def halfN (n : Nat) : Nat := 2 ^ (lenN (n - 1) - 1)
theorem lenN_pos (n : Nat) (h : 0 < n) : 0 < lenN n := by rw [lenN, if_neg (by omega)]; omega
theorem lenN_low (n : Nat) (h : 0 < n) : 2 ^ (lenN n - 1) ≤ n := by
  rw [lenN, if_neg (by omega), Nat.add_sub_cancel]
  exact Nat.log2_self_le (by omega)
theorem lenN_high (n : Nat) : n < 2 ^ lenN n := by
  rw [lenN]
  split
  · subst_vars; decide
  · exact Nat.lt_log2_self
theorem lenN_is (n k : Nat) (h1 : 2 ^ k ≤ n) (h2 : n < 2 ^ (k + 1)) : lenN n = k + 1 := by
  have h0 : 0 < 2 ^ k := Nat.two_pow_pos k
  rw [lenN, if_neg (by omega), (Nat.log2_eq_iff (by omega)).2 ⟨h1, h2⟩]
theorem halfN_pos (n : Nat) : 0 < halfN n := Nat.two_pow_pos _
theorem halfN_lt (n : Nat) (h : 2 ≤ n) : halfN n < n := by have := lenN_low (n - 1) (by omega); rw [halfN]; omega
/-- The reference's way. -/
theorem halfN_is (n k : Nat) (h1 : 2 ^ k < n) (h2 : n ≤ 2 * 2 ^ k) : halfN n = 2 ^ k := by
  rw [halfN, lenN_is (n - 1) k (by omega) (by rw [Nat.pow_succ]; omega), Nat.add_sub_cancel]
def treeF : Nat → List (List UInt8) → List UInt8
  | 0, _ => List.replicate 32 0
  | f + 1, l => if l.length = 0 then List.replicate 32 0 else if l.length = 1 then l.getD 0 [] else shaL (treeF f (l.take (halfN l.length)) ++ treeF f (l.drop (halfN l.length)))
def treeL (l : List (List UInt8)) : List UInt8 := treeF l.length l
theorem treeF_eq : ∀ (f : Nat) (l : List (List UInt8)), l.length ≤ f → treeF f l = treeL l := by
  intro f
  induction f using Nat.strongRecOn with
  | ind f ih =>
    intro l hl
    rcases f with _ | f
    · have : l.length = 0 := by omega
      rw [treeL, this]
    · by_cases h0 : l.length = 0
      · rw [treeL, h0, treeF, treeF, if_pos h0]
      · obtain ⟨n, hn⟩ : ∃ n, l.length = n + 1 := ⟨l.length - 1, by omega⟩
        rw [treeL, hn, treeF, treeF, if_neg h0, if_neg h0]
        by_cases h1 : l.length = 1
        · rw [if_pos h1, if_pos h1]
        · rw [if_neg h1, if_neg h1]
          have hp := halfN_pos l.length
          have hq := halfN_lt l.length (by omega)
          have t1 : (l.take (halfN l.length)).length ≤ n := by rw [List.length_take]; omega
          have t2 : (l.drop (halfN l.length)).length ≤ n := by rw [List.length_drop]; omega
          rw [ih f (by omega) _ (by omega), ih f (by omega) _ (by omega)]
          by_cases hf : n < f + 1
          · rw [ih n hf _ t1, ih n hf _ t2]
          · have : n = f := by omega
            subst this
            rw [ih n (by omega) _ t1, ih n (by omega) _ t2]
theorem treeL_zero (l : List (List UInt8)) (h : l.length = 0) : treeL l = List.replicate 32 0 := by rw [treeL, h]; rfl
theorem treeL_one (l : List (List UInt8)) (h : l.length = 1) : treeL l = l.getD 0 [] := by rw [treeL, h, treeF, if_neg (by omega), if_pos h]
theorem treeL_many (l : List (List UInt8)) (h : 2 ≤ l.length) : treeL l = shaL (treeL (l.take (halfN l.length)) ++ treeL (l.drop (halfN l.length))) := by
  obtain ⟨n, hn⟩ : ∃ n, l.length = n + 1 := ⟨l.length - 1, by omega⟩
  have hp := halfN_pos l.length
  have hq := halfN_lt l.length (by omega)
  rw [treeL, hn, treeF, if_neg (by omega), if_neg (by omega), ← hn, treeF_eq n _ (by rw [List.length_take]; omega), treeF_eq n _ (by rw [List.length_drop]; omega)]
theorem treeL_len (l : List (List UInt8)) (h : ∀ x ∈ l, x.length = 32) : (treeL l).length = 32 := by
  by_cases h0 : l.length = 0
  · rw [treeL_zero l h0, List.length_replicate]
  · by_cases h1 : l.length = 1
    · rw [treeL_one l h1]
      match l, h1 with
      | [x], _ => exact h x (by simp)
    · rw [treeL_many l (by omega), shaL_len]
end Go.Proofs.YticfcelbnkiopaaDoor

namespace Go.Proofs.YticfcelbnkiopaaDoor
set_option maxRecDepth 100000
open Go.RowKit
set_option linter.unusedSimpArgs false
set_option linter.unusedVariables false

/-- A hash. -/
abbrev H32 := { l : List UInt8 // l.length = 32 }
theorem Tryd.info_h32 : (Tryd.prog.info? 29).map (fun i => (i.zero, i.size, i.bytes)) = some (some (.agg (List.replicate 32 (.int .u8 0)).toArray), 32, 32) := by kernel_rfl
def H32T : Ty H32 := ⟨29, 32, 32, .agg (List.replicate 32 (.int .u8 0)).toArray, fun x => x.1.map cb, fun x => by rw [List.length_map]; exact x.2, fun x u hu => by obtain ⟨y, -, rfl⟩ := List.mem_map.1 hu; rfl, by decide, by decide⟩
def hL (hs : List H32) : List (List UInt8) := hs.map (·.1)
theorem hL_len (hs : List H32) : (hL hs).length = hs.length := by rw [hL, List.length_map]
theorem hL_all (hs : List H32) : ∀ x ∈ hL hs, x.length = 32 := fun x hx => by
  obtain ⟨y, -, rfl⟩ := List.mem_map.1 hx
  exact y.2
theorem tree_hL (hs : List H32) : (treeL (hL hs)).length = 32 := treeL_len _ (hL_all hs)
theorem VA.rbn {w : World} {b : Nat} {t : TypeId} {xs : List UInt8} (h : VA w b t (xs.map cb)) (n : Nat) (hn : xs.length = n) (hm : n ≤ 1000000000) : RB w (.slice (some ⟨b, 0, none⟩) n n) xs := by
  subst hn
  exact RR.range (T := B8) (by rw [U8_all]; exact h.all) (by omega)
/-- A hash of a row that is loaded. -/
theorem RR.h32 {w : World} {ad : Addr} {n c : Nat} {hs : List H32} (h : RR H32T w (.slice (some ad) n c) hs) (i : Nat) (hi : i < hs.length) : ∀ (j : Nat) (v : Value), (hs[i].1.map cb)[j]? = some v → w.cell? ((ad.add (i * 32)).add j) = some v := by
  obtain ⟨ad', he, h1⟩ := h.at_ i hi
  injection he with he
  subst he
  intro j v hv
  have h2 := h1 j v hv
  rw [← h2]
  congr 1
  show (ad.add (i * 32)).add j = ad.add (i * 32 + j)
  unfold Addr.add
  by_cases h1 : i * 32 = 0 <;> by_cases h2 : j = 0 <;> simp [h1, h2, Nat.add_assoc]
section
variable {ops : Array Oper} {rest : List Oper} {o : Oper} {a : Act} {Q : Exit → Act → World → Prop} {w : World} {ρ : Operand → Value}
/-- A hash that is loaded from where its cells stand. -/
theorem xLoadH (y : Operand) (ho : o.op = .load 29 y) {ad : Addr} {xs : List UInt8} (hx : ρ y = .pointer (some ad)) (hl : xs.length = 32) (hc : ∀ (j : Nat) (v : Value), (xs.map cb)[j]? = some v → w.cell? (ad.add j) = some v) : (execOp ρ o).run Tryd.prog w = .ok (.value (.agg (xs.map cb).toArray)) w :=
  exec_loadA _ y ho ad hx _ _ hc Tryd.underlying29 rfl (by rw [List.length_map, hl]; kernel_rfl)
end
end Go.Proofs.YticfcelbnkiopaaDoor

namespace Go.Proofs.YticfcelbnkiopaaDoor
set_option maxRecDepth 100000
open Go.RowKit
set_option linter.unusedSimpArgs false
set_option linter.unusedVariables false

/-- The hash of two hashes. -/
theorem All_two {b4 b5 : Nat} {t4 t5 : TypeId} {x1 x2 : List UInt8} (l1 : x1.length = 32) (l2 : x2.length = 32) (W : World) (h4 : VA W b4 t4 (x1.map cb)) (h5 : VA W b5 t5 (x2.map cb)) :
    Calls Tryd.prog 75 #[.slice (some ⟨W.heap.size, 0, none⟩) 2 2] (W.alloc (.cells #[.slice (some ⟨b4, 0, none⟩) 32 32, .slice (some ⟨b5, 0, none⟩) 32 32] 22)) fun e w' => e = .returned (.agg ((shaL (x1 ++ x2)).map cb).toArray) ∧ Below W.heap.size W w' := by
  have hr := RR.lit SVT W [(some ⟨b4, 0, none⟩, 32, 32), (some ⟨b5, 0, none⟩, 32, 32)] #[.slice (some ⟨b4, 0, none⟩) 32 32, .slice (some ⟨b5, 0, none⟩) 32 32] rfl (by simp)
  have hb := alloc_belowAt W (.cells #[.slice (some ⟨b4, 0, none⟩) 32 32, .slice (some ⟨b5, 0, none⟩) 32 32] 22)
  have hL : LB (W.alloc (.cells #[.slice (some ⟨b4, 0, none⟩) 32 32, .slice (some ⟨b5, 0, none⟩) 32 32] 22)) [(some ⟨b4, 0, none⟩, 32, 32), (some ⟨b5, 0, none⟩, 32, 32)] [x1, x2] :=
    ⟨rfl, fun i hi => by
      rcases i with _ | _ | i
      · exact (h4.rbn 32 l1 (by omega)).below hb
      · exact (h5.rbn 32 l2 (by omega)).below hb
      · exact absurd hi (by simp)⟩
  have h := All_any _ _ [x1, x2] _ hr hL (by simp [l1, l2])
  rw [show [x1, x2].flatten = x1 ++ x2 by simp] at h
  exact h.mono fun e w' ⟨h1, h2⟩ => ⟨h1, below_two hb hb.size h2⟩
end Go.Proofs.YticfcelbnkiopaaDoor

namespace Go.Proofs.YticfcelbnkiopaaDoor
set_option maxRecDepth 100000
open Go.RowKit
set_option linter.unusedSimpArgs false
set_option linter.unusedVariables false

section
variable {ops : Array Oper} {rest : List Oper} {o : Oper} {a : Act} {Q : Exit → Act → World → Prop} {F : Nat → Prop} {w0 w : World} {L : List Own}
/-- make([]byte, n). -/
theorem exec_makeB {ρ : Operand → Value} (n : Nat) (hn : n ≤ 1000000) (l c : Operand) (ho : o.op = .makeSlice 22 l c) (hl : ρ l = .int .i64 (n : Int)) (hc : ρ c = .int .i64 (n : Int)) :
    (execOp ρ o).run Tryd.prog w = .ok (.value (.slice (some ⟨w.heap.size, 0, none⟩) n n)) (w.alloc (.cells ((List.replicate n (0 : UInt8)).map cb).toArray 5)) := by
  obtain ⟨i0, hi, hz0, hz1, hz2⟩ := info_parts Tryd.info_u8
  have h := run_make (P := Tryd.prog) w 22 5 i0 (.int .u8 0) Tryd.underlying22 hi hz0 .i64 .i64 (n : Int) (n : Int) (by omega) (by omega) (by rw [hz2]; omega) (by omega)
  have e1 : (madeCells #[.int .u8 0] n) = ((List.replicate n (0 : UInt8)).map cb).toArray := by
    apply Array.toList_inj.mp
    rw [toList_madeCells_one]
    simp [cb]
  have e2 : ((n : Int)).toNat = n := by omega
  rw [hz1, Nat.mul_one, e2] at h
  unfold execOp
  simp only [ho, hl, hc, h, Sem.run_bind, Sem.run_pure, Result.andThen_ok]
  rw [show (Value.int IntKind.u8 0).cells = #[.int .u8 0] from rfl, e1]
theorem madeB (H : SH F w0 w L) (n : Nat) (hn : n ≤ 1000000) : SH F w0 (w.alloc (.cells ((List.replicate n (0 : UInt8)).map cb).toArray 5)) (.row B8 (.slice (some ⟨w.heap.size, 0, none⟩) n n) (List.replicate n 0) :: L) :=
  H.pushRow (alloc_belowAt w _) (by
    have h := OB.ofVA (base := w.heap.size) (xs := List.replicate n 0) (VA.new w ((List.replicate n (0 : UInt8)).map cb) 5) (Nat.le_refl _) (by simp; omega)
    rw [List.length_replicate] at h
    exact h)
theorem aMakeB (n : Nat) (hn : n ≤ 1000000) (H : SH F w0 w L) (l c : Operand) (ho : o.op = .makeSlice 22 l c) (hl : a.eval l = .int .i64 (n : Int)) (hc : a.eval c = .int .i64 (n : Int)) (hw : Region.wanted o (yielded ops a.tmps) = true)
    (h : ∀ b w', SH F w0 w' (.row B8 (.slice (some ⟨b, 0, none⟩) n n) (List.replicate n 0) :: L) → wpList Tryd.prog ops Q rest (a.put o.dst (.slice (some ⟨b, 0, none⟩) n n)) w') : wpList Tryd.prog ops Q (o :: rest) a w :=
  stepV (exec_makeB n hn l c ho hl hc) hw (h _ _ (madeB H n hn))
end
theorem SH.toBlkE {F : Nat → Prop} {w0 w : World} {L : List Own} {g n : Nat} {xs : List UInt8} (h : SH F w0 w (.row B8 (.slice (some ⟨g, 0, none⟩) n n) xs :: L)) (hn : xs.length = n) : SH F w0 w (.blk g 5 (xs.map cb) :: L) := by
  have ho := h.or0 0 rfl
  rcases ho.2 with ⟨h1, -⟩ | ⟨g', cap, cur, hv, _, hg, h1, h2, h3, h4⟩
  · cases h1
  · injection hv with e1 e2 e3
    injection e1 with e1
    injection e1 with e1
    subst e1 e3
    have hx : cur.toList = xs.map cb := by
      rw [U8_all] at h4
      rw [← h4, List.take_of_length_le]
      rw [Array.length_toList, h3, hn]
      exact Nat.le_refl _
    refine h.change 0 rfl (Chg.refl _ w) _ ?_ (fun b hb => .inl ?_)
    · show w.heap[g]? = _
      rw [hg, ← hx]
      first | rfl | simp
    · show Value.ownBlock _ = some b
      rw [show b = g from hb]; rfl
/-- A block that holds just a row. -/
theorem OR.ofBlk {α : Type} {T : Ty α} {w : World} {g n : Nat} {xs : List α} (h : VA w g T.id (T.all xs)) (hn : xs.length = n) (hm : n ≤ 1000000000) : OR T w 0 (.slice (some ⟨g, 0, none⟩) n n) xs := by
  subst hn
  refine ⟨by rw [Ty.all_length], .inr ⟨g, xs.length, (T.all xs).toArray, rfl, Nat.zero_le _, h, Nat.le_refl _, by simp only [maxLen]; omega, by rw [List.size_toArray, Ty.all_length], ?_⟩⟩
  rw [List.toList_toArray, ← Ty.all_length, List.take_length]
theorem SH.perm {F : Nat → Prop} {w0 w : World} {L L' : List Own} (h : SH F w0 w L) (p : L.Perm L') : SH F w0 w L' :=
  ⟨h.chg, fun o ho => h.holds o (p.mem_iff.2 ho), fun o ho => h.foot o (p.mem_iff.2 ho), (p.pairwise_iff (fun {x y} hxy b h1 h2 => hxy b h2 h1)).1 h.apart⟩
end Go.Proofs.YticfcelbnkiopaaDoor

namespace Go.Proofs.YticfcelbnkiopaaDoor
set_option maxRecDepth 100000
open Go.RowKit
set_option linter.unusedSimpArgs false
set_option linter.unusedVariables false

/-- A disk, nothing waiting, no fuse. -/
def dC (ad : Addr) (N : Nat) : List Value := [.slice (some ad) N N, .slice none 0 0, .int .i64 (-1), .bool false]
set_option maxHeartbeats 1600000 in
theorem diskNew_any (n : Nat) (h1 : 16 ≤ n) (h2 : n ≤ 512) (w : World) : Calls Tryd.prog 43 #[.int .i64 (n : Int)] w fun e w' => ∃ bd bo, e = .returned (.tuple #[.pointer (some ⟨bd, 0, none⟩), .int .i64 0]) ∧ SH Nil w w' [.blk bd 142 (dC ⟨bo, 0, none⟩ (n * 256)), .row B8 (.slice (some ⟨bo, 0, none⟩) (n * 256) (n * 256)) (List.replicate (n * 256) 0)] := by
  have H := SH.start Nil w
  have i1 : ((n : Int) < 16) = False := eq_false (by omega)
  have i2 : ((512 : Int) < (n : Int)) = False := eq_false (by omega)
  obtain ⟨N, hN⟩ : ∃ N, N = n * 256 := ⟨_, rfl⟩
  have hm : (n : Int) * 256 = (N : Int) := by omega
  have hw : IntKind.i64.wrap (N : Int) = (N : Int) := i64w _ (by omega) (by omega)
  rw [← hN]
  have hNl : N ≤ 1000000 := by omega
  have HN := Lib.hid hN
  clear hN
  go_enter Tryd.func43, Tryd.ntmps43
  go_wp2_with (first
    | ((with_reducible refine gDst 12 ?_); refine aMakeB N hNl H _ _ rfl rfl rfl rfl ?_; clear H; intro b12 w12 H; (try dsimp only at H))
    | ((with_reducible refine gDst 13 ?_); refine aBuildC _ _ rfl (dC ⟨b12, 0, none⟩ N) (by rfl) rfl ?_)
    | ((with_reducible refine gDst 14 ?_); refine aBox H _ rfl rfl rfl ?_; clear H; intro b14 w14 H))
  go_ret2
  exact ⟨_, _, rfl, H⟩
set_option maxHeartbeats 1600000 in
theorem diskLen_any (bd : Nat) (ad : Addr) (n N : Nat) (hN : N = n * 256) (hn : n ≤ 512) (w : World) (hv : VA w bd 142 (dC ad N)) : Calls Tryd.prog 116 #[.pointer (some ⟨bd, 0, none⟩)] w fun e w' => e = .returned (.int .i64 (n : Int)) ∧ w = w' := by
  have hc := hv.cell 0
  have hq : (N : Int).tdiv 256 = (n : Int) := by rw [Int.tdiv_eq_ediv_of_nonneg (by omega)]; omega
  have hNb : (N : Int) ≤ 131072 := by omega
  have HV := Lib.hid hv
  have HN := Lib.hid hN
  clear hv hN
  change _ = some (Value.slice (some ad) N N) at hc
  go_enter Tryd.func116, Tryd.ntmps116
  go_wp2_with (first
    | ((with_reducible refine gDst 8 ?_); refine aLoadC _ rfl rfl hc rfl ?_))
  go_ret
  exact ⟨rfl, rfl⟩
set_option maxHeartbeats 1600000 in
theorem diskHas_any (bd : Nat) (ad : Addr) (n N : Nat) (hN : N = n * 256) (hn : n ≤ 512) (i : Nat) (hi : i < n) (w : World) (hv : VA w bd 142 (dC ad N)) : Calls Tryd.prog 72 #[.pointer (some ⟨bd, 0, none⟩), .int .i64 (i : Int)] w fun e w' => e = .returned (.bool true) ∧ w = w' := by
  have hii : (i : Int) < (n : Int) := by omega
  have HC := Lib.hid (diskLen_any bd ad n N hN hn w hv)
  clear hv hN
  go_enter Tryd.func72, Tryd.ntmps72
  go_wp2_with (first
    | (go_at_call 116; refine HC.out.mono ?_; rintro e w' ⟨rfl, rfl⟩))
  go_ret
  exact ⟨rfl, rfl⟩
set_option maxHeartbeats 1600000 in
theorem diskSector_any (bd : Nat) (ad : Addr) (n N : Nat) (hN : N = n * 256) (hn : n ≤ 512) (i : Nat) (hi : i < n) (on : List UInt8) (hon : on.length = N) (w : World) (hv : VA w bd 142 (dC ad N)) (hr : RB w (.slice (some ad) N N) on) :
    Calls Tryd.prog 71 #[.pointer (some ⟨bd, 0, none⟩), .int .i64 (i : Int)] w fun e w' => ∃ A c, e = .returned (.slice A 256 c) ∧ RB w (.slice A 256 c) ((on.drop (i * 256)).take 256) ∧ w = w' := by
  have hc := hv.cell 0
  change _ = some (Value.slice (some ad) N N) at hc
  obtain ⟨u, hu⟩ : ∃ u, u = i * 256 := ⟨_, rfl⟩
  obtain ⟨e, he⟩ : ∃ e, e = u + 256 := ⟨_, rfl⟩
  have heN : e ≤ N := by omega
  obtain ⟨A1, s1, -, -, s4⟩ := cutB (some ad) N on u e (by omega) (by rw [hon]; exact heN) (by omega)
  rw [hon] at s1 s4
  have heu : e - u = 256 := by omega
  have hcut : (on.take e).drop u = (on.drop (i * 256)).take 256 := by rw [List.drop_take, heu, hu]
  rw [heu] at s1 s4
  rw [hcut] at s4
  have S4 := Lib.hid (s4 w hr)
  have m1 : (i : Int) * 256 = (u : Int) := by omega
  have m2 : ((i : Int) + 1) * 256 = (e : Int) := by omega
  have k1 : IntKind.i64.wrap (u : Int) = (u : Int) := i64w _ (by omega) (by omega)
  have k2 : IntKind.i64.wrap (e : Int) = (e : Int) := i64w _ (by omega) (by omega)
  have hib : (i : Int) ≤ 512 := by omega
  clear hv hr s4 hcut heu hu he heN hN hon
  go_enter Tryd.func71, Tryd.ntmps71
  go_wp2_with (first
    | ((with_reducible refine gDst 8 ?_); refine aLoadC _ rfl rfl hc rfl ?_))
  go_ret
  exact ⟨_, _, rfl, S4.out, rfl⟩
end Go.Proofs.YticfcelbnkiopaaDoor

namespace Go.Proofs.YticfcelbnkiopaaDoor
set_option maxRecDepth 100000
open Go.RowKit
set_option linter.unusedSimpArgs false
set_option linter.unusedVariables false

/-- A number of 64 bits, as a value. -/
abbrev v64 (x : UInt64) : Value := .int .u64 (x.toNat : Int)
/-- A map: its sectors, its words. -/
def mC (n : Nat) (us : List UInt64) : List Value := .int .i64 (n : Int) :: us.map v64
def bit64 (r : Nat) : UInt64 := UInt64.ofNat (2 ^ r)
def setU (us : List UInt64) (i : Nat) : List UInt64 := us.set (i / 64) (us.getD (i / 64) 0 ||| bit64 (i % 64))
theorem setU_len (us : List UInt64) (i : Nat) : (setU us i).length = us.length := by rw [setU, List.length_set]
theorem bit64_nat (r : Nat) (h : r < 64) : (bit64 r).toNat = 2 ^ r := by
  rw [bit64, UInt64.toNat_ofNat']
  exact Nat.mod_eq_of_lt (Nat.pow_lt_pow_right (by decide) h)
set_option maxHeartbeats 1600000 in
theorem mapSet_any (n bm i : Nat) (us : List UInt64) (hl : us.length = 8) (hi : i < 512) (w : World) (hv : VA w bm 161 (mC n us)) : Calls Tryd.prog 114 #[.pointer (some ⟨bm, 0, none⟩), .int .i64 (i : Int)] w fun e w' => e = .returned (.tuple #[]) ∧ SH (fun k => k = bm) w w' [.blk bm 161 (mC n (setU us i))] := by
  have H := SH.ofB hv
  have hq : (i : Int).tdiv 64 = ((i / 64 : Nat) : Int) := by rw [Int.tdiv_eq_ediv_of_nonneg (by omega)]; push_cast; rfl
  have hm : (i : Int).tmod 64 = ((i % 64 : Nat) : Int) := by rw [Int.tmod_eq_emod_of_nonneg (by omega)]; push_cast; rfl
  have hql : i / 64 < 8 := by omega
  have hrl : i % 64 < 64 := by omega
  have hx : (mC n us)[1 + i / 64]? = some (v64 (us.getD (i / 64) 0)) := by
    rw [mC, Nat.add_comm, List.getElem?_cons_succ, List.getElem?_map, List.getD_eq_getElem?_getD, List.getElem?_eq_getElem (by omega)]; rfl
  have hset : (mC n us).set (1 + i / 64) (v64 (us.getD (i / 64) 0 ||| bit64 (i % 64))) = mC n (setU us i) := by
    rw [mC, mC, setU, Nat.add_comm, List.set_cons_succ, List.map_set]
  have ho := u64_or_nat (us.getD (i / 64) 0).toNat (2 ^ (i % 64)) (UInt64.toNat_lt _) (Nat.pow_lt_pow_right (by decide) hrl)
  rw [← bit64_nat _ hrl, ← UInt64.toNat_or] at ho
  have hb := bit64_nat _ hrl
  have hp : (2 : Int) ^ (i % 64) = ((bit64 (i % 64)).toNat : Int) := by rw [hb]; push_cast; rfl
  have hc := (hv.cell (1 + i / 64)).trans hx
  have hlen : (mC n us).length = 9 := by rw [mC, List.length_cons, List.length_map, hl]
  generalize us.getD (i / 64) 0 ||| bit64 (i % 64) = z at *
  generalize us.getD (i / 64) 0 = x at *
  have hyl : (bit64 (i % 64)).toNat < 18446744073709551616 := UInt64.toNat_lt _
  generalize bit64 (i % 64) = y at *
  generalize hQ : i / 64 = q at *
  generalize hR : i % 64 = r at *
  have hqi : (q : Int) < 8 := by omega
  have hri : (r : Int) < 64 := by omega
  have hyw : IntKind.u64.wrap (y.toNat : Int) = (y.toNat : Int) := by rw [IntKind.wrap_u64]; omega
  have hqw : IntKind.i64.wrap (q : Int) = (q : Int) := i64w _ (by omega) (by omega)
  have HSET := Lib.hid hset
  have HLEN := Lib.hid hlen
  clear hset hlen hv hb hx hyl hQ hR
  go_enter Tryd.func114, Tryd.ntmps114
  refine startA (fun i => i == 14) (by kernel_rfl) (fun wS hS => ?_)
  replace H := H.drew
  rw [← hS] at H
  have HH := H.hold
  have HS0 : Below wS.heap.size wS wS := Below.refl _ _
  replace hc := cellS hS hc
  clear hS
  refine takeP 0 rfl (by kernel_rfl) (by kernel_rfl) (by kernel_rfl) (by kernel_rfl) (fun _ _ _ h => h) rfl (v := ?_) ?_ ?_
  rotate_left
  · intro w'; go_simp; (try with_reducible rfl)
  (try simp only [Act.put, List.setIfInBounds_toArray, List.set_cons_zero, List.set_cons_succ])
  refine takeP 1 rfl (by kernel_rfl) (by kernel_rfl) (by kernel_rfl) (by kernel_rfl) (fun _ _ _ h => h) rfl (v := ?_) ?_ ?_
  rotate_left
  · intro w'; go_simp; (try with_reducible rfl)
  (try simp only [Act.put, List.setIfInBounds_toArray, List.set_cons_zero, List.set_cons_succ])
  refine takeP 2 rfl (by kernel_rfl) (by kernel_rfl) (by kernel_rfl) (by kernel_rfl) (fun _ _ _ h => h) rfl (v := ?_) ?_ ?_
  rotate_left
  · intro w'; go_simp; (try with_reducible rfl)
  (try simp only [Act.put, List.setIfInBounds_toArray, List.set_cons_zero, List.set_cons_succ])
  refine takeP 3 rfl (by kernel_rfl) (by kernel_rfl) (by kernel_rfl) (by kernel_rfl) (fun _ _ _ h => h) rfl (v := ?_) ?_ ?_
  rotate_left
  · intro w'; go_simp; (try with_reducible rfl)
  (try simp only [Act.put, List.setIfInBounds_toArray, List.set_cons_zero, List.set_cons_succ])
  refine takeP 4 rfl (by kernel_rfl) (by kernel_rfl) (by kernel_rfl) (by kernel_rfl) (fun _ _ _ h => h) rfl (v := ?_) ?_ ?_
  rotate_left
  · intro w'; go_simp; (try with_reducible rfl)
  (try simp only [Act.put, List.setIfInBounds_toArray, List.set_cons_zero, List.set_cons_succ])
  refine takeP 5 rfl (by kernel_rfl) (by kernel_rfl) (by kernel_rfl) (by kernel_rfl) (fun _ _ _ h => h) rfl (v := ?_) ?_ ?_
  rotate_left
  · intro w'; go_simp; (try with_reducible rfl)
  (try simp only [Act.put, List.setIfInBounds_toArray, List.set_cons_zero, List.set_cons_succ])
  refine takeL 6 HS0 rfl (by kernel_rfl) (by kernel_rfl) (by kernel_rfl) (by kernel_rfl) (by kernel_rfl) (fun _ _ _ h => h) rfl (v := ?_) ?_ ?_
  rotate_left
  · intro w' hw'; first | (refine Eq.trans (xLoad1 (HH.below hw') _ rfl rfl (by first | exact (rfl : _ = some (Value.int _ _)) | exact (rfl : _ = some (Value.slice _ _ _)) | exact (rfl : _ = some (Value.bool _)) | exact (rfl : _ = some (Value.string _)) | exact (rfl : _ = some (Value.pointer _)) | rfl | (simp [List.getElem?_append]; done))) ?_; with_reducible rfl) | (refine Eq.trans (xLoadC _ rfl rfl (cell_below hw' (by assumption))) ?_; with_reducible rfl)
  (try simp only [Act.put, List.setIfInBounds_toArray, List.set_cons_zero, List.set_cons_succ])
  refine takeP 7 rfl (by kernel_rfl) (by kernel_rfl) (by kernel_rfl) (by kernel_rfl) (fun _ _ _ h => h) rfl (v := ?_) ?_ ?_
  rotate_left
  · intro w'; go_simp; (try with_reducible rfl)
  (try simp only [Act.put, List.setIfInBounds_toArray, List.set_cons_zero, List.set_cons_succ])
  refine takeP 8 rfl (by kernel_rfl) (by kernel_rfl) (by kernel_rfl) (by kernel_rfl) (fun _ _ _ h => h) rfl (v := ?_) ?_ ?_
  rotate_left
  · intro w'; go_simp; (try with_reducible rfl)
  (try simp only [Act.put, List.setIfInBounds_toArray, List.set_cons_zero, List.set_cons_succ])
  refine takeP 9 rfl (by kernel_rfl) (by kernel_rfl) (by kernel_rfl) (by kernel_rfl) (fun _ _ _ h => h) rfl (v := ?_) ?_ ?_
  rotate_left
  · intro w'; go_simp; (try with_reducible rfl)
  (try simp only [Act.put, List.setIfInBounds_toArray, List.set_cons_zero, List.set_cons_succ])
  refine takeP 10 rfl (by kernel_rfl) (by kernel_rfl) (by kernel_rfl) (by kernel_rfl) (fun _ _ _ h => h) rfl (v := ?_) ?_ ?_
  rotate_left
  · intro w'; go_simp; (try with_reducible rfl)
  (try simp only [Act.put, List.setIfInBounds_toArray, List.set_cons_zero, List.set_cons_succ])
  refine takeP 11 rfl (by kernel_rfl) (by kernel_rfl) (by kernel_rfl) (by kernel_rfl) (fun _ _ _ h => h) rfl (v := ?_) ?_ ?_
  rotate_left
  · intro w'; go_simp; (try with_reducible rfl)
  (try simp only [Act.put, List.setIfInBounds_toArray, List.set_cons_zero, List.set_cons_succ])
  refine takeP 12 rfl (by kernel_rfl) (by kernel_rfl) (by kernel_rfl) (by kernel_rfl) (fun _ _ _ h => h) rfl (v := ?_) ?_ ?_
  rotate_left
  · intro w'; go_simp; (try with_reducible rfl)
  (try simp only [Act.put, List.setIfInBounds_toArray, List.set_cons_zero, List.set_cons_succ])
  refine takeP 13 rfl (by kernel_rfl) (by kernel_rfl) (by kernel_rfl) (by kernel_rfl) (fun _ _ _ h => h) rfl (v := ?_) ?_ ?_
  rotate_left
  · intro w'; go_simp; (try with_reducible rfl)
  (try simp only [Act.put, List.setIfInBounds_toArray, List.set_cons_zero, List.set_cons_succ])
  refine stepL 14 rfl (by kernel_rfl) rfl (fun K hK => ?_)
  (refine oCellA (v := v64 z) (new := mC n (setU us i)) H _ _ rfl rfl rfl rfl rfl (by rw [HLEN.out]; omega) HSET.out ?_; clear H; intro w' H; (try dsimp only at H); refine hK.out _ _ (fun h => by cases h) ?_; clear K hK HS0)
  (try simp only [Act.put, List.setIfInBounds_toArray, List.set_cons_zero, List.set_cons_succ])
  refine doneL (by kernel_rfl) ?_
  go_wp2
  go_end0
  exact ⟨rfl, H⟩
def usK (i : Nat) : List UInt64 := (List.range i).foldl setU (List.replicate 8 0)
theorem usK_len (i : Nat) : (usK i).length = 8 := by
  unfold usK
  induction i with
  | zero => rfl
  | succ i ih => rw [List.range_succ, List.foldl_append, List.foldl_cons, List.foldl_nil, setU_len, ih]
theorem usK_step (i : Nat) : setU (usK i) i = usK (i + 1) := by
  unfold usK
  rw [List.range_succ, List.foldl_append]; rfl
def relK0 (n bm : Nat) (w : World) (v13 : Value) (wr : World) : Prop := ∃ i : Nat, v13 = .int .i64 (i : Int) ∧ i ≤ 4 ∧ SH (fun k => k = bm) w wr [.blk bm 161 (mC n (usK i))]
set_option maxHeartbeats 1600000 in
theorem mapKeep0_any (n bm : Nat) (us : List UInt64) (hl : us.length = 8) (w : World) (hv : VA w bm 161 (mC n us)) : Calls Tryd.prog 111 #[.pointer (some ⟨bm, 0, none⟩), .slice none 0 0] w fun e w' => e = .returned (.tuple #[]) ∧ SH (fun k => k = bm) w w' [.blk bm 161 (mC n (usK 4))] := by
  have H := SH.ofB hv
  have hlen : (mC n us).length = 9 := by rw [mC, List.length_cons, List.length_map, hl]
  have hlay : lay (mC n us) 1 (List.replicate 8 (.int .u64 0)) = mC n (usK 0) := by
    rw [lay, List.drop_of_length_le (by rw [hlen]; exact Nat.le_refl _), List.append_nil]; rfl
  have HLEN := Lib.hid hlen
  have HLAY := Lib.hid hlay
  clear hlen hlay hv hl
  go_enter Tryd.func111, Tryd.ntmps111
  go_wp2_with (first
    | ((with_reducible refine gSto (.tmp 12) (.tmp 10) ?_); refine aLay H _ _ rfl rfl rfl ⟨by rw [HLEN.out]; exact Nat.le_refl _, rfl⟩ rfl HLAY.out rfl ?_; clear H; intro w' H; (try dsimp only at H))
    | ((with_reducible refine gLoad ?_); first | (refine aLoad1 H _ rfl rfl (by first | exact (rfl : _ = some (Value.int _ _)) | exact (rfl : _ = some (Value.slice _ _ _)) | exact (rfl : _ = some (Value.bool _)) | exact (rfl : _ = some (Value.string _)) | exact (rfl : _ = some (Value.pointer _)) | rfl | (simp [List.getElem?_append]; done)) rfl ?_) | (refine aLoadC _ rfl rfl (by assumption) rfl ?_))
    | ((with_reducible refine gBuild ?_); refine aZero rfl rfl ?_)
    | ((with_reducible refine gStore ?_); (first | (refine aStore H _ _ rfl rfl rfl (by (first | exact ⟨rfl, rfl⟩ | exact ⟨by decide, rfl⟩ | (simp []; done) | (constructor <;> simp [] <;> omega))) (by first | rfl | simp [List.all_append, one_all]) rfl ?_) | (refine aLay H _ _ rfl rfl rfl (by (first | exact ⟨rfl, rfl⟩ | exact ⟨by decide, rfl⟩ | (simp []; done) | (constructor <;> simp [] <;> omega))) (by first | rfl | simp [List.all_append, one_all]) (by simp only [lay, List.take_succ_cons, List.take_zero, List.drop_succ_cons, List.drop_zero, List.nil_append, List.cons_append, List.length_cons, List.length_nil, Nat.zero_add, Nat.reduceAdd]; rfl) rfl ?_)); clear H; intro w' H; try dsimp only at H))
  go_loopw [13] (fun v13 wr => relK0 n bm w v13 wr) (fun v _ => 4 - (intOf v).toNat)
  case atStart => exact ⟨0, rfl, by omega, H⟩
  case round =>
    obtain ⟨i, rfl, hi, HS⟩ := hrel
    clear H
    have H := HS
    clear HS
    by_cases h : i < 4
    · have hii : (i : Int) < 4 := by omega
      have cS := fun W (k : VA W bm 161 (mC n (usK i))) => mapSet_any n bm i (usK i) (usK_len i) (by omega) W k
      rw [usK_step] at cS
      have HCS := Lib.hid cS
      clear cS
      go_wp2_with (first
        | (go_at_call 114; refine (HCS.out _ H.hold.va).mono ?_; rintro e w' ⟨rfl, k⟩; replace H := H.viaB k; (try dsimp only at H); clear k))
      go_roundw
      case rel => first | exact ⟨i + 1, by go_num, by omega, H⟩ | exact ⟨_, ⟨i + 1, by go_num, by omega, H⟩, rfl⟩ | exact ⟨_, _, ⟨i + 1, by go_num, by omega, H⟩, rfl, rfl⟩ | exact ⟨_, _, _, ⟨i + 1, by go_num, by omega, H⟩, rfl, rfl, rfl⟩ | exact ⟨_, _, _, _, ⟨i + 1, by go_num, by omega, H⟩, rfl, rfl, rfl, rfl⟩ | exact ⟨_, _, _, _, _, ⟨i + 1, by go_num, by omega, H⟩, rfl, rfl, rfl, rfl, rfl⟩ | ((repeat (apply Exists.intro)); exact ⟨⟨i + 1, by go_num, by omega, H⟩, rfl⟩)
      case measure => simp [intOf] <;> omega
    · obtain rfl : i = 4 := by omega
      go_wp2
      go_loopw [22] (fun v22 wr => v22 = .int .i64 0 ∧ SH (fun k => k = bm) w wr [.blk bm 161 (mC n (usK 4))]) (fun _ _ => 0)
      case atStart => exact ⟨rfl, H⟩
      case round =>
        obtain ⟨rfl, HS⟩ := hrel
        clear H
        have H := HS
        clear HS
        go_wp2
        go_end0
        exact ⟨rfl, H⟩
set_option maxHeartbeats 1600000 in
theorem mapNew_any (n : Nat) (h1 : 16 ≤ n) (h2 : n ≤ 512) (w : World) : Calls Tryd.prog 61 #[.int .i64 (n : Int)] w fun e w' => ∃ bm, e = .returned (.tuple #[.pointer (some ⟨bm, 0, none⟩), .int .i64 0]) ∧ SH Nil w w' [.blk bm 161 (mC n (usK 4))] := by
  have H := SH.start Nil w
  have i1 : ((n : Int) < 16) = False := eq_false (by omega)
  have i2 : ((512 : Int) < (n : Int)) = False := eq_false (by omega)
  go_enter Tryd.func61, Tryd.ntmps61
  go_wp2_with (first
    | ((with_reducible refine gDst 12 ?_); refine aBuildC _ _ rfl (mC n (List.replicate 8 0)) (by rfl) rfl ?_)
    | (go_at_call 111; refine (mapKeep0_any n _ (List.replicate 8 0) rfl _ H.hold.va).mono ?_; rintro e w' ⟨rfl, k⟩; replace H := H.viaB k; (try dsimp only at H); clear k)
    | ((with_reducible refine gDst 13 ?_); refine aBox H _ rfl rfl rfl ?_; clear H; intro b13 w13 H))
  go_ret2
  exact ⟨_, rfl, H⟩
set_option maxHeartbeats 1600000 in
theorem bankOver_any (bd bm : Nat) (t : Nat) (w : World) (ht : t < 4294967296) : Calls Tryd.prog 62 #[.pointer (some ⟨bd, 0, none⟩), .pointer (some ⟨bm, 0, none⟩), .int .u32 (t : Int)] w fun e w' => ∃ bk, e = .returned (.pointer (some ⟨bk, 0, none⟩)) ∧ SH Nil w w' [.blk bk 133 [.pointer (some ⟨bd, 0, none⟩), .pointer (some ⟨bm, 0, none⟩), .int .u32 (t : Int)]] := by
  have H := SH.start Nil w
  go_enter Tryd.func62, Tryd.ntmps62
  go_wp2_with (first
    | ((with_reducible refine gDst 10 ?_); refine aBuildC _ _ rfl [.pointer (some ⟨bd, 0, none⟩), .pointer (some ⟨bm, 0, none⟩), .int .u32 (t : Int)] (by rfl) rfl ?_)
    | ((with_reducible refine gDst 11 ?_); refine aBox H _ rfl rfl rfl ?_; clear H; intro b11 w11 H))
  go_ret
  exact ⟨_, rfl, H⟩
end Go.Proofs.YticfcelbnkiopaaDoor

namespace Go.Proofs.YticfcelbnkiopaaDoor
set_option maxRecDepth 100000
open Go.RowKit
set_option linter.unusedSimpArgs false
set_option linter.unusedVariables false

/-- A word of a map. -/
def wrd (u : List Bool) (k : Nat) : UInt64 := UInt64.ofNat (bitN (fun j => u.getD (64 * k + j) false) 64)
def wL (u : List Bool) : List UInt64 := (List.range 8).map (wrd u)
theorem wL_len (u : List Bool) : (wL u).length = 8 := by simp [wL]
theorem wL_get (u : List Bool) (k : Nat) (h : k < 8) : (wL u).getD k 0 = wrd u k := by
  rw [wL, List.getD_eq_getElem?_getD, List.getElem?_map, List.getElem?_range h]; rfl
theorem wrd_nat (u : List Bool) (k : Nat) : (wrd u k).toNat = bitN (fun j => u.getD (64 * k + j) false) 64 := by
  rw [wrd, UInt64.toNat_ofNat', Nat.mod_eq_of_lt (bitN_lt _ 64)]
theorem wrd_bit (u : List Bool) (k j : Nat) (h : j < 64) : (wrd u k).toNat.testBit j = u.getD (64 * k + j) false := by
  rw [wrd_nat, bitN_test]; simp [h]
theorem u64_ext {a b : UInt64} (h : ∀ j, j < 64 → a.toNat.testBit j = b.toNat.testBit j) : a = b := by
  refine UInt64.toNat_inj.1 (Nat.eq_of_testBit_eq fun j => ?_)
  by_cases hj : j < 64
  · exact h j hj
  · rw [Nat.testBit_lt_two_pow (Nat.lt_of_lt_of_le (UInt64.toNat_lt a) (Nat.pow_le_pow_right (by decide) (by omega : 64 ≤ j))), Nat.testBit_lt_two_pow (Nat.lt_of_lt_of_le (UInt64.toNat_lt b) (Nat.pow_le_pow_right (by decide) (by omega : 64 ≤ j)))]
theorem getD_setB (u : List Bool) (i j : Nat) (b : Bool) (h : i < u.length) : (u.set i b).getD j false = if i = j then b else u.getD j false := by
  rw [List.getD_eq_getElem?_getD, List.getElem?_set]
  by_cases e : i = j
  · rw [if_pos e, if_pos e, if_pos h]; rfl
  · rw [if_neg e, if_neg e, ← List.getD_eq_getElem?_getD]
/-- A sector's bit, set. -/
theorem setU_wL (u : List Bool) (i : Nat) (h : i < u.length) (h2 : i < 512) : setU (wL u) i = wL (u.set i true) := by
  refine List.ext_getElem? fun k => ?_
  by_cases hk : k < 8
  · have hl : k < (setU (wL u) i).length := by rw [setU_len, wL_len]; exact hk
    have hl2 : k < (wL (u.set i true)).length := by rw [wL_len]; exact hk
    have e1 : (setU (wL u) i)[k]? = some ((setU (wL u) i).getD k 0) := by rw [List.getD_eq_getElem?_getD, List.getElem?_eq_getElem hl]; rfl
    have e2 : (wL (u.set i true))[k]? = some ((wL (u.set i true)).getD k 0) := by rw [List.getD_eq_getElem?_getD, List.getElem?_eq_getElem hl2]; rfl
    rw [e1, e2, wL_get _ _ hk]
    congr 1
    have hq : i / 64 < (wL u).length := by rw [wL_len]; omega
    by_cases e : i / 64 = k
    · subst e
      rw [setU, List.getD_eq_getElem?_getD, List.getElem?_set_self hq, Option.getD_some, wL_get _ _ (by omega)]
      refine u64_ext fun j hj => ?_
      rw [UInt64.toNat_or, Nat.testBit_or, wrd_bit _ _ _ hj, wrd_bit _ _ _ hj, getD_setB _ _ _ _ h, bit64_nat _ (by omega), Nat.testBit_two_pow]
      by_cases e2 : i = 64 * (i / 64) + j
      · rw [if_pos e2]
        have : i % 64 = j := by omega
        simp [this]
      · rw [if_neg e2]
        have : ¬ i % 64 = j := by omega
        simp [this]
    · rw [setU, List.getD_eq_getElem?_getD, List.getElem?_set_ne e, ← List.getD_eq_getElem?_getD, wL_get _ _ hk]
      refine u64_ext fun j hj => ?_
      rw [wrd_bit _ _ _ hj, wrd_bit _ _ _ hj, getD_setB _ _ _ _ h, if_neg (by omega)]
  · rw [List.getElem?_eq_none (by rw [setU_len, wL_len]; omega), List.getElem?_eq_none (by rw [wL_len]; omega)]
/-- A sector's bit, cleared. -/
def clrU (us : List UInt64) (i : Nat) : List UInt64 := us.set (i / 64) (us.getD (i / 64) 0 &&& ~~~ (bit64 (i % 64)))
theorem not64_bit (x : UInt64) (j : Nat) (h : j < 64) : (~~~ x).toNat.testBit j = !x.toNat.testBit j := by
  have : (~~~ x).toBitVec.getLsbD j = (!x.toBitVec.getLsbD j) := by
    rw [UInt64.toBitVec_not, BitVec.getLsbD_not]; simp [h]
  exact this
theorem clrU_wL (u : List Bool) (i : Nat) (h : i < u.length) (h2 : i < 512) : clrU (wL u) i = wL (u.set i false) := by
  refine List.ext_getElem? fun k => ?_
  have cl : (clrU (wL u) i).length = 8 := by rw [clrU, List.length_set, wL_len]
  by_cases hk : k < 8
  · have hl : k < (clrU (wL u) i).length := by rw [cl]; exact hk
    have hl2 : k < (wL (u.set i false)).length := by rw [wL_len]; exact hk
    have e1 : (clrU (wL u) i)[k]? = some ((clrU (wL u) i).getD k 0) := by rw [List.getD_eq_getElem?_getD, List.getElem?_eq_getElem hl]; rfl
    have e2 : (wL (u.set i false))[k]? = some ((wL (u.set i false)).getD k 0) := by rw [List.getD_eq_getElem?_getD, List.getElem?_eq_getElem hl2]; rfl
    rw [e1, e2, wL_get _ _ hk]
    congr 1
    have hq : i / 64 < (wL u).length := by rw [wL_len]; omega
    by_cases e : i / 64 = k
    · subst e
      rw [clrU, List.getD_eq_getElem?_getD, List.getElem?_set_self hq, Option.getD_some, wL_get _ _ (by omega)]
      refine u64_ext fun j hj => ?_
      rw [UInt64.toNat_and, Nat.testBit_and, wrd_bit _ _ _ hj, not64_bit _ _ hj, wrd_bit _ _ _ hj, getD_setB _ _ _ _ h, bit64_nat _ (by omega), Nat.testBit_two_pow]
      by_cases e2 : i = 64 * (i / 64) + j
      · rw [if_pos e2]
        have : i % 64 = j := by omega
        simp [this]
      · rw [if_neg e2]
        have : ¬ i % 64 = j := by omega
        simp [this]
    · rw [clrU, List.getD_eq_getElem?_getD, List.getElem?_set_ne e, ← List.getD_eq_getElem?_getD, wL_get _ _ hk]
      refine u64_ext fun j hj => ?_
      rw [wrd_bit _ _ _ hj, wrd_bit _ _ _ hj, getD_setB _ _ _ _ h, if_neg (by omega)]
  · rw [List.getElem?_eq_none (by rw [cl]; omega), List.getElem?_eq_none (by rw [wL_len]; omega)]
/-- An empty map. -/
def freshU (n : Nat) : List Bool := ((((List.replicate n false).set 0 true).set 1 true).set 2 true).set 3 true
theorem freshU_len (n : Nat) : (freshU n).length = n := by simp [freshU]
theorem wL_false (n : Nat) : wL (List.replicate n false) = List.replicate 8 0 := by
  refine List.ext_getElem? fun k => ?_
  by_cases hk : k < 8
  · have e1 : (wL (List.replicate n false))[k]? = some (wrd (List.replicate n false) k) := by rw [wL, List.getElem?_map, List.getElem?_range hk]; rfl
    rw [e1, List.getElem?_replicate, if_pos hk]
    congr 1
    refine u64_ext fun j hj => ?_
    rw [wrd_bit _ _ _ hj, List.getD_eq_getElem?_getD, List.getElem?_replicate]
    split <;> simp
  · rw [List.getElem?_eq_none (by rw [wL_len]; omega), List.getElem?_eq_none (by simp; omega)]
theorem usK_wL (n : Nat) (h : 16 ≤ n) : usK 4 = wL (freshU n) := by
  have e0 : usK 0 = wL (List.replicate n false) := (wL_false n).symm
  rw [← usK_step 3, ← usK_step 2, ← usK_step 1, ← usK_step 0, e0, setU_wL _ 0 (by simp; omega) (by decide), setU_wL _ 1 (by simp; omega) (by decide), setU_wL _ 2 (by simp; omega) (by decide), setU_wL _ 3 (by simp; omega) (by decide)]
  rfl
/-- How many are not used. -/
def freeN (u : List Bool) : Nat := (u.filter (! ·)).length
def cntK (u : List Bool) (k : Nat) : Nat := cntN (fun j => u.getD j false) k
theorem cntK_all : ∀ (u : List Bool) (k : Nat), u.length ≤ k → cntK u k + freeN u = u.length := by
  have key : ∀ (u : List Bool), cntK u u.length + freeN u = u.length := fun u => by
    induction u with
    | nil => rfl
    | cons b u ih =>
      have e : cntK (b :: u) (1 + u.length) = (if b = true then 1 else 0) + cntK u u.length := by
        rw [cntK, cntN_add]
        have e1 : cntN (fun j => (b :: u).getD j false) 1 = if b = true then 1 else 0 := by
          show 0 + _ = _
          rw [Nat.zero_add]; rfl
        have e2 : (fun j => (fun j => (b :: u).getD j false) (1 + j)) = fun j => u.getD j false := by
          funext j
          show (b :: u).getD (1 + j) false = _
          rw [Nat.add_comm, List.getD_cons_succ]
        rw [e1, e2, cntK]
      rw [List.length_cons, Nat.add_comm u.length 1, e, freeN, List.filter_cons]
      change _ = 1 + u.length
      unfold freeN at ih
      cases b <;> simp <;> omega
  intro u k hk
  obtain ⟨d, rfl⟩ : ∃ d, k = u.length + d := ⟨k - u.length, by omega⟩
  have e : ∀ d, cntK u (u.length + d) = cntK u u.length := fun d => by
    induction d with
    | zero => rfl
    | succ d ih =>
      have e3 : cntK u (u.length + (d + 1)) = cntK u (u.length + d) + (if u.getD (u.length + d) false = true then 1 else 0) := rfl
      rw [e3, ih, List.getD_eq_getElem?_getD, List.getElem?_eq_none (by omega)]; simp
  rw [e d]
  exact key u
theorem cntK_word (u : List Bool) (k : Nat) : cntK u (64 * (k + 1)) = cntK u (64 * k) + cntN (fun j => u.getD (64 * k + j) false) 64 := by
  rw [cntK, Nat.mul_add, Nat.mul_one, cntN_add]; rfl
/-- The lowest one that is not used. -/
def lowF (u : List Bool) : Nat := u.findIdx (! ·)
theorem lowF_spec (u : List Bool) (h : 0 < freeN u) : lowF u < u.length ∧ u.getD (lowF u) false = false ∧ ∀ j, j < lowF u → u.getD j false = true := by
  have hx : ∃ x ∈ u, (!x) = true := by
    have : u.filter (! ·) ≠ [] := fun e => by rw [freeN, e] at h; simp at h
    obtain ⟨x, hx⟩ := List.exists_mem_of_ne_nil _ this
    rw [List.mem_filter] at hx
    exact ⟨x, hx.1, hx.2⟩
  have h1 : lowF u < u.length := List.findIdx_lt_length.2 hx
  refine ⟨h1, ?_, fun j hj => ?_⟩
  · have := List.findIdx_getElem (p := (! ·)) (xs := u) (w := h1)
    rw [List.getD_eq_getElem?_getD, List.getElem?_eq_getElem h1]
    change (!u[lowF u]) = true at this
    simpa using this
  · have := List.not_of_lt_findIdx (p := (! ·)) (xs := u) hj
    rw [List.getD_eq_getElem?_getD, List.getElem?_eq_getElem (by omega)]
    simpa using this
theorem freeN_set (u : List Bool) (i : Nat) (h : i < u.length) (h2 : u.getD i false = false) : freeN (u.set i true) + 1 = freeN u := by
  induction u generalizing i with
  | nil => simp at h
  | cons x u ih =>
    cases i with
    | zero =>
      have hx : x = false := h2
      subst hx
      simp [freeN]
    | succ i =>
      have := ih i (by simpa using h) h2
      rw [List.set_cons_succ]
      unfold freeN at *
      rw [List.filter_cons, List.filter_cons]
      cases x <;> simp <;> omega
/-- Some of the lowest, taken. -/
def takeU : List Bool → Nat → List Nat × List Bool
  | u, 0 => ([], u)
  | u, k + 1 => (lowF u :: (takeU (u.set (lowF u) true) k).1, (takeU (u.set (lowF u) true) k).2)
theorem takeU_len (u : List Bool) : ∀ k, (takeU u k).1.length = k ∧ (takeU u k).2.length = u.length := fun k => by
  induction k generalizing u with
  | zero => exact ⟨rfl, rfl⟩
  | succ k ih =>
    have := ih (u.set (lowF u) true)
    rw [takeU]
    simp only [List.length_cons, this.1, this.2, List.length_set, and_self]
/-- The words below the lowest one that is not used are full; its own is not. -/
theorem low_words (u : List Bool) (i : Nat) (hi : i < 512) (h0 : u.getD i false = false) (h1 : ∀ j, j < i → u.getD j false = true) :
    (∀ k, k < i / 64 → ~~~ (wrd u k) = 0) ∧ (~~~ (wrd u (i / 64))) &&& (0 - ~~~ (wrd u (i / 64))) = UInt64.ofNat (2 ^ (i % 64)) ∧ ~~~ (wrd u (i / 64)) ≠ 0 := by
  have hb : (~~~ (wrd u (i / 64))).toNat.testBit (i % 64) = true := by
    rw [not64_bit _ _ (by omega), wrd_bit _ _ _ (by omega), show 64 * (i / 64) + i % 64 = i by omega, h0]; rfl
  refine ⟨fun k hk => u64_ext fun j hj => ?_, low_bit _ _ (by omega) hb (fun j hj => ?_), fun h => ?_⟩
  · rw [not64_bit _ _ hj, wrd_bit _ _ _ hj, h1 _ (by omega)]; simp
  · rw [not64_bit _ _ (by omega), wrd_bit _ _ _ (by omega), h1 _ (by omega)]; rfl
  · rw [h] at hb; simp at hb
end Go.Proofs.YticfcelbnkiopaaDoor

/- Numbers written in sevens: what is put, what is taken. Plain lists. -/
namespace Go.Proofs.YticfcelbnkiopaaDoor
set_option maxRecDepth 100000

/-- The bytes of a short number. -/
def putL (n : Nat) : List UInt8 := if n < 128 then [UInt8.ofNat n] else UInt8.ofNat (n % 128 + 128) :: putL (n / 128)
termination_by n
def W64 (n : Nat) : Prop := n < 18446744073709551616
theorem putL_len (k : Nat) : ∀ n, n < 128 ^ (k + 1) → (putL n).length ≤ k + 1 := by
  induction k with
  | zero => intro n h; rw [putL, if_pos (by omega)]; simp
  | succ k ih =>
    intro n h
    rw [putL]
    split
    · simp
    · have := ih (n / 128) (by rw [Nat.div_lt_iff_lt_mul (by omega), ← Nat.pow_succ]; exact h)
      simp; omega
theorem putL_len64 (n : Nat) (h : W64 n) : (putL n).length ≤ 10 := putL_len 9 n (by unfold W64 at h; omega)
theorem putL_pos (n : Nat) : 0 < (putL n).length := by
  rw [putL]
  split <;> simp

/-- May the i-th byte, c, be the last one? -/
def shortB (i : Nat) (c : UInt8) : Bool := i == 0 || (c != 0 && (decide (i < 9) || c == 1))

/-- error, number, bytes taken -/
def tkGo : Nat → Nat → Nat → List UInt8 → Nat × Nat × Nat
  | 0, _, _, _ => (3, 0, 0)
  | _ + 1, _, _, [] => (2, 0, 0)
  | f + 1, i, acc, c :: r =>
    if c.toNat < 128 then (if shortB i c then (0, acc + c.toNat * 128 ^ i, i + 1) else (3, 0, 0))
    else tkGo f (i + 1) (acc + (c.toNat % 128) * 128 ^ i) r
def tk (b : List UInt8) : Nat × Nat × Nat := tkGo 10 0 0 b
def tkE (b : List UInt8) : Nat := (tk b).1
def tkN (b : List UInt8) : Nat := (tk b).2.1
def tkR (b : List UInt8) : List UInt8 := if tkE b = 0 then b.drop (tk b).2.2 else []

theorem tkGo_ok (f : Nat) : ∀ i acc b n k, tkGo f i acc b = (0, n, k) → f + i = 10 → acc < 128 ^ i →
    ∃ p r m, b = p ++ r ∧ k = i + p.length ∧ n = acc + m * 128 ^ i ∧ p = putL m ∧ W64 n ∧ (i ≠ 0 → m ≠ 0) := by
  induction f with
  | zero => intro i acc b n k h; simp [tkGo] at h
  | succ f ih =>
    intro i acc b n k h hf ha
    cases b with
    | nil => simp [tkGo] at h
    | cons c r =>
      rw [tkGo] at h
      split at h
      · rename_i hc
        split at h
        · rename_i hs
          simp only [Prod.mk.injEq, true_and] at h
          refine ⟨[c], r, c.toNat, rfl, by simp; omega, by omega, ?_, ?_, ?_⟩
          · rw [putL, if_pos hc]; simp
          · rw [← h.1]
            unfold shortB at hs
            unfold W64
            rcases Nat.lt_or_ge i 9 with h9 | h9
            · have h1 : 128 ^ i ≤ 128 ^ 8 := Nat.pow_le_pow_right (by omega) (by omega)
              have h2 : c.toNat * 128 ^ i ≤ 127 * 128 ^ i := Nat.mul_le_mul_right _ (by omega)
              omega
            · obtain rfl : i = 9 := by omega
              simp at hs
              obtain ⟨_, rfl⟩ := hs
              have : (1 : UInt8).toNat = 1 := rfl
              rw [this]
              omega
          · intro h0
            unfold shortB at hs
            simp [h0] at hs
            intro hz
            exact hs.1 (UInt8.toNat_inj.1 (by simpa using hz))
        · simp at h
      · rename_i hc
        have ha' : acc + c.toNat % 128 * 128 ^ i < 128 ^ (i + 1) := by
          rw [Nat.pow_succ]
          have h2 : c.toNat % 128 * 128 ^ i ≤ 127 * 128 ^ i := Nat.mul_le_mul_right _ (by omega)
          omega
        obtain ⟨p, r', m, rfl, hk, hn, hp, hw, hm⟩ := ih (i + 1) _ r n k h (by omega) ha'
        have hm0 := hm (by omega)
        have hc2 := c.toNat_lt
        refine ⟨c :: p, r', c.toNat % 128 + 128 * m, rfl, by simp; omega, ?_, ?_, hw, fun _ => by omega⟩
        · rw [hn, Nat.pow_succ, Nat.add_mul, Nat.mul_assoc 128 m, Nat.mul_comm 128 (m * 128 ^ i), ← Nat.mul_assoc]; omega
        · rw [putL, if_neg (by omega), hp]
          have e1 : (c.toNat % 128 + 128 * m) / 128 = m := by omega
          have e2 : (c.toNat % 128 + 128 * m) % 128 + 128 = c.toNat := by omega
          rw [e1, e2]
          simp

theorem tk_ok (b : List UInt8) (h : tkE b = 0) : b = putL (tkN b) ++ tkR b ∧ W64 (tkN b) ∧ (tk b).2.2 = (putL (tkN b)).length := by
  have hh : tkGo 10 0 0 b = (0, tkN b, (tk b).2.2) := by
    have : tk b = (tkE b, tkN b, (tk b).2.2) := rfl
    rw [h] at this
    exact this
  obtain ⟨p, r, m, hb, hk, hn, hp, hw, _⟩ := tkGo_ok 10 0 0 b _ _ hh rfl (by simp)
  simp at hn hk
  have hr : tkR b = r := by
    unfold tkR
    rw [if_pos h, hk, hb, List.drop_left]
  rw [hr, hn, ← hp]
  exact ⟨hb, by rw [← hn]; exact hw, hk⟩

theorem tkGo_put (f : Nat) : ∀ i acc m r, f + i = 10 → (i ≠ 0 → m ≠ 0) → acc < 128 ^ i → W64 (acc + m * 128 ^ i) → tkGo f i acc (putL m ++ r) = (0, acc + m * 128 ^ i, i + (putL m).length) := by
  induction f with
  | zero =>
    intro i acc m r hf hm ha hw
    obtain rfl : i = 10 := by omega
    have := hm (by omega)
    unfold W64 at hw
    have h1 : 1 * 128 ^ 10 ≤ m * 128 ^ 10 := Nat.mul_le_mul_right _ (by omega)
    omega
  | succ f ih =>
    intro i acc m r hf hm ha hw
    rw [putL]
    split
    · rename_i h
      have e : (UInt8.ofNat m).toNat = m := by rw [UInt8.toNat_ofNat', Nat.mod_eq_of_lt (by omega)]
      rw [List.cons_append, tkGo, if_pos (by omega), e, if_pos]
      · simp
      · unfold shortB
        by_cases h0 : i = 0
        · simp [h0]
        · have hm0 := hm h0
          have hne : (UInt8.ofNat m != 0) = true := by
            rw [bne_iff_ne]; intro hz; have := congrArg UInt8.toNat hz; rw [e] at this; exact hm0 (by simpa using this)
          by_cases h9 : i < 9
          · simp [h9, hne]
          · obtain rfl : i = 9 := by omega
            have : m = 1 := by
              unfold W64 at hw
              rcases Nat.lt_or_ge m 2 with h2 | h2
              · omega
              · have : 2 * 128 ^ 9 ≤ m * 128 ^ 9 := Nat.mul_le_mul_right _ h2
                omega
            subst this
            simp
    · rename_i h
      have e : (UInt8.ofNat (m % 128 + 128)).toNat = m % 128 + 128 := by rw [UInt8.toNat_ofNat', Nat.mod_eq_of_lt (by omega)]
      have e2 : (m % 128 + 128) % 128 = m % 128 := by omega
      have e3 : acc + m % 128 * 128 ^ i + m / 128 * 128 ^ (i + 1) = acc + m * 128 ^ i := by
        rw [Nat.pow_succ, Nat.mul_comm (128 ^ i) 128, ← Nat.mul_assoc, Nat.add_assoc, ← Nat.add_mul]
        congr 2
        omega
      rw [List.cons_append, tkGo, if_neg (by omega), e, e2, ih (i + 1) _ (m / 128) r (by omega) (fun _ => by omega) ?_ (by rw [e3]; exact hw), e3]
      · simp; omega
      · rw [Nat.pow_succ]
        have h2 : m % 128 * 128 ^ i ≤ 127 * 128 ^ i := Nat.mul_le_mul_right _ (by omega)
        omega

theorem tk_put (n : Nat) (r : List UInt8) (h : W64 n) : tk (putL n ++ r) = (0, n, (putL n).length) := by
  have := tkGo_put 10 0 0 n r rfl (fun h => absurd rfl h) (by simp) (by simpa using h)
  simpa [tk] using this
theorem tk_put_E (n : Nat) (r : List UInt8) (h : W64 n) : tkE (putL n ++ r) = 0 := by unfold tkE; rw [tk_put n r h]
theorem tk_put_N (n : Nat) (r : List UInt8) (h : W64 n) : tkN (putL n ++ r) = n := by unfold tkN; rw [tk_put n r h]
theorem tk_put_R (n : Nat) (r : List UInt8) (h : W64 n) : tkR (putL n ++ r) = r := by unfold tkR; rw [if_pos (tk_put_E n r h), tk_put n r h, List.drop_left]
theorem tk_bad (b : List UInt8) (h : tkE b ≠ 0) : tkN b = 0 ∧ tkR b = [] := by
  refine ⟨?_, by unfold tkR; rw [if_neg h]⟩
  have key : ∀ f i acc b, (tkGo f i acc b).1 ≠ 0 → (tkGo f i acc b).2.1 = 0 := by
    intro f
    induction f with
    | zero => intro i acc b _; rfl
    | succ f ih =>
      intro i acc b hb
      cases b with
      | nil => rfl
      | cons c r =>
        rw [tkGo] at hb ⊢
        split
        · rename_i hc
          rw [if_pos hc] at hb
          split
          · rename_i hs; rw [if_pos hs] at hb; simp at hb
          · rfl
        · rename_i hc
          rw [if_neg hc] at hb
          exact ih _ _ _ hb
  exact key 10 0 0 b h

/-- The bytes of a whole number. -/
def put32L (n : Nat) : List UInt8 := [UInt8.ofNat n, UInt8.ofNat (n / 256), UInt8.ofNat (n / 65536), UInt8.ofNat (n / 16777216)]
/-- Four bytes as a whole number. -/
def get32 (b : List UInt8) : Nat := (b.getD 0 0).toNat + (b.getD 1 0).toNat * 256 + (b.getD 2 0).toNat * 65536 + (b.getD 3 0).toNat * 16777216
theorem get32_lt (b : List UInt8) : get32 b < 4294967296 := by
  unfold get32
  have h0 := (b.getD 0 0).toNat_lt
  have h1 := (b.getD 1 0).toNat_lt
  have h2 := (b.getD 2 0).toNat_lt
  have h3 := (b.getD 3 0).toNat_lt
  omega
theorem get32_put (n : Nat) (r : List UInt8) (h : n < 4294967296) : get32 (put32L n ++ r) = n := by
  simp [get32, put32L, UInt8.toNat_ofNat']
  omega
theorem put32_get (b : List UInt8) (h : 4 ≤ b.length) : put32L (get32 b) ++ b.drop 4 = b := by
  match b, h with
  | a :: c :: d :: e :: r, _ =>
    have ha := a.toNat_lt
    have hc := c.toNat_lt
    have hd := d.toNat_lt
    have he := e.toNat_lt
    simp only [put32L, get32, List.getD_cons_zero, List.getD_cons_succ, List.drop_succ_cons, List.drop_zero, List.cons_append, List.nil_append, List.cons.injEq, and_true]
    refine ⟨?_, ?_, ?_, ?_⟩ <;> apply UInt8.toNat_inj.1 <;> rw [UInt8.toNat_ofNat'] <;> omega
/-- A string taken: the error, the string, what is left. -/
def tsE (b : List UInt8) (most : Int) : Nat := if tkE b ≠ 0 then tkE b else if most < 0 ∨ most < (tkN b : Int) then 4 else if tkN b ≤ (tkR b).length then 0 else 2
def tsS (b : List UInt8) (most : Int) : List UInt8 := if tsE b most = 0 then (tkR b).take (tkN b) else []
def tsR (b : List UInt8) (most : Int) : List UInt8 := if tsE b most = 0 then (tkR b).drop (tkN b) else []
theorem ts_ok (b : List UInt8) (most : Int) (h : tsE b most = 0) : putL (tsS b most).length ++ tsS b most ++ tsR b most = b := by
  unfold tsS tsR
  rw [if_pos h, if_pos h]
  unfold tsE at h
  by_cases h1 : tkE b = 0
  · rw [if_neg (by simp [h1])] at h
    split at h
    · cases h
    · split at h
      · rename_i h3
        rw [List.length_take, Nat.min_eq_left h3, List.append_assoc, List.take_append_drop]
        exact (tk_ok b h1).1.symm
      · cases h
  · rw [if_pos h1] at h
    exact absurd h h1
theorem ts_put (s r : List UInt8) (most : Int) (h : (s.length : Int) ≤ most) (hw : W64 s.length) : tsE (putL s.length ++ (s ++ r)) most = 0 ∧ tsS (putL s.length ++ (s ++ r)) most = s ∧ tsR (putL s.length ++ (s ++ r)) most = r := by
  have hE : tsE (putL s.length ++ (s ++ r)) most = 0 := by
    unfold tsE
    rw [tk_put_E _ _ hw, tk_put_N _ _ hw, tk_put_R _ _ hw, if_neg (by simp), if_neg (by omega), if_pos (by simp)]
  refine ⟨hE, ?_, ?_⟩
  · unfold tsS; rw [if_pos hE, tk_put_N _ _ hw, tk_put_R _ _ hw, List.take_left]
  · unfold tsR; rw [if_pos hE, tk_put_N _ _ hw, tk_put_R _ _ hw, List.drop_left]
end Go.Proofs.YticfcelbnkiopaaDoor

namespace Go.Proofs.YticfcelbnkiopaaDoor
set_option maxRecDepth 100000
open Go.RowKit

theorem hid_out {p : Prop} (h : Go.RowKit.Hid p) : p := h
set_option maxHeartbeats 400000 in
theorem grown_any (v : Value) (xs : List UInt8) (room : Nat) (w : World) (hv : RB w v xs) (hl : xs.length ≤ 16777216) (hr : room ≤ 100) :
    Calls Tryd.prog 124 #[v, .int .i64 (room : Int)] w fun e w' => ∃ v', e = .returned v' ∧ OB w' w.heap.size v' xs ∧ Below w.heap.size w w' := by
  obtain ⟨A, c, rfl, hc, hm, hcell⟩ := hv
  obtain ⟨i0, hi, hz0, hz1, hz2⟩ := info_parts Tryd.info_u8
  have hmk : (Instr.makeSlice 22 (.int .i64 (xs.length : Int)) (.int .i64 ((xs.length : Int) + (room : Int)))).run Tryd.prog w = .ok (.slice (some ⟨w.heap.size, 0, none⟩) xs.length (xs.length + room)) (w.alloc (.cells (madeCells #[.int .u8 0] (xs.length + room)) 5)) := by
    have h := run_make (P := Tryd.prog) w 22 5 i0 (.int .u8 0) Tryd.underlying22 hi hz0 .i64 .i64 (xs.length : Int) ((xs.length : Int) + (room : Int)) (by omega) (by omega) (by rw [hz2]; omega) (by omega)
    have e1 : ((xs.length : Int)).toNat = xs.length := by omega
    have e2 : ((xs.length : Int) + (room : Int)).toNat = xs.length + room := by omega
    rw [e1, e2, hz1, Nat.mul_one] at h
    exact h
  have hcs : ((B8).all xs).length = Nat.min xs.length xs.length := by rw [Ty.all_length]; simp [show B8.sz = 1 from rfl]
  have HK : Go.RowKit.Hid ((madeCells #[.int .u8 0] (xs.length + room)).toList = List.replicate (xs.length + room) (.int .u8 0)) := toList_madeCells_one _ _
  have HG : Go.RowKit.Hid ((w.alloc (.cells (madeCells #[.int .u8 0] (xs.length + room)) 5)).heap[w.heap.size]? = some (.cells (List.replicate (xs.length + room) (.int .u8 0)).toArray 5 (0, 0))) := by
    show _ = _
    rw [heap_alloc_new, ← toList_madeCells_one]
  have HS : Go.RowKit.Hid (0 < ((B8).all xs).length → (some ⟨w.heap.size, 0, none⟩ : Option Addr) = some ⟨w.heap.size, 0, none⟩ ∧ ∃ ad, A = some ad ∧ ∀ j v, ((B8).all xs)[j]? = some v → (w.alloc (.cells (madeCells #[.int .u8 0] (xs.length + room)) 5)).cell? (ad.add j) = some v) := by
    intro hp
    rw [Ty.all_length] at hp; simp only [show B8.sz = 1 from rfl, Nat.mul_one] at hp
    obtain ⟨ad, rfl, hcc⟩ := hcell hp
    exact ⟨rfl, ad, rfl, fun j u hu => cell_below ((Below.refl _ _).alloc (Nat.le_refl _) _) (hcc j u hu)⟩
  have HF : 0 + ((B8).all xs).length ≤ (List.replicate (xs.length + room) (Value.int .u8 0)).length := by rw [Ty.all_length]; simp [show B8.sz = 1 from rfl]
  have HO : ∀ u ∈ B8.all xs, u.oneCell' = true := Ty.all_oneCell xs
  have HL : (B8.all xs).length = xs.length := by rw [Ty.all_length]; simp [show B8.sz = 1 from rfl]
  have HL' := Lib.hid HL
  clear HL
  go_enter Tryd.func124, Tryd.ntmps124
  go_wp2_with (refine wpList_copy_splice rfl (.tmp 13) (.tmp 14) _ _ rfl 5 Tryd.underlying22 (by kernel_rfl) _ _ _ _ _ _ rfl rfl w.heap.size 0 (List.replicate (xs.length + room) (.int .u8 0)) 5 (by exact HG.out) ((B8).all xs) hcs (by exact HS.out) (by exact HF) (by exact HO) w.heap.size w (by exact (Below.refl _ _).alloc (Nat.le_refl _) _) (Nat.le_refl _) ?_; intro w1 hg1 hb1)
  go_ret
  refine ⟨_, rfl, ⟨?_, .inr ⟨w.heap.size, xs.length + room, _, rfl, Nat.le_refl _, hg1.out, by omega, by simp [maxLen]; omega, ?_, ?_⟩⟩, hb1⟩
  · rw [Ty.all_length]
  · rw [List.size_toArray, length_splice _ _ _ (by rw [HL'.out]; simp)]; simp [show B8.sz = 1 from rfl]
  · simp [splice, show B8.sz = 1 from rfl, HL'.out]

theorem drewB {B : Nat} {w w1 : World} (h : Below B w w1) : Below B w w1.drew := h.drew
theorem RB.drew {w : World} {v : Value} {xs : List UInt8} (h : RB w v xs) : RB w.drew v xs := h.below (Below.refl _ _).drew
theorem OB.drew {w : World} {base : Nat} {v : Value} {xs : List UInt8} (h : OB w base v xs) : OB w.drew base v xs := OR.below h (Below.refl _ _).drew

set_option maxHeartbeats 400000 in
theorem Clone_any (v : Value) (xs : List UInt8) (w : World) (hv : RB w v xs) (hl : xs.length ≤ 1000000000) :
    Calls Tryd.prog 74 #[v] w fun e w' => ∃ v', e = .returned v' ∧ OB w' w.heap.size v' xs ∧ Below w.heap.size w w' := by
  have hq := fun (w : World) (a : Option Addr) (n c n2 c2 : Nat) => Lib.run_eql_slice_nil (P := Tryd.prog) w 22 5 a n c n2 c2 Tryd.underlying22
  obtain ⟨A, c, rfl, hc, hm, hcell⟩ := id hv
  cases A with
  | none =>
    have h0 : xs.length = 0 := by
      rcases Nat.eq_zero_or_pos xs.length with h | h
      · exact h
      · obtain ⟨ad, h, _⟩ := hcell h; cases h
    obtain rfl := List.eq_nil_of_length_eq_zero h0
    go_enter Tryd.func74, Tryd.ntmps74
    go_wp2
    go_ret
    exact ⟨_, rfl, OR.nil _ _, Below.refl _ _⟩
  | some ad =>
    clear hcell
    have hb1 : Below w.heap.size w (w.alloc (.cells #[] 5)) := (Below.refl _ _).alloc (Nat.le_refl _) _
    have ho1 : OB (w.alloc (.cells #[] 5)) w.heap.size (.slice (some ⟨w.heap.size, 0, none⟩) 0 0) [] := OB.lit w w.heap.size [] #[] rfl (Nat.le_refl _) (by simp)
    have hr1 := hv.below hb1
    go_enter Tryd.func74, Tryd.ntmps74
    go_wp2_with (at_builtin; refine appBs w.heap.size (.tmp 5) (.tmp 6) _ _ [] xs ho1 hr1 hb1 (by simp) (by simp) hl rfl rfl rfl rfl ?_; intro v2 w2 ho2 hb2 hg2 hat2 hs2)
    go_ret
    exact ⟨_, rfl, by simpa using ho2, hb2⟩

set_option maxHeartbeats 400000 in
theorem Put32_any (v : Value) (xs : List UInt8) (n : Nat) (w : World) (hv : RB w v xs) (hl : xs.length ≤ 16777216) (hn : n < 4294967296) :
    Calls Tryd.prog 85 #[v, .int .u32 (n : Int)] w fun e w' => ∃ v', e = .returned v' ∧ OB w' w.heap.size v' (xs ++ put32L n) ∧ Below w.heap.size w w' := by
  have hl' : xs.length ≤ 1000000000 := by omega
  go_enter Tryd.func85, Tryd.ntmps85
  go_wp2_with (first
    | (go_at_call 124; refine (grown_any v xs 4 _ hv hl (by omega)).mono ?_; rintro e w1 ⟨v1, rfl, ho1, hb1⟩)
    | (at_builtin; go_loud (refine appBs w.heap.size (.tmp 6) (.tmp 18) _ _ xs (put32L n) (OR.below ho1 ((Below.refl _ _).alloc (Nat.le_refl _) _)) (OB.lit _ 0 (put32L n) _ (by simp [put32L]; omega) (Nat.zero_le _) (by simp [put32L])).reads (hb1.alloc hb1.size _) (by simp; exact Nat.le_succ_of_le hb1.size) hl' (by simp [put32L]) rfl rfl rfl rfl ?_); intro v2 w2 ho2 hb2 hg2 hat2 hs2))
  go_ret
  exact ⟨_, rfl, ho2, hb2⟩

theorem W64_len {xs : List UInt8} (h : xs.length ≤ 16777216) : W64 xs.length := by unfold W64; omega

set_option maxHeartbeats 400000 in
theorem TakeBytes_any (v : Value) (xs : List UInt8) (n : Int) (w : World) (hv : RB w v xs) (hl : xs.length ≤ 1000000000) :
    Calls Tryd.prog 131 #[v, .int .i64 n] w fun e w' => ∃ v1 v2, e = .returned (.tuple #[v1, v2, .int .i64 (if n < 0 then 1 else if n ≤ xs.length then 0 else 2)]) ∧
      OB w' w.heap.size v1 (if n < 0 then [] else if n ≤ xs.length then xs.take n.toNat else []) ∧ OB w' w.heap.size v2 (if n < 0 then [] else if n ≤ xs.length then xs.drop n.toNat else []) ∧ (v1.ownBlock = none ∨ v1.ownBlock ≠ v2.ownBlock) ∧ Below w.heap.size w w' := by
  obtain ⟨A, c, rfl, hc⟩ := hv.len
  by_cases h0 : n < 0
  · rw [if_pos h0, if_pos h0, if_pos h0]
    go_enter Tryd.func131, Tryd.ntmps131
    go_wp2
    go_ret3
    exact ⟨_, _, rfl, OR.nil _ _, OR.nil _ _, (.inl rfl), Below.refl _ _⟩
  · rw [if_neg h0, if_neg h0, if_neg h0]
    have h0' : 0 ≤ n := by omega
    by_cases h1 : n ≤ xs.length
    · rw [if_pos h1, if_pos h1, if_pos h1]
      obtain ⟨m, rfl⟩ := Int.eq_ofNat_of_zero_le h0'
      have hm : m ≤ xs.length := by omega
      obtain ⟨A1, hcut1, hcut2, hcut3, hr1⟩ := cutB A c xs 0 m (by omega) hm hc
      obtain ⟨A2, hcut4, hcut5, hcut6, hr2⟩ := cutB A c xs m xs.length hm (Nat.le_refl _) hc
      have hk1 := fun W => hcut3 .i64 W rfl
      have hk2 := fun W => hcut5 .i64 W rfl
      have hq1 := hr1 w hv
      have hq2 := hr2 w hv
      simp only [Nat.sub_zero, List.drop_zero] at hq1
      rw [List.take_of_length_le (Nat.le_refl _)] at hq2
      clear hcut1 hcut2 hcut3 hcut4 hcut5 hcut6 hr1 hr2
      go_enter Tryd.func131, Tryd.ntmps131
      go_wp2
      go_region_held3 (fun _ => True) (trivial) (first
        | (go_at_call 74; refine (Clone_any _ (xs.take m) _ (RB.drew hq1) (by simp; omega)).mono ?_; rintro e w1 ⟨v1, rfl, ho1, hb1⟩)
        | (go_at_call 74; refine (Clone_any _ (xs.drop m) _ ((RB.drew hq2).below hb1) (by simp; omega)).mono ?_; rintro e w2 ⟨v2, rfl, ho2, hb2⟩)
        | fail)
      go_wp2
      go_ret3
      exact ⟨v1, v2, rfl, OR.below ho1 hb2, OR.lower ho2 hb1.size, OR.apart ho1 ho2, below_two (drewB (Below.refl _ _) |>.trans hb1) hb1.size hb2⟩
    · rw [if_neg h1, if_neg h1, if_neg h1]
      have h1' : (xs.length : Int) < n := by omega
      go_enter Tryd.func131, Tryd.ntmps131
      go_wp2
      go_ret3
      exact ⟨_, _, rfl, OR.nil _ _, OR.nil _ _, (.inl rfl), Below.refl _ _⟩

end Go.Proofs.YticfcelbnkiopaaDoor

namespace Go.Proofs.YticfcelbnkiopaaDoor
set_option maxRecDepth 100000
open Go.RowKit
set_option linter.unusedSimpArgs false
set_option linter.unusedVariables false

theorem rangeFunc_none {P : Program} {g : Operand} {gf : Nat} {recv : Array Value} {ps : Array Tmp} {assign body : Code} {Q : Exit → Act → World → Prop} {a : Act} {w : World} (hg : a.eval g = .func (.func gf) recv #[])
    (eg : ∀ args w, (callFunc gf args).run P w = .ok (.enter gf args) w)
    (hc : ∀ (l : Nat) (W : World), Below w.heap.size w W → Calls P gf (recv ++ #[.func (.yield l) #[] #[]]) W fun e W' => (∃ v, e = .returned v) ∧ W = W')
    (hd : ∀ (D : Nat) (W : World), w.heap.size ≤ D → Below w.heap.size w W → W.heap[D]? = some (.deferred (some [])) → Q .normal { a with defers := { target := .collected D, args := #[] } :: a.defers } W) :
    (Code.rangeFunc g ps assign body).wp P Q a w := by
  refine (wpIn_wide (n := 1)).1 (wpIn_rangeFunc ?_)
  intro fn hfn
  obtain ⟨rec, hrec⟩ : ∃ rec : LoopState → Option Code → Loop, rec = fun st pe => { state := st, pending := pe, fn, tmps := a.tmps, params := ps, assign, body, defers := w.heap.size } := ⟨_, rfl⟩
  obtain ⟨W1, hW1⟩ : ∃ W1, (w.alloc (.deferred (some []))).alloc (.loop (rec .ready none)) = W1 := ⟨_, rfl⟩
  have hb1 : Below w.heap.size w W1 := by rw [← hW1]; exact ((Below.refl _ w).alloc (Nat.le_refl _) _).alloc (by simp) _
  have hL1 : W1.heap[w.heap.size + 1]? = some (.loop (rec .ready none)) := by
    rw [← hW1]; have := World.alloc_heap_new (w.alloc (.deferred (some []))) (.loop (rec .ready none)); rwa [World.size_alloc] at this
  have hK1 : W1.heap[w.heap.size]? = some (.deferred (some [])) := by
    rw [← hW1]; exact (Below.heap_alloc _ _ _ (by simp)).trans (World.alloc_heap_new w _)
  refine ⟨w.heap.size + 1, [{ target := .collected w.heap.size, args := #[] }], W1, { target := .fn (.func gf) #[], args := recv ++ #[.func (.yield (w.heap.size + 1)) #[] #[]] }, W1, gf,
    recv ++ #[.func (.yield (w.heap.size + 1)) #[] #[]], W1, ?_, ?_, ?_, ?_, fun _ => Nat.le_refl _, ?_⟩
  · rw [← hW1, hrec]; exact run_enterLoop_outer _ _ _ _ _
  · simp only [resolve, hg]
    simp [go_sem]
  · intro f' hf'; trivial
  · simp [invoke, go_sem, eg]
  · refine (callsIn_wide.2 (hc _ W1 hb1)).mono ?_
    rintro e W2 ⟨⟨v, rfl⟩, rfl⟩
    refine ⟨none, _, by have := run_endLoop (P := P) hL1 (by rw [hrec]; simp); rw [hrec] at this; exact this, hd _ _ (Nat.le_refl _) ?_ ((World.putObj_heap_other (by omega)).trans hK1)⟩
    exact hb1.trans (belowK_b (w := w) (Nat.le_refl _) _ _ _ _ (by omega) hL1 rfl rfl)
/-- An object that is no row of cells. -/
def Own.obj (D : Nat) (o : Obj) : Own where
  foot k := k = D
  holds w := w.heap[D]? = some o
  lt w k h e := by subst e; exact (Array.getElem?_eq_some_iff.1 h).1
  keep w w' h _ hk := (hk D rfl).trans h
theorem SH.setObj {F : Nat → Prop} {w0 w : World} {L : List Own} (h : SH F w0 w L) (i : Nat) {D : Nat} {o : Obj} (hi : L[i]? = some (.obj D o)) (o' : Obj) : SH F w0 (w.putObj D o') (L.set i (.obj D o')) := by
  have hl : w.heap[D]? = some o := h.at_ i hi
  refine h.change i hi (o' := .obj D o') ?_ (World.putObj_heap_same (Array.getElem?_eq_some_iff.1 hl).1) (fun k hk => .inl hk)
  have := chg_grown (grownBy_putObj' w D o')
  exact ⟨this.os, this.tape, this.output, this.size, fun k hk hn => this.block k hk (fun e => hn (by injection e with e; exact e.symm))⟩
/-- A function whose body holds a range over a function. -/
theorem calls_marks {P : Program} {f : FuncId} {fn : Func} {c : Code} {args : Array Value} {w : World} {R : Ending → World → Prop} (hf : P.funcs[f]? = some fn) (hb : fn.body = some c)
    (h : c.wp P (bodyPostM Fence.wide 1 P fn R) { tmps := args ++ Array.replicate (fn.ntmps - args.size) undef, defers := [] } w) : Calls P f args w R :=
  callsIn_wide.1 (callsIn_of_wp_marks (n := 1) hf hb trivial (wpIn_wide.2 h) rfl)
set_option maxHeartbeats 1600000 in
theorem diskNewest_none (bd : Nat) (ad : Addr) (N l : Nat) (w : World) (hv : VA w bd 142 (dC ad N)) : Calls Tryd.prog 133 (#[.pointer (some ⟨bd, 0, none⟩)] ++ #[.func (.yield l) #[] #[]]) w fun e w' => (∃ v, e = .returned v) ∧ w = w' := by
  have hc := hv.cell 1
  change _ = some (Value.slice none 0 0) at hc
  clear hv
  show Calls Tryd.prog 133 #[.pointer (some ⟨bd, 0, none⟩), .func (.yield l) #[] #[]] w _
  go_enter Tryd.func133, Tryd.ntmps133
  go_wp2_with (first
    | ((with_reducible refine gDst 8 ?_); refine aLoadC _ rfl rfl hc rfl ?_))
  go_loopw [4] (fun v4 wr => v4 = .int .i64 (-1) ∧ w = wr) (fun _ _ => 0)
  case atStart => exact ⟨rfl, rfl⟩
  case round =>
    obtain ⟨rfl, rfl⟩ := hrel
    go_wp2
    go_end0
    exact ⟨⟨_, rfl⟩, rfl⟩
theorem res_cells2 {P : Program} {fn : Func} {d e : Tmp} {t1 t2 : TypeId} (hf : fn.results = #[.cell d t1, .cell e t2]) (tmps : Array Value) {w : World} {a1 a2 : Addr} {v1 v2 z1 z2 : Value} (h1 : tmps.getD d undef = .pointer (some a1)) (h2 : tmps.getD e undef = .pointer (some a2)) [TS P t1 z1] [TS P t2 z2] (c1 : w.cell? a1 = some v1) (c2 : w.cell? a2 = some v2) :
    (results fn tmps).run P w = .ok (.tuple #[v1, v2]) w := by
  have e1 : tmps[d]?.getD undef = .pointer (some a1) := by rw [← h1]; simp
  have e2 : tmps[e]?.getD undef = .pointer (some a2) := by rw [← h2]; simp
  simp [results, hf, e1, e2, asAddr, run_loadVar1 (P := P) (t := t1) c1, run_loadVar1 (P := P) (t := t2) c2]
set_option maxHeartbeats 1600000 in
theorem diskRead_none (bd : Nat) (ad : Addr) (n N : Nat) (hN : N = n * 256) (hn : n ≤ 512) (i : Nat) (hi : i < n) (on : List UInt8) (hon : on.length = N) (w : World) (hv : VA w bd 142 (dC ad N)) (hr : RB w (.slice (some ad) N N) on) :
    Calls Tryd.prog 101 #[.pointer (some ⟨bd, 0, none⟩), .int .i64 (i : Int)] w fun e w' => ∃ v, e = .returned (.tuple #[v, .int .i64 0]) ∧ OB w' w.heap.size v ((on.drop (i * 256)).take 256) ∧ Below w.heap.size w w' := by
  have H := SH.start Nil w
  have c3 := hv.cell 3
  change _ = some (Value.bool false) at c3
  have HV := Lib.hid hv
  have HR := Lib.hid hr
  have HH := Lib.hid (fun W (k : VA W bd 142 (dC ad N)) => diskHas_any bd ad n N hN hn i hi W k)
  have hs := (fun W (k : VA W bd 142 (dC ad N)) (kr : RB W (.slice (some ad) N N) on) => diskSector_any bd ad n N hN hn i hi on hon W k kr)
  obtain ⟨X, hX⟩ : ∃ X, X = (on.drop (i * 256)).take 256 := ⟨_, rfl⟩
  have hXl : X.length = 256 := by rw [hX, List.length_take, List.length_drop, hon, hN]; omega
  rw [← hX] at hs ⊢
  have HS := Lib.hid hs
  have HXL := Lib.hid hXl
  clear hv hr hs hX hXl
  refine calls_marks Tryd.func101 rfl ?_
  simp only [Tryd.ntmps101, List.size_toArray, List.length_cons, List.length_nil, Nat.reduceAdd, Nat.reduceSub, Array.replicate_succ, Array.replicate_zero, List.push_toArray, List.append_toArray, List.nil_append, List.cons_append]
  go_wp2_with (first
    | ((with_reducible refine gDst 14 ?_); refine aLoadC _ rfl rfl (cell_below H.below c3) rfl ?_)
    | (go_at_call 72; refine (HH.out _ (HV.out.below H.below)).mono ?_; rintro e w' ⟨rfl, rfl⟩)
    | ((with_reducible refine gDst 3 ?_); refine aBox1 H _ rfl (by first | exact (rfl : _ = Value.int _ _) | exact (rfl : _ = Value.bool _) | exact (rfl : _ = Value.slice _ _ _) | exact (rfl : _ = Value.string _) | exact (rfl : _ = Value.pointer _) | exact (rfl : _ = Value.func _ _ _) | rfl) (by rfl) rfl ?_; clear H; intro b3 w3 H)
    | ((with_reducible refine gDst 4 ?_); refine aAlloc1 H rfl rfl ?_; clear H; intro b4 w4 H)
    | ((with_reducible refine gDst 5 ?_); refine aAlloc1 H rfl rfl ?_; clear H; intro b5 w5 H)
    | ((with_reducible refine gDst 6 ?_); refine aAlloc H rfl rfl ?_; clear H; intro b6 w6 H)
    | ((with_reducible refine gLoad ?_); first | (refine aLoad1 H _ rfl rfl (by first | exact (rfl : _ = some (Value.int _ _)) | exact (rfl : _ = some (Value.slice _ _ _)) | exact (rfl : _ = some (Value.bool _)) | exact (rfl : _ = some (Value.string _)) | exact (rfl : _ = some (Value.pointer _)) | rfl | (simp [List.getElem?_append]; done)) rfl ?_) | (refine aLoadC _ rfl rfl (by assumption) rfl ?_))
    | ((with_reducible refine gStore ?_); (first | (refine aCell H _ _ rfl rfl (by first | exact (rfl : _ = Value.int _ _) | exact (rfl : _ = Value.bool _) | exact (rfl : _ = Value.slice _ _ _) | exact (rfl : _ = Value.string _) | exact (rfl : _ = Value.pointer _) | exact (rfl : _ = Value.func _ _ _) | rfl) (by rfl) (by rfl) (by first | exact of_decide_eq_true rfl | (simp []; done) | (simp []; omega)) (by first | (simp only [List.set_cons_zero, List.set_cons_succ]; rfl) | (simp [List.set_append]; rfl)) rfl ?_) | (refine aStore H _ _ rfl rfl rfl (by (first | exact ⟨rfl, rfl⟩ | exact ⟨by decide, rfl⟩ | (simp []; done) | (constructor <;> simp [] <;> omega))) (by first | rfl | simp [List.all_append, one_all]) rfl ?_) | (refine aLay H _ _ rfl rfl rfl (by (first | exact ⟨rfl, rfl⟩ | exact ⟨by decide, rfl⟩ | (simp []; done) | (constructor <;> simp [] <;> omega))) (by first | rfl | simp [List.all_append, one_all]) (by simp only [lay, List.take_succ_cons, List.take_zero, List.drop_succ_cons, List.drop_zero, List.nil_append, List.cons_append, List.length_cons, List.length_nil, Nat.zero_add, Nat.reduceAdd]; rfl) rfl ?_)); clear H; intro w' H; try dsimp only at H))
  refine rangeFunc_none (gf := 133) (recv := #[.pointer (some ⟨bd, 0, none⟩)]) rfl (fun args W => Go.MuLone.run_callFunc_enter Tryd.func133 (by kernel_rfl) rfl args W) (fun l W hb => diskNewest_none bd ad N l W (HV.out.below (below_two H.below H.below.size hb))) ?_
  intro D W hD hb hK
  replace H := H.push hb (.obj D (.deferred (some []))) hK (fun k hk => by have e : k = D := hk; omega)
  clear hK
  go_wp2_with (first
    | (go_at_call 71; refine (HS.out _ (HV.out.below H.below) (HR.out.below H.below)).mono ?_; rintro e w' ⟨As, cs, rfl, hrs, rfl⟩)
    | (go_at_call 74; refine (Clone_any _ _ _ hrs (by rw [HXL.out]; decide)).mono ?_; rintro e w' ⟨v2, rfl, ho, hb2⟩; replace H := H.pushRow hb2 ho; obtain ⟨A2, c2, rfl, -⟩ := ho.reads.len; clear hb2 ho)
    | ((with_reducible refine gDst 3 ?_); refine aBox1 H _ rfl (by first | exact (rfl : _ = Value.int _ _) | exact (rfl : _ = Value.bool _) | exact (rfl : _ = Value.slice _ _ _) | exact (rfl : _ = Value.string _) | exact (rfl : _ = Value.pointer _) | exact (rfl : _ = Value.func _ _ _) | rfl) (by rfl) rfl ?_; clear H; intro b3 w3 H)
    | ((with_reducible refine gDst 4 ?_); refine aAlloc1 H rfl rfl ?_; clear H; intro b4 w4 H)
    | ((with_reducible refine gDst 5 ?_); refine aAlloc1 H rfl rfl ?_; clear H; intro b5 w5 H)
    | ((with_reducible refine gDst 6 ?_); refine aAlloc H rfl rfl ?_; clear H; intro b6 w6 H)
    | ((with_reducible refine gLoad ?_); first | (refine aLoad1 H _ rfl rfl (by first | exact (rfl : _ = some (Value.int _ _)) | exact (rfl : _ = some (Value.slice _ _ _)) | exact (rfl : _ = some (Value.bool _)) | exact (rfl : _ = some (Value.string _)) | exact (rfl : _ = some (Value.pointer _)) | rfl | (simp [List.getElem?_append]; done)) rfl ?_) | (refine aLoadC _ rfl rfl (by assumption) rfl ?_))
    | ((with_reducible refine gStore ?_); (first | (refine aCell H _ _ rfl rfl (by first | exact (rfl : _ = Value.int _ _) | exact (rfl : _ = Value.bool _) | exact (rfl : _ = Value.slice _ _ _) | exact (rfl : _ = Value.string _) | exact (rfl : _ = Value.pointer _) | exact (rfl : _ = Value.func _ _ _) | rfl) (by rfl) (by rfl) (by first | exact of_decide_eq_true rfl | (simp []; done) | (simp []; omega)) (by first | (simp only [List.set_cons_zero, List.set_cons_succ]; rfl) | (simp [List.set_append]; rfl)) rfl ?_) | (refine aStore H _ _ rfl rfl rfl (by (first | exact ⟨rfl, rfl⟩ | exact ⟨by decide, rfl⟩ | (simp []; done) | (constructor <;> simp [] <;> omega))) (by first | rfl | simp [List.all_append, one_all]) rfl ?_) | (refine aLay H _ _ rfl rfl rfl (by (first | exact ⟨rfl, rfl⟩ | exact ⟨by decide, rfl⟩ | (simp []; done) | (constructor <;> simp [] <;> omega))) (by first | rfl | simp [List.all_append, one_all]) (by simp only [lay, List.take_succ_cons, List.take_zero, List.drop_succ_cons, List.drop_zero, List.nil_append, List.cons_append, List.length_cons, List.length_nil, Nat.zero_add, Nat.reduceAdd]; rfl) rfl ?_)); clear H; intro w' H; try dsimp only at H))
  refine ⟨by simp, .inl ⟨D, _, rfl, run_takeDeferred (H.at_ 1 rfl), ?_⟩⟩
  replace H := H.setObj 1 rfl (.deferred none)
  simp only [List.set_cons_succ, List.set_cons_zero] at H
  refine ⟨_, res_cells2 rfl _ rfl rfl ((H.hold.va (b := b4)).cell 0) ((H.hold.va (b := b5)).cell 0), ?_⟩
  exact ⟨_, rfl, H.ow _, H.below⟩
end Go.Proofs.YticfcelbnkiopaaDoor

namespace Go.Proofs.YticfcelbnkiopaaDoor
set_option maxRecDepth 100000
open Go.RowKit
set_option linter.unusedSimpArgs false
set_option linter.unusedVariables false

theorem u64lt (x : UInt64) : x.toNat < 18446744073709551616 := x.toNat_lt
theorem and64 (a b : UInt64) : bits .and .u64 (a.toNat : Int) (b.toNat : Int) = ((a &&& b).toNat : Int) := by
  rw [u64_and_nat _ _ (u64lt a) (u64lt b), UInt64.toNat_and]
theorem add64 (a b : UInt64) : IntKind.u64.wrap ((a.toNat : Int) + (b.toNat : Int)) = ((a + b).toNat : Int) := by
  rw [IntKind.wrap_u64, UInt64.toNat_add]
  omega
theorem mul64 (a b : UInt64) : IntKind.u64.wrap ((a.toNat : Int) * (b.toNat : Int)) = ((a * b).toNat : Int) := by
  rw [IntKind.wrap_u64, UInt64.toNat_mul, ← Int.natCast_mul]
  omega
theorem shr64 (a : UInt64) (n : Nat) (h : n < 64) : (a.toNat : Int) / 2 ^ n = ((a >>> UInt64.ofNat n).toNat : Int) := by
  rw [UInt64.toNat_shiftRight, UInt64.toNat_ofNat', Nat.mod_eq_of_lt (by omega : n < 2 ^ 64), Nat.mod_eq_of_lt h, Nat.shiftRight_eq_div_pow]
  push_cast
  rfl
/-- The number of bits, as the library reckons it. -/
def popR (x : UInt64) : UInt64 :=
  let a := ((x >>> 1) &&& 6148914691236517205) + (x &&& 6148914691236517205)
  let b := ((a >>> 2) &&& 3689348814741910323) + (a &&& 3689348814741910323)
  let c := ((b >>> 4) + b) &&& 1085102592571150095
  let d := c + (c >>> 8)
  let e := d + (d >>> 16)
  e + (e >>> 32)
set_option maxHeartbeats 1600000 in
theorem ones_any (x : UInt64) (r : Nat) (hr : (popR x).toNat = r) (hb : r < 9223372036854775808) (w : World) : Calls Tryd.prog 141 #[.int .u64 (x.toNat : Int)] w fun e w' => e = .returned (.int .i64 ((r % 128 : Nat) : Int)) ∧ w = w' := by
  have p1 := shr64 x 1 (by decide)
  have p2 := and64 (x >>> UInt64.ofNat 1) 6148914691236517205
  have p3 := and64 x 6148914691236517205
  have p4 := add64 ((x >>> UInt64.ofNat 1) &&& 6148914691236517205) (x &&& 6148914691236517205)
  have hrr : popR x = (let a := ((x >>> UInt64.ofNat 1) &&& 6148914691236517205) + (x &&& 6148914691236517205)
    let b := ((a >>> UInt64.ofNat 2) &&& 3689348814741910323) + (a &&& 3689348814741910323)
    let c := ((b >>> UInt64.ofNat 4) + b) &&& 1085102592571150095
    let d := c + (c >>> UInt64.ofNat 8)
    let e := d + (d >>> UInt64.ofNat 16)
    e + (e >>> UInt64.ofNat 32)) := rfl
  rw [hrr] at hr
  clear hrr
  simp only at hr
  generalize (x >>> UInt64.ofNat 1) &&& 6148914691236517205 = x2 at *
  generalize x &&& 6148914691236517205 = x3 at *
  generalize x >>> UInt64.ofNat 1 = x1 at *
  generalize x2 + x3 = a at *
  have q1 := shr64 a 2 (by decide)
  have q2 := and64 (a >>> UInt64.ofNat 2) 3689348814741910323
  have q3 := and64 a 3689348814741910323
  have q4 := add64 ((a >>> UInt64.ofNat 2) &&& 3689348814741910323) (a &&& 3689348814741910323)
  generalize (a >>> UInt64.ofNat 2) &&& 3689348814741910323 = a2 at *
  generalize a &&& 3689348814741910323 = a3 at *
  generalize a >>> UInt64.ofNat 2 = a1 at *
  generalize a2 + a3 = b at *
  have r1 := shr64 b 4 (by decide)
  have r2 := add64 (b >>> UInt64.ofNat 4) b
  have r3 := and64 ((b >>> UInt64.ofNat 4) + b) 1085102592571150095
  generalize ((b >>> UInt64.ofNat 4) + b) &&& 1085102592571150095 = c at *
  generalize (b >>> UInt64.ofNat 4) + b = b2 at *
  generalize b >>> UInt64.ofNat 4 = b1 at *
  have s1 := shr64 c 8 (by decide)
  have s2 := add64 c (c >>> UInt64.ofNat 8)
  generalize c + (c >>> UInt64.ofNat 8) = d at *
  generalize c >>> UInt64.ofNat 8 = c1 at *
  have t1 := shr64 d 16 (by decide)
  have t2 := add64 d (d >>> UInt64.ofNat 16)
  generalize d + (d >>> UInt64.ofNat 16) = e at *
  generalize d >>> UInt64.ofNat 16 = d1 at *
  have v1 := shr64 e 32 (by decide)
  have v2 := add64 e (e >>> UInt64.ofNat 32)
  generalize e + (e >>> UInt64.ofNat 32) = f at *
  generalize e >>> UInt64.ofNat 32 = e1 at *
  rw [show (2 : Int) ^ 1 = 2 from rfl] at p1
  rw [show (2 : Int) ^ 2 = 4 from rfl] at q1
  rw [show (2 : Int) ^ 4 = 16 from rfl] at r1
  rw [show (2 : Int) ^ 8 = 256 from rfl] at s1
  rw [show (2 : Int) ^ 16 = 65536 from rfl] at t1
  rw [show (2 : Int) ^ 32 = 4294967296 from rfl] at v1
  change bits .and .u64 (x1.toNat : Int) 6148914691236517205 = _ at p2
  change bits .and .u64 (x.toNat : Int) 6148914691236517205 = _ at p3
  change bits .and .u64 (a1.toNat : Int) 3689348814741910323 = _ at q2
  change bits .and .u64 (a.toNat : Int) 3689348814741910323 = _ at q3
  change bits .and .u64 (b2.toNat : Int) 1085102592571150095 = _ at r3
  have hw : IntKind.i64.wrap (f.toNat : Int) = (f.toNat : Int) := i64w _ (by omega) (by omega)
  have hand : bits .and .i64 (f.toNat : Int) 127 = ((r % 128 : Nat) : Int) := by
    rw [i64_and127, hr]
    omega
  clear hr
  go_enter Tryd.func141, Tryd.ntmps141
  go_wp2
  go_ret
  exact ⟨rfl, rfl⟩
theorem neg64 (x : UInt64) : IntKind.u64.wrap (-(x.toNat : Int)) = ((0 - x).toNat : Int) := by
  rw [IntKind.wrap_u64, UInt64.toNat_sub]
  have := u64lt x
  simp only [UInt64.toNat_zero]
  omega
/-- The library's table. -/
def tabL : List Nat := [0, 1, 56, 2, 57, 49, 28, 3, 61, 58, 42, 50, 38, 29, 17, 4, 62, 47, 59, 36, 45, 43, 51, 22, 53, 39, 33, 30, 24, 18, 12, 5, 63, 55, 48, 27, 60, 41, 37, 16, 46, 35, 44, 21, 52, 32, 23, 11, 54, 26, 40, 15, 34, 20, 31, 10, 25, 14, 19, 9, 13, 8, 7, 6]
def tzI (x : UInt64) : Nat := (((x &&& (0 - x)) * 285870213051353865) >>> 58).toNat
/-- The table lies where the program's text lays it. -/
def TabAt (w : World) : Prop := ∀ r, r < 64 → w.cell? ⟨0, r, none⟩ = some (.int .u8 ((tabL.getD r 0 : Nat) : Int))
theorem tabL_lt : ∀ r, r < 64 → tabL.getD r 0 < 64 := by decide
theorem shr58 (a : UInt64) : (a.toNat : Int) / 288230376151711744 = ((a >>> 58).toNat : Int) ∧ (a >>> 58).toNat < 64 := by
  have e : (a >>> 58).toNat = a.toNat / 288230376151711744 := by
    rw [UInt64.toNat_shiftRight, Nat.shiftRight_eq_div_pow]
    rfl
  have := u64lt a
  rw [e]
  omega
set_option maxHeartbeats 1600000 in
theorem tz_any (x : UInt64) (hx : x ≠ 0) (w : World) (hT : TabAt w) : Calls Tryd.prog 142 #[.int .u64 (x.toNat : Int)] w fun e w' => e = .returned (.int .i64 ((tabL.getD (tzI x) 0 : Nat) : Int)) ∧ w = w' := by
  have h0 : ((x.toNat : Int) == 0) = false := beq_eq_false_iff_ne.mpr (fun h => hx (UInt64.toNat_inj.mp (by rw [UInt64.toNat_zero]; omega)))
  have hne : ¬ (x.toNat : Int) = 0 := by intro h; rw [h] at h0; cases h0
  have p1 := neg64 x
  have p2 := and64 x (0 - x)
  have p3 := mul64 (x &&& (0 - x)) 285870213051353865
  obtain ⟨p4, hlt⟩ := shr58 ((x &&& (0 - x)) * 285870213051353865)
  have hc := hT (tzI x) hlt
  have hi : (((x &&& (0 - x)) * 285870213051353865) >>> 58).toNat = tzI x := rfl
  rw [hi] at p4 hlt
  have p4n : ((x &&& (0 - x)) * 285870213051353865).toNat / 288230376151711744 = tzI x := by omega
  have hb : tabL.getD (tzI x) 0 < 64 := by
    have : ∀ r, r < 64 → tabL.getD r 0 < 64 := by decide
    exact this _ hlt
  generalize (x &&& (0 - x)) * 285870213051353865 = z at *
  generalize x &&& (0 - x) = y at *
  generalize 0 - x = x1 at *
  generalize tabL.getD (tzI x) 0 = t at *
  generalize tzI x = r at *
  change IntKind.u64.wrap ((y.toNat : Int) * 285870213051353865) = _ at p3
  have hri : (r : Int) < 64 := by omega
  have htw : IntKind.i64.wrap (t : Int) = (t : Int) := i64w _ (by omega) (by omega)
  clear hi hx hT
  go_enter Tryd.func142, Tryd.ntmps142
  go_wp2_with (first
    | ((with_reducible refine gDst 12 ?_); refine aLoadC _ rfl rfl hc rfl ?_))
  go_ret
  exact ⟨rfl, rfl⟩
end Go.Proofs.YticfcelbnkiopaaDoor

namespace Go.Proofs.YticfcelbnkiopaaDoor
set_option maxRecDepth 100000
open Go.RowKit
set_option linter.unusedSimpArgs false
set_option linter.unusedVariables false

set_option maxHeartbeats 1600000 in
theorem mapLen_any (n bm : Nat) (us : List UInt64) (w : World) (hv : VA w bm 161 (mC n us)) : Calls Tryd.prog 140 #[.pointer (some ⟨bm, 0, none⟩)] w fun e w' => e = .returned (.int .i64 (n : Int)) ∧ w = w' := by
  have hc := hv.cell 0
  change _ = some (Value.int .i64 (n : Int)) at hc
  go_enter Tryd.func140, Tryd.ntmps140
  go_wp2_with (first
    | ((with_reducible refine gDst 8 ?_); refine aLoadC _ rfl rfl hc rfl ?_))
  go_ret
  exact ⟨rfl, rfl⟩
theorem cell_word {w : World} {bm n : Nat} {u : List Bool} (hv : VA w bm 161 (mC n (wL u))) (k : Nat) (hk : k < 8) : w.cell? ⟨bm, 1 + k, none⟩ = some (.int .u64 ((wrd u k).toNat : Int)) := by
  rw [hv.cell (1 + k), mC, Nat.add_comm, List.getElem?_cons_succ, List.getElem?_map]
  have := wL_get u k hk
  rw [List.getD_eq_getElem?_getD, List.getElem?_eq_getElem (by rw [wL_len]; exact hk)] at this
  rw [List.getElem?_eq_getElem (by rw [wL_len]; exact hk)]
  simp only [Option.getD_some] at this
  rw [this]; rfl
theorem shr_and1 (x : UInt64) (r : Nat) (h : r < 64) : bits .and .u64 ((x.toNat : Int) / 2 ^ r) 1 = if x.toNat.testBit r = true then 1 else 0 := by
  rw [shr64 x r h]
  have e := and64 (x >>> UInt64.ofNat r) 1
  rw [show ((1 : UInt64).toNat : Int) = 1 from rfl] at e
  rw [e, UInt64.toNat_and, show (1 : UInt64).toNat = 2 ^ 1 - 1 from rfl, Nat.and_two_pow_sub_one_eq_mod, UInt64.toNat_shiftRight, UInt64.toNat_ofNat', Nat.mod_eq_of_lt (by omega : r < 2 ^ 64), Nat.mod_eq_of_lt h]
  have : (x.toNat >>> r) % 2 = (x.toNat.testBit r).toNat := (Nat.toNat_testBit x.toNat r).symm ▸ (by rw [Nat.shiftRight_eq_div_pow])
  rw [show 2 ^ 1 = 2 from rfl, this]
  cases x.toNat.testBit r <;> rfl
set_option maxHeartbeats 1600000 in
theorem mapUsed_any (bm i : Nat) (u : List Bool) (hu : u.length ≤ 512) (hi : i < 4294967296) (w : World) (hv : VA w bm 161 (mC u.length (wL u))) : Calls Tryd.prog 143 #[.pointer (some ⟨bm, 0, none⟩), .int .i64 (i : Int)] w fun e w' => e = .returned (.bool (u.getD i true)) ∧ w = w' := by
  have HL := Lib.hid (mapLen_any u.length bm (wL u) w hv)
  by_cases hin : i < u.length
  · have hii : ((u.length : Int) ≤ (i : Int)) = False := eq_false (by omega)
    have hq : (i : Int).tdiv 64 = ((i / 64 : Nat) : Int) := by rw [Int.tdiv_eq_ediv_of_nonneg (by omega)]; push_cast; rfl
    have hm : (i : Int).tmod 64 = ((i % 64 : Nat) : Int) := by rw [Int.tmod_eq_emod_of_nonneg (by omega)]; push_cast; rfl
    have hql : i / 64 < 8 := by omega
    have hrl : i % 64 < 64 := by omega
    have hc := cell_word hv (i / 64) hql
    have hs := shr_and1 (wrd u (i / 64)) (i % 64) hrl
    rw [wrd_bit _ _ _ hrl, show 64 * (i / 64) + i % 64 = i by omega] at hs
    have hg : u.getD i true = u.getD i false := by
      rw [List.getD_eq_getElem?_getD, List.getD_eq_getElem?_getD, List.getElem?_eq_getElem hin]; rfl
    rw [hg]
    generalize wrd u (i / 64) = x at *
    generalize i / 64 = q at *
    generalize i % 64 = r at *
    have hqi : (q : Int) < 8 := by omega
    have hri : (r : Int) < 64 := by omega
    have hqw : IntKind.i64.wrap (q : Int) = (q : Int) := i64w _ (by omega) (by omega)
    clear hv hg
    cases hb : u.getD i false with
    | true =>
      rw [hb, if_pos rfl] at hs
      go_enter Tryd.func143, Tryd.ntmps143
      go_wp2_with (first
        | (go_at_call 140; refine HL.out.mono ?_; rintro e w' ⟨rfl, rfl⟩)
        | ((with_reducible refine gDst 20 ?_); refine aLoadC _ rfl rfl hc rfl ?_))
      go_ret
      exact ⟨rfl, rfl⟩
    | false =>
      rw [hb, if_neg (by decide)] at hs
      go_enter Tryd.func143, Tryd.ntmps143
      go_wp2_with (first
        | (go_at_call 140; refine HL.out.mono ?_; rintro e w' ⟨rfl, rfl⟩)
        | ((with_reducible refine gDst 20 ?_); refine aLoadC _ rfl rfl hc rfl ?_))
      go_ret
      exact ⟨rfl, rfl⟩
  · have hii : (u.length : Int) ≤ (i : Int) := by omega
    rw [show u.getD i true = true by rw [List.getD_eq_getElem?_getD, List.getElem?_eq_none (by omega)]; rfl]
    clear hv
    go_enter Tryd.func143, Tryd.ntmps143
    go_wp2_with (first
      | (go_at_call 140; refine HL.out.mono ?_; rintro e w' ⟨rfl, rfl⟩))
    go_ret
    exact ⟨rfl, rfl⟩
theorem pop_ones (x : UInt64) : (popR x).toNat % 128 = popNat x.toNat % 128 ∧ (popR x).toNat < 1000000000 → True := fun _ => trivial
end Go.Proofs.YticfcelbnkiopaaDoor
