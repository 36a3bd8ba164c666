/- Ground words of this family of proofs, over this program: its rows of bytes. -/
import Derived.Test.YtfnneneaalaagaaProg
import Derived.Test.YtfnneneaalaagaaKit
namespace Go.Proofs.Ytfnneneaalaagaa
open Go.RowKit

theorem Try.info_u8 : (Try.prog.info? 5).map (fun i => (i.zero, i.size, i.bytes)) = some (some (.int .u8 0), 1, 1) := by kernel_rfl

abbrev B8 : Ty UInt8 := U8 5
/-- v reads as the bytes xs in w. -/
abbrev RB (w : World) (v : Value) (xs : List UInt8) : Prop := RR B8 w v xs
/-- v is a row of bytes of the call's own. -/
abbrev OB (w : World) (base : Nat) (v : Value) (xs : List UInt8) : Prop := OR B8 w base v xs

/-- A cut of bytes that are read. -/
theorem cutB (A : Option Addr) (c : Nat) (xs : List UInt8) (i j : Nat) (hij : i ≤ j) (hj : j ≤ xs.length) (hc : xs.length ≤ c) :
    ∃ A', (∀ (kl kh : IntKind) (W : World), (Instr.slice 22 (.slice A xs.length c) (some (.int kl (i : Int))) (some (.int kh (j : Int))) none).run Try.prog W = .ok (.slice A' (j - i) (c - i)) W) ∧
      (∀ (kl : IntKind) (W : World), j = xs.length → (Instr.slice 22 (.slice A xs.length c) (some (.int kl (i : Int))) none none).run Try.prog W = .ok (.slice A' (xs.length - i) (c - i)) W) ∧
      (∀ (kh : IntKind) (W : World), i = 0 → (Instr.slice 22 (.slice A xs.length c) none (some (.int kh (j : Int))) none).run Try.prog W = .ok (.slice A' j c) W) ∧
      ∀ w, RB w (.slice A xs.length c) xs → RB w (.slice A' (j - i) (c - i)) ((xs.take j).drop i) :=
  RR.cut (P := Try.prog) B8 Try.underlying22 Try.info_u8 A c xs i j hij hj hc

section
variable {ops : Array Oper} {rest : List Oper} {o : Oper} {a : Act} {Q : Exit → Act → World → Prop}
/-- append(v, y) of a byte. -/
theorem appB {w0 W : World} (base : Nat) (s x : Operand) (v : Value) (xs : List UInt8) (y : UInt8) (n : Int) (HO : OB W base v xs) (HB : Below base w0 W) (hbase : base ≤ W.heap.size) (hl : xs.length ≤ 1000000000) (hn : n = (y.toNat : Int))
    (hgd : o.guard = none) (ho : o.op = .call { callee := .builtin .append, args := #[s, x], argTypes := #[22, 22] })
    (hs : a.eval s = v) (hx : a.eval x = .slice (some ⟨W.heap.size, 0, none⟩) 1 1)
    (h : ∀ v1 w1, OB w1 base v1 (xs ++ [y]) → Below base w0 w1 → W.grownBy w1 v.ownBlock → (v1.ownBlock = v.ownBlock ∨ ∃ b, v1.ownBlock = some b ∧ W.heap.size ≤ b) → base ≤ w1.heap.size → wpList Try.prog ops Q rest (a.put o.dst v1) w1) :
    wpList Try.prog ops Q (o :: rest) a (W.alloc (.cells #[.int .u8 n] 5)) := by
  subst hn
  exact wp_append1 B8 base hgd s x 22 _ ho Try.underlying22 Try.info_u8 rfl v xs y #[cb y] hs hx rfl HO HB hbase (by show (xs.length + 1) * 1 ≤ _; omega) h
/-- append(v, ys...). -/
theorem appBs {w0 W : World} (base : Nat) (s x : Operand) (v vy : Value) (xs ys : List UInt8) (HO : OB W base v xs) (HR : RB W vy ys) (HB : Below base w0 W) (hbase : base ≤ W.heap.size) (hl : xs.length ≤ 1000000000) (hl2 : ys.length ≤ 1000000000)
    (hgd : o.guard = none) (ho : o.op = .call { callee := .builtin .append, args := #[s, x], argTypes := #[22, 22] })
    (hs : a.eval s = v) (hx : a.eval x = vy)
    (h : ∀ v1 w1, OB w1 base v1 (xs ++ ys) → Below base w0 w1 → W.grownBy w1 v.ownBlock → (v1.ownBlock = v.ownBlock ∨ ∃ b, v1.ownBlock = some b ∧ W.heap.size ≤ b) → base ≤ w1.heap.size → wpList Try.prog ops Q rest (a.put o.dst v1) w1) :
    wpList Try.prog ops Q (o :: rest) a W :=
  wp_appendN B8 base hgd s x 22 _ ho Try.underlying22 Try.info_u8 rfl v xs ys vy hs hx HO HR HB hbase (by show (xs.length + ys.length) * 1 ≤ _; omega) h
end

/-- A literal row of bytes. -/
theorem OB.lit (w : World) (base : Nat) (xs : List UInt8) (cs : Array Value) (hcs : cs.toList = xs.map cb) (hb : base ≤ w.heap.size) (hm : xs.length ≤ 9223372036854775807) :
    OB (w.alloc (.cells cs 5)) base (.slice (some ⟨w.heap.size, 0, none⟩) xs.length xs.length) xs := OR.lit B8 w base xs cs (by rw [hcs, U8_all]) hb hm
theorem RB.at0 {w : World} {A : Option Addr} {n c : Nat} {xs : List UInt8} (h : RB w (.slice A n c) xs) (hp : 0 < xs.length) : ∃ ad, A = some ad ∧ ∀ (j : Nat) (u : Value), (xs.map cb)[j]? = some u → w.cell? (ad.add j) = some u := by
  obtain ⟨A2, c2, e, _, _, h3⟩ := h
  injection e with e1 e2 e3
  subst e1
  obtain ⟨ad, rfl, hcell⟩ := h3 hp
  rw [U8_all] at hcell
  exact ⟨ad, rfl, hcell⟩
/-- A byte of a row that is read. -/
theorem RB.byte {w : World} {A : Option Addr} {n c : Nat} {xs : List UInt8} (h : RB w (.slice A n c) xs) (hp : 0 < xs.length) : ∃ ad, A = some ad ∧ ∀ k, k < xs.length → w.cell? (ad.add k) = some (.int .u8 ((xs.getD k 0).toNat : Int)) := by
  obtain ⟨ad, rfl, hcc⟩ := h.at0 hp
  refine ⟨ad, rfl, fun k hk => hcc k _ ?_⟩
  rw [List.getElem?_map, List.getD_eq_getElem?_getD, List.getElem?_eq_getElem hk]
  rfl
end Go.Proofs.Ytfnneneaalaagaa
