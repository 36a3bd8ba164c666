/- append where there is room, in a block whose cells are all told. -/
import Derived.Test.YtfnneneaalaagaaAgg
import Derived.Test.YtfnneneaalaagaaBase
namespace Go.Proofs.Ytfnneneaalaagaa
open Go.RowKit
section
variable {ops : Array Oper} {rest : List Oper} {o : Oper} {a : Act} {Q : Exit → Act → World → Prop} {w : World}
theorem appRoom (s x : Operand) (g n cap : Nat) (L ys : List UInt8) (vy : Value) (HV : VA w g 5 (L.map cb)) (HR : RB w vy ys) (hp : 0 < ys.length) (hcap : cap ≤ L.length) (hroom : n + ys.length ≤ cap)
    (hgd : o.guard = none) (ho : o.op = .call { callee := .builtin .append, args := #[s, x], argTypes := #[22, 22] }) (hs : a.eval s = .slice (some ⟨g, 0, none⟩) n cap) (hx : a.eval x = vy)
    (h : ∀ w', VA w' g 5 ((L.take n ++ ys ++ L.drop (n + ys.length)).map cb) → w.grownBy w' (some g) → wpList Try.prog ops Q rest (a.put o.dst (.slice (some ⟨g, 0, none⟩) (n + ys.length) cap)) w') :
    wpList Try.prog ops Q (o :: rest) a w := by
  obtain ⟨A, c, rfl, hc, hm, hcell⟩ := HR
  obtain ⟨ad, rfl, hcc⟩ := hcell hp
  obtain ⟨i0, hi, hz⟩ := Option.map_eq_some_iff.1 Try.info_u8
  simp only [Prod.mk.injEq] at hz
  obtain ⟨_, hz1, _⟩ := hz
  have hone : ∀ u ∈ ys.map cb, u.oneCell' = true := by
    intro u hu
    obtain ⟨y, _, rfl⟩ := List.mem_map.mp hu
    rfl
  rw [U8_all] at hcc
  have hr := run_append_room (P := Try.prog) w 22 o.type 5 i0 Try.underlying22 hi g n cap (L.map cb).toArray HV ad ys.length c (ys.map cb) (by rw [hz1]; simp) hcc hone hroom (by rw [hz1]; simp; omega)
  have e1 : (L.map cb).toArray.toList.take (n * i0.size) ++ ys.map cb ++ (L.map cb).toArray.toList.drop (n * i0.size + (ys.map cb).length) = (L.take n ++ ys ++ L.drop (n + ys.length)).map cb := by
    rw [hz1]
    simp
  rw [e1] at hr
  refine wpList_plain hgd fun K hK => ?_
  unfold Oper.wp execOp
  simp only [ho, resolve, invoke, builtin, Sem.run_bind, Sem.run_pure, Result.andThen_ok, List.map_toArray, List.map_cons, List.map_nil, hs, hx, hr]
  exact hK _ _ (h _ (HV.set _) (setRow_grown _ _ _))
/-- make([]byte, 0, n). -/
theorem exec_make0 {ρ : Operand → Value} (n : Nat) (h63 : n ≤ 1000000) (l c : Operand) (ho : o.op = .makeSlice 22 l c) (hl : ρ l = .int .i64 0) (hc : ρ c = .int .i64 (n : Int)) :
    (execOp ρ o).run Try.prog w = .ok (.value (.slice (some ⟨w.heap.size, 0, none⟩) 0 n)) (w.alloc (.cells ((List.replicate n (0 : UInt8)).map cb).toArray 5)) := by
  obtain ⟨i0, hi, hz0, hz1, hz2⟩ := info_parts Try.info_u8
  have h := run_make (P := Try.prog) w 22 5 i0 (.int .u8 0) Try.underlying22 hi hz0 .i64 .i64 0 (n : Int) (by omega) (by omega) (by rw [hz2]; omega) (by omega)
  have e1 : (madeCells #[.int .u8 0] n) = ((List.replicate n (0 : UInt8)).map cb).toArray := by
    apply Array.toList_inj.mp
    rw [toList_madeCells_one]
    simp
  have e2 : ((n : Int)).toNat = n := by omega
  rw [hz1, Nat.mul_one, e2] at h
  unfold execOp
  simp only [ho, hl, hc, h, Sem.run_bind, Sem.run_pure, Result.andThen_ok]
  rw [show (Value.int IntKind.u8 0).cells = #[.int .u8 0] from rfl, e1]
  rfl
theorem wpMake0 (n : Nat) (h63 : n ≤ 1000000) (l c : Operand) (ho : o.op = .makeSlice 22 l c) (hl : a.eval l = .int .i64 0) (hc : a.eval c = .int .i64 (n : Int)) (hw : Region.wanted o (yielded ops a.tmps) = true)
    (h : ∀ w', VA w' w.heap.size 5 ((List.replicate n (0 : UInt8)).map cb) → Below w.heap.size w w' → wpList Try.prog ops Q rest (a.put o.dst (.slice (some ⟨w.heap.size, 0, none⟩) 0 n)) w') : wpList Try.prog ops Q (o :: rest) a w :=
  stepV (exec_make0 n h63 l c ho hl hc) hw (h _ (VA.new w _ _) (alloc_belowAt w _))
/-- A block of the call's own, read as a row. -/
theorem OB.ofVA {base g : Nat} {xs : List UInt8} (h : VA w g 5 (xs.map cb)) (hb : base ≤ g) (hm : xs.length ≤ 1000000000) : OB w base (.slice (some ⟨g, 0, none⟩) xs.length xs.length) xs := by
  refine ⟨by rw [U8_all]; simp [U8], .inr ⟨g, xs.length, _, rfl, hb, h, Nat.le_refl _, by simp [maxLen]; omega, by simp [U8], by rw [U8_all]; simp only [U8, Nat.mul_one]; rw [List.take_of_length_le (by simp)]⟩⟩
end
end Go.Proofs.Ytfnneneaalaagaa
