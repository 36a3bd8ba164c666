/- Layer 26: what fills a matrix; units, codes. -/
import Derived.Test.YtfnneneaalaagaaMx1
namespace Go.Proofs.Ytfnneneaalaagaa
open Go.RowKit
set_option linter.unusedSimpArgs false
set_option linter.unusedVariables false

/-- make([]byte, 0, n), as a thing. -/
theorem made0 {F : Nat → Prop} {w0 w : World} {L : List Own} (H : SH F w0 w L) (n : Nat) (hn : n ≤ 1000000) : SH F w0 (w.alloc (.cells ((List.replicate n (0 : UInt8)).map cb).toArray 5)) (.row B8 (.slice (some ⟨w.heap.size, 0, none⟩) 0 n) [] :: L) :=
  H.pushRow (alloc_belowAt w _) (World.ownsRow_made w _ n (Nat.le_refl _) (by simp [maxLen]; omega) (by simp [U8]))
section
variable {ops : Array Oper} {rest : List Oper} {o : Oper} {a : Act} {Q : Exit → Act → World → Prop} {F : Nat → Prop} {w0 w : World} {L : List Own}
theorem wMake0 (n : Nat) (hn : n ≤ 1000000) (H : SH F w0 w L) (l c : Operand) (ho : o.op = .makeSlice 22 l c) (hl : a.eval l = .int .i64 0) (hc : a.eval c = .int .i64 (n : Int)) (hw : Region.wanted o (yielded ops a.tmps) = true)
    (h : ∀ w', SH F w0 w' (.row B8 (.slice (some ⟨w.heap.size, 0, none⟩) 0 n) [] :: L) → wpList Try.prog ops Q rest (a.put o.dst (.slice (some ⟨w.heap.size, 0, none⟩) 0 n)) w') : wpList Try.prog ops Q (o :: rest) a w :=
  stepV (exec_make0 n hn l c ho hl hc) hw (h _ (made0 H n hn))
end
/-- A function's value. -/
abbrev fnV (K : Nat) (caps : Array Value) : Value := .func (.func K) #[] caps
def fillL (r c : Nat) (f : Nat → Nat → UInt8) : List UInt8 := (List.range r).flatMap fun i => (List.range c).map (f i)
theorem fillL_len (r c : Nat) (f : Nat → Nat → UInt8) : (fillL r c f).length = r * c := by
  unfold fillL
  induction r with
  | zero => simp
  | succ r ih => rw [List.range_succ, List.flatMap_append, List.length_append, ih, Nat.succ_mul]; simp
theorem fillL_succ (r c : Nat) (f : Nat → Nat → UInt8) : fillL (r + 1) c f = fillL r c f ++ (List.range c).map (f r) := by
  rw [fillL, List.range_succ, List.flatMap_append]; simp [fillL]
def relO (r c : Nat) (f : Nat → Nat → UInt8) (w : World) (bm br : Nat) (v18 : Value) (wr : World) : Prop := ∃ (i : Nat) (A : Option Addr) (cp : Nat), v18 = .int .i64 (i : Int) ∧ i ≤ r ∧ SH Nil w wr [.blk bm 32 (mxC ((r : Int), (c : Int), A, (fillL i c f).length, cp)), .row B8 (.slice A (fillL i c f).length cp) (fillL i c f), .blk br 32 (mxC (0, 0, none, 0, 0))]
def relI (r c i : Nat) (f : Nat → Nat → UInt8) (w : World) (bm br : Nat) (v22 : Value) (wr : World) : Prop := ∃ (j : Nat) (cur : List UInt8) (A : Option Addr) (cp : Nat), v22 = .int .i64 (j : Int) ∧ j ≤ c ∧ Hid (cur = fillL i c f ++ (List.range j).map (f i)) ∧ SH Nil w wr [.blk bm 32 (mxC ((r : Int), (c : Int), A, cur.length, cp)), .row B8 (.slice A cur.length cp) cur, .blk br 32 (mxC (0, 0, none, 0, 0))]

set_option maxHeartbeats 1600000 in
set_option maxRecDepth 100000 in
theorem filled_any (r c K : Nat) (caps : Array Value) (f : Nat → Nat → UInt8) (w : World) (hr : r ≤ 64) (hc : c ≤ 64) (henter : ∀ args W, (callFunc K args).run Try.prog W = .ok (.enter K args) W)
    (tell : ∀ W, Below w.heap.size w W → ∀ i j : Nat, i < r → j < c → Calls Try.prog K (#[.int .i64 (i : Int), .int .i64 (j : Int)] ++ caps) W fun e w' => e = .returned (.int .u8 ((f i j).toNat : Int)) ∧ Below W.heap.size W w') :
    Calls Try.prog 53 #[.int .i64 (r : Int), .int .i64 (c : Int), fnV K caps] w fun e w' => ∃ A cp, e = .returned (.agg (mxT.enc ((r : Int), (c : Int), A, (fillL r c f).length, cp)).toArray) ∧ OB w' w.heap.size (.slice A (fillL r c f).length cp) (fillL r c f) ∧ Below w.heap.size w w' := by
  have H0 := SH.start Nil w
  obtain ⟨n, hn⟩ : ∃ n, n = r * c := ⟨_, rfl⟩
  have hn2 : n ≤ 64 * 64 := by rw [hn]; exact Nat.mul_le_mul hr hc
  have hnI : (r : Int) * (c : Int) = (n : Int) := by rw [hn]; push_cast; rfl
  have hnb : (n : Int) ≤ 4096 := by omega
  have TELL := Lib.hid tell
  have hri : (r : Int) ≤ 64 := by omega
  have hci : (c : Int) ≤ 64 := by omega
  clear tell hn
  go_enter Try.func53, Try.ntmps53
  go_wp2_with (first
    | ((with_reducible refine gAlloc ?_); refine wVar mxT ((r : Int), (c : Int), some ⟨_, 0, none⟩, 0, n) H2 rfl 7 _ rfl rfl rfl rfl rfl ?_; clear H2; intro w3 H)
    | ((with_reducible refine gAlloc ?_); refine wAlloc mxT H0 rfl rfl ?_; clear H0; intro w1 H1)
    | ((with_reducible refine gMake ?_); refine wMake0 n (by omega) H1 _ _ rfl rfl rfl rfl ?_; clear H1; intro w2 H2))
  go_loopw [18] (fun v18 wr => relO r c f w w2.heap.size w.heap.size v18 wr) (fun v _ => r - (intOf v).toNat)
  case atStart => exact ⟨0, _, _, rfl, by omega, H⟩
  case round =>
    obtain ⟨i, A, cp, rfl, hi, HS⟩ := hrel
    clear H
    by_cases hir : i < r
    · have hii : (i : Int) < (r : Int) := by omega
      go_wp2
      go_loopw [22] (fun v22 wr => relI r c i f w w2.heap.size w.heap.size v22 wr) (fun v _ => c - (intOf v).toNat)
      case atStart => exact ⟨0, _, A, cp, rfl, by omega, by simp [Hid], HS⟩
      case round =>
        obtain ⟨j, cur, A, cp, rfl, hj, HC, HS⟩ := hrel
        by_cases hjc : j < c
        · have hji : (j : Int) < (c : Int) := by omega
          have hcl : cur.length ≤ 5000 := by
            rw [HC.out, List.length_append, fillL_len, List.length_map, List.length_range]
            have := Nat.mul_le_mul hi hc
            have := Nat.mul_le_mul hr (Nat.le_refl 64)
            omega
          have HCL := Lib.hid hcl
          have cT := fun W h => TELL.out W h i j hir hjc
          have hst : cur ++ [f i j] = fillL i c f ++ (List.range (j + 1)).map (f i) := by rw [HC.out, List.range_succ, List.map_append, List.append_assoc]; rfl
          generalize f i j = x at cT hst
          have HST := Lib.hid hst
          have H := HS.drew
          have HS0 := H.va 0 rfl
          clear hcl hst HS
          go_wp2
          refine startL (fun w' => VA w' w2.heap.size 32 (mxC ((r : Int), (c : Int), A, cur.length, cp))) (fun i => i == 9) (by kernel_rfl) ?_
          refine takeP 0 rfl (by kernel_rfl) (by kernel_rfl) (by kernel_rfl) (by kernel_rfl) (fun _ _ _ h => h) rfl (v := ?_) ?_ ?_
          rotate_left
          · intro w'; go_simp; (try with_reducible rfl)
          (try simp only [Act.put, List.setIfInBounds_toArray, List.set_cons_zero, List.set_cons_succ])
          refine takeL 1 HS0 rfl (by kernel_rfl) (by kernel_rfl) (by kernel_rfl) (by kernel_rfl) (by kernel_rfl) (fun _ _ _ h => h) rfl (v := ?_) ?_ ?_
          rotate_left
          · intro w' hw'; have k2 : w'.cell? ⟨w2.heap.size, 2, none⟩ = some (.slice A cur.length cp) := VA.cell hw' 2; clear hw'; go_simp; (try with_reducible rfl)
          (try simp only [Act.put, List.setIfInBounds_toArray, List.set_cons_zero, List.set_cons_succ])
          refine takeP 2 rfl (by kernel_rfl) (by kernel_rfl) (by kernel_rfl) (by kernel_rfl) (fun _ _ _ h => h) rfl (v := ?_) ?_ ?_
          rotate_left
          · intro w'; go_simp; (try with_reducible rfl)
          (try simp only [Act.put, List.setIfInBounds_toArray, List.set_cons_zero, List.set_cons_succ])
          refine takeP 3 rfl (by kernel_rfl) (by kernel_rfl) (by kernel_rfl) (by kernel_rfl) (fun _ _ _ h => h) rfl (v := ?_) ?_ ?_
          rotate_left
          · intro w'; go_simp; (try with_reducible rfl)
          (try simp only [Act.put, List.setIfInBounds_toArray, List.set_cons_zero, List.set_cons_succ])
          refine takeP 4 rfl (by kernel_rfl) (by kernel_rfl) (by kernel_rfl) (by kernel_rfl) (fun _ _ _ h => h) rfl (v := ?_) ?_ ?_
          rotate_left
          · intro w'; go_simp; (try with_reducible rfl)
          (try simp only [Act.put, List.setIfInBounds_toArray, List.set_cons_zero, List.set_cons_succ])
          refine stepL 5 rfl (by kernel_rfl) rfl (fun K hK => ?_)
          (go_simp; refine (cT _ H.below).mono ?_; rintro e w5 ⟨rfl, hb5⟩; replace H := H.step hb5; clear hb5; have HS1 := H.va 0 rfl; refine hK.out _ _ (fun _ _ => HS1) ?_; clear K hK HS0; have HS0 := HS1; clear HS1)
          (try simp only [Act.put, List.setIfInBounds_toArray, List.set_cons_zero, List.set_cons_succ])
          refine stepL 6 rfl (by kernel_rfl) rfl (fun K hK => ?_)
          (go_simp; have HS1 := VA.below HS0 (alloc_belowAt _ (.cells #[.int .u8 (x.toNat : Int)] 5)); refine hK.out _ _ (fun _ _ => HS1) ?_; clear K hK HS0; have HS0 := HS1; clear HS1)
          (try simp only [Act.put, List.setIfInBounds_toArray, List.set_cons_zero, List.set_cons_succ])
          refine stepL 7 rfl (by kernel_rfl) rfl (fun K hK => ?_)
          (refine oAppLit sB [x] #[.int .u8 (x.toNat : Int)] rfl (by simp) 1 rfl H 1 rfl (by have := HCL.out; show (cur.length + 1) * 1 ≤ _; omega) _ _ rfl rfl rfl ?_; clear H; intro v6 w6 H; obtain ⟨A6, c6, rfl, hc6⟩ := (H.rr 1 rfl).len; have HS1 := H.va 0 rfl; refine hK.out _ _ (fun _ _ => HS1) ?_; clear K hK HS0; have HS0 := HS1; clear HS1)
          (try simp only [Act.put, List.setIfInBounds_toArray, List.set_cons_zero, List.set_cons_succ])
          refine takeP 8 rfl (by kernel_rfl) (by kernel_rfl) (by kernel_rfl) (by kernel_rfl) (fun _ _ _ h => h) rfl (v := ?_) ?_ ?_
          rotate_left
          · intro w'; go_simp; (try with_reducible rfl)
          (try simp only [Act.put, List.setIfInBounds_toArray, List.set_cons_zero, List.set_cons_succ])
          refine stepL 9 rfl (by kernel_rfl) rfl (fun K hK => ?_)
          (refine oCell 22 (.slice A6 (cur ++ [x]).length c6) (by kernel_rfl) rfl rfl H 0 (off := 2) rfl (Nat.le_refl 3) (mxC ((r : Int), (c : Int), A6, (cur ++ [x]).length, c6)) rfl _ _ rfl rfl rfl ?_; clear H; intro w7 H; refine hK.out _ _ (fun h => by cases h) ?_; clear K hK HS0)
          (try simp only [Act.put, List.setIfInBounds_toArray, List.set_cons_zero, List.set_cons_succ])
          refine doneL (by kernel_rfl) ?_
          go_wp2
          go_roundw
          case rel => first | exact ⟨j + 1, _, _, _, by go_num, by omega, HST, H⟩ | exact ⟨_, ⟨j + 1, _, _, _, by go_num, by omega, HST, H⟩, rfl⟩
          case measure => simp [intOf] <;> omega
        · obtain rfl : j = c := by omega
          have hcur := HC.out
          rw [← fillL_succ] at hcur
          subst hcur
          clear HC
          go_wp2
          go_roundw
          case rel => first | exact ⟨i + 1, _, _, by go_num, by omega, HS⟩ | exact ⟨_, ⟨i + 1, _, _, by go_num, by omega, HS⟩, rfl⟩
          case measure => simp [intOf] <;> omega
    · obtain rfl : i = r := by omega
      go_wp2_with (first
        | ((with_reducible refine gLoad ?_); refine wLoad mxT ((i : Int), (c : Int), A, (fillL i c f).length, cp) HS 0 rfl rfl _ rfl rfl rfl ?_)
        | ((with_reducible refine gStore ?_); refine wStore mxT ((i : Int), (c : Int), A, (fillL i c f).length, cp) HS 2 rfl rfl _ _ rfl rfl rfl rfl ?_; clear HS; intro w5 H))
      refine bodyPost_ret (results_cell rfl _ (H.va 2 rfl) rfl _ Try.underlying32 rfl (mxT.sz _)) rfl ?_
      exact ⟨A, cp, rfl, H.orow 1 rfl, H.below⟩
end Go.Proofs.Ytfnneneaalaagaa
