/- Ground of the statement ManifestRange, part 5: Man6, RowKit, RowPtr, RowMan, Man7, Law11. -/
import Derived.WalkKit
import Derived.ProofKit
import Derived.OpenShut
import Derived.ShutString
import Derived.ChangeOld
import Derived.Below
import Derived.SizedLaws
import Derived.ChangeSlices
import Derived.Test.YtbglebchnlfklaaBManifestRange4
namespace Go.Proofs.Ytbglebchnlfklaa
set_option maxRecDepth 100000
open Go.RowKit
set_option linter.unusedSimpArgs false
set_option linter.unusedVariables false

theorem oMakeB {o : Oper} {a : Act} {Q : Exit → Act → World → Prop} {F : Nat → Prop} {w0 w : World} {L : List Own} {K : Act → World → Prop} (n : Nat) (hn : n ≤ 1000000) (H : SH F w0 w L) (l c : Operand) (ho : o.op = .makeSlice 22 l c) (hl : a.eval l = .int .i64 (n : Int)) (hc : a.eval c = .int .i64 (n : Int))
    (h : ∀ b w', Below w.heap.size w w' → SH F w0 w' (.row B8 (.slice (some ⟨b, 0, none⟩) n n) (List.replicate n 0) :: L) → K (a.put o.dst (.slice (some ⟨b, 0, none⟩) n n)) w') : o.wp Try.prog a w K Q :=
  opV (exec_makeB n hn l c ho hl hc) (h _ _ (alloc_belowAt w _) (madeB H n hn))
theorem mk_third : ((mkL blankL 16).drop 96).take 32 = blankL.map cb := by
  have hb := blankL_len
  rw [mkL, ← List.map_drop, ← List.map_take]
  rw [show (List.replicate 16 blankL).flatten = (List.replicate 3 blankL).flatten ++ (blankL ++ (List.replicate 12 blankL).flatten) by simp only [List.replicate_succ, List.flatten_cons, List.replicate_zero, List.flatten_nil, List.append_nil, List.append_assoc]]
  rw [show (16 - 16) * 32 = 0 from rfl, List.replicate_zero, List.append_nil, List.drop_left' (by rw [repl_len _ hb]), List.take_left' hb]
set_option maxHeartbeats 3200000 in
theorem alive11_any (w : World) : Calls Try.prog 28 #[] w fun e w' => e = .returned (.bool true) ∧ Below w.heap.size w w' := by
  have H := SH.start Nil w
  have HML := Lib.hid (mkL_len blankL blankL_len 16 (by omega))
  have H3 := Lib.hid mk_third
  have HBL := Lib.hid (show (blankL.map cb).length = 32 by rw [List.length_map, blankL_len])
  have HQ := Lib.hid (fun W => (show (binOp .eql 27 (.agg (blankL.map cb).toArray) (.agg (blankL.map cb).toArray)).run Try.prog W = .ok (.bool true) W by rw [h32_eql _ _ blankL_len blankL_len W, beq_self_eq_true]))
  have HSum := Lib.hid (fun v W (h : RB W v (List.replicate 256 0)) => (show Calls Try.prog 82 #[v] W fun e w' => e = .returned (.agg (blankL.map cb).toArray) ∧ Below W.heap.size W w' from Sum_any v _ W h (by simp)))
  go_enter Try.func28, Try.ntmps28
  go_wp2_with (first
    | (go_at_call 76; refine (diskNew_any 32 (by decide) (by decide) _).mono ?_; rintro e w' ⟨bd, bo, rfl, H1⟩; replace H1 := H.join H1; (try dsimp only [List.cons_append, List.nil_append] at H1); clear H; have H := H1; clear H1)
    | (go_at_call 77; refine (mapNew_any 32 (by decide) (by decide) _).mono ?_; rintro e w' ⟨bm, rfl, H1⟩; replace H1 := H.join H1; (try dsimp only [List.cons_append, List.nil_append] at H1); clear H; have H := H1; clear H1)
    | (go_at_call 79; refine (bankOver_any bd bm 1 _ (by decide)).mono ?_; rintro e w' ⟨bk, rfl, H1⟩; replace H1 := H.join H1; (try dsimp only [List.cons_append, List.nil_append] at H1); clear H; have H := H1; clear H1)
    | ((with_reducible refine gDst 35 ?_); refine aBuildC _ _ rfl PT.hole.cells (by kernel_rfl) rfl ?_)
    | (go_at_call 78; refine (Make_hole _ (n := 32) (on := List.replicate (32 * 256) 0) ⟨H.hold.va (b := bk), H.hold.va (b := bd), H.hold.rr (.slice (some ⟨bo, 0, none⟩) (32 * 256) (32 * 256)), by decide, by decide, List.length_replicate⟩).mono ?_; rintro e w' ⟨rfl, hb⟩; replace H := H.step hb; clear hb)
    | (go_at_call 80; refine (Decode_nil _).mono ?_; rintro e w' ⟨rfl, hb⟩; replace H := H.step hb; clear hb)
    | ((with_reducible refine gSto (.tmp 5) (.tmp 37) ?_); refine aStore H _ _ rfl rfl rfl ⟨by rfl, HML.out⟩ (one_all _) rfl ?_; clear H; intro w' H; (try dsimp only at H))
    | ((with_reducible refine gDst 5 ?_); refine aAlloc H rfl rfl ?_; clear H; intro b5 w5 H)
    | ((with_reducible refine gDst 7 ?_); refine aAlloc H rfl rfl ?_; clear H; intro b7 w7 H)
    | ((with_reducible refine gBuild ?_); refine aZero rfl rfl ?_)
    | ((with_reducible refine gStore ?_); (first | (refine aStore H _ _ rfl rfl rfl (by (first | exact ⟨rfl, rfl⟩ | exact ⟨by decide, rfl⟩ | (simp []; done) | (constructor <;> simp [] <;> omega))) (by first | rfl | simp [List.all_append, one_all]) rfl ?_) | (refine aLay H _ _ rfl rfl rfl (by (first | exact ⟨rfl, rfl⟩ | exact ⟨by decide, rfl⟩ | (simp []; done) | (constructor <;> simp [] <;> omega))) (by first | rfl | simp [List.all_append, one_all]) (by simp only [lay, List.take_succ_cons, List.take_zero, List.drop_succ_cons, List.drop_zero, List.nil_append, List.cons_append, List.length_cons, List.length_nil, Nat.zero_add, Nat.reduceAdd]; rfl) rfl ?_)); clear H; intro w' H; try dsimp only at H))
  refine startA (fun i => false) (by kernel_rfl) (fun wS hS => ?_)
  replace H := H.drew
  rw [← hS] at H
  have HH := H.hold
  have HS0 : Below wS.heap.size wS wS := Below.refl _ _
  clear hS
  refine takeP 0 rfl (by kernel_rfl) (by kernel_rfl) (by kernel_rfl) (by kernel_rfl) (fun _ _ _ h => h) rfl (v := ?_) ?_ ?_
  rotate_left
  · intro w'; go_simp; (try with_reducible rfl)
  (try simp only [Act.put, List.setIfInBounds_toArray, List.set_cons_zero, List.set_cons_succ])
  refine takeP 1 rfl (by kernel_rfl) (by kernel_rfl) (by kernel_rfl) (by kernel_rfl) (fun _ _ _ h => h) rfl (v := ?_) ?_ ?_
  rotate_left
  · intro w'; go_simp; (try with_reducible rfl)
  (try simp only [Act.put, List.setIfInBounds_toArray, List.set_cons_zero, List.set_cons_succ])
  refine takeP 2 rfl (by kernel_rfl) (by kernel_rfl) (by kernel_rfl) (by kernel_rfl) (fun _ _ _ h => h) rfl (v := ?_) ?_ ?_
  rotate_left
  · intro w'; go_simp; (try with_reducible rfl)
  (try simp only [Act.put, List.setIfInBounds_toArray, List.set_cons_zero, List.set_cons_succ])
  refine takeP 3 rfl (by kernel_rfl) (by kernel_rfl) (by kernel_rfl) (by kernel_rfl) (fun _ _ _ h => h) rfl (v := ?_) ?_ ?_
  rotate_left
  · intro w'; go_simp; (try with_reducible rfl)
  (try simp only [Act.put, List.setIfInBounds_toArray, List.set_cons_zero, List.set_cons_succ])
  refine takeL 4 HS0 rfl (by kernel_rfl) (by kernel_rfl) (by kernel_rfl) (by kernel_rfl) (by kernel_rfl) (fun _ _ _ h => h) rfl (v := ?_) ?_ ?_
  rotate_left
  · intro w' hw'; refine Eq.trans (xLoad (HH.below hw') _ rfl rfl H3.out HBL.out) ?_; with_reducible rfl
  (try simp only [Act.put, List.setIfInBounds_toArray, List.set_cons_zero, List.set_cons_succ])
  refine stepL 5 rfl (by kernel_rfl) rfl (fun K hK => ?_)
  (go_simp; (with_reducible refine ((Blank_any _)).mono ?_); rintro e w' ⟨rfl, hb⟩; replace H := H.step hb; replace HS0 := below_two HS0 HS0.size hb; clear hb; refine hK.out _ _ (fun _ _ => HS0) ?_; clear K hK)
  (try simp only [Act.put, List.setIfInBounds_toArray, List.set_cons_zero, List.set_cons_succ])
  refine takeL 6 HS0 rfl (by kernel_rfl) (by kernel_rfl) (by kernel_rfl) (by kernel_rfl) (by kernel_rfl) (fun _ _ _ h => h) rfl (v := ?_) ?_ ?_
  rotate_left
  · intro w' hw'; refine Eq.trans (exec_eql 27 _ _ _ rfl _ _ rfl rfl h32_guard _ (HQ.out _)) ?_; with_reducible rfl
  (try simp only [Act.put, List.setIfInBounds_toArray, List.set_cons_zero, List.set_cons_succ])
  refine takeP 7 rfl (by kernel_rfl) (by kernel_rfl) (by kernel_rfl) (by kernel_rfl) (fun _ _ _ h => h) rfl (v := ?_) ?_ ?_
  rotate_left
  · intro w'; go_simp; (try with_reducible rfl)
  (try simp only [Act.put, List.setIfInBounds_toArray, List.set_cons_zero, List.set_cons_succ])
  refine takeP 8 rfl (by kernel_rfl) (by kernel_rfl) (by kernel_rfl) (by kernel_rfl) (fun _ _ _ h => h) rfl (v := ?_) ?_ ?_
  rotate_left
  · intro w'; go_simp; (try with_reducible rfl)
  (try simp only [Act.put, List.setIfInBounds_toArray, List.set_cons_zero, List.set_cons_succ])
  refine stepL2 9 10 rfl rfl (by kernel_rfl) rfl rfl (fun K hK => ?ord7_1_9) (fun K hK => ?ord7_1_10)
  case' ord7_1_9 =>
    (go_simp; (with_reducible refine ((Blank_any _)).mono ?_); rintro e w' ⟨rfl, hb⟩; replace H := H.step hb; replace HS0 := below_two HS0 HS0.size hb; clear hb; refine hK.out _ _ (fun _ _ => HS0) ?_; clear K hK)
    (try simp only [Act.put, List.setIfInBounds_toArray, List.set_cons_zero, List.set_cons_succ])
    refine stepL 10 rfl (by kernel_rfl) rfl (fun K hK => ?_)
    (refine oMakeB 256 (by decide) H _ _ rfl rfl rfl ?_; clear H; intro b10 w10 hb H; replace HS0 := below_two HS0 HS0.size hb; clear hb; refine hK.out _ _ (fun _ _ => HS0) ?_; clear K hK)
    (try simp only [Act.put, List.setIfInBounds_toArray, List.set_cons_zero, List.set_cons_succ])
    refine stepL 11 rfl (by kernel_rfl) rfl (fun K hK => ?_)
    (go_simp; (with_reducible refine ((HSum.out _ _ (H.hold.rr (.slice (some ⟨b10, 0, none⟩) 256 256)))).mono ?_); rintro e w' ⟨rfl, hb⟩; replace H := H.step hb; replace HS0 := below_two HS0 HS0.size hb; clear hb; refine hK.out _ _ (fun _ _ => HS0) ?_; clear K hK)
    (try simp only [Act.put, List.setIfInBounds_toArray, List.set_cons_zero, List.set_cons_succ])
    refine takeL 12 HS0 rfl (by kernel_rfl) (by kernel_rfl) (by kernel_rfl) (by kernel_rfl) (by kernel_rfl) (fun _ _ _ h => h) rfl (v := ?_) ?_ ?_
    rotate_left
    · intro w' hw'; refine Eq.trans (exec_eql 27 _ _ _ rfl _ _ rfl rfl h32_guard _ (HQ.out _)) ?_; with_reducible rfl
    (try simp only [Act.put, List.setIfInBounds_toArray, List.set_cons_zero, List.set_cons_succ])
    refine takeP 13 rfl (by kernel_rfl) (by kernel_rfl) (by kernel_rfl) (by kernel_rfl) (fun _ _ _ h => h) rfl (v := ?_) ?_ ?_
    rotate_left
    · intro w'; go_simp; (try with_reducible rfl)
    (try simp only [Act.put, List.setIfInBounds_toArray, List.set_cons_zero, List.set_cons_succ])
    refine takeP 14 rfl (by kernel_rfl) (by kernel_rfl) (by kernel_rfl) (by kernel_rfl) (fun _ _ _ h => h) rfl (v := ?_) ?_ ?_
    rotate_left
    · intro w'; go_simp; (try with_reducible rfl)
    (try simp only [Act.put, List.setIfInBounds_toArray, List.set_cons_zero, List.set_cons_succ])
    refine takeP 15 rfl (by kernel_rfl) (by kernel_rfl) (by kernel_rfl) (by kernel_rfl) (fun _ _ _ h => h) rfl (v := ?_) ?_ ?_
    rotate_left
    · intro w'; go_simp; (try with_reducible rfl)
    (try simp only [Act.put, List.setIfInBounds_toArray, List.set_cons_zero, List.set_cons_succ])
    refine takeP 16 rfl (by kernel_rfl) (by kernel_rfl) (by kernel_rfl) (by kernel_rfl) (fun _ _ _ h => h) rfl (v := ?_) ?_ ?_
    rotate_left
    · intro w'; go_simp; (try with_reducible rfl)
    (try simp only [Act.put, List.setIfInBounds_toArray, List.set_cons_zero, List.set_cons_succ])
    refine takeP 17 rfl (by kernel_rfl) (by kernel_rfl) (by kernel_rfl) (by kernel_rfl) (fun _ _ _ h => h) rfl (v := ?_) ?_ ?_
    rotate_left
    · intro w'; go_simp; (try with_reducible rfl)
    (try simp only [Act.put, List.setIfInBounds_toArray, List.set_cons_zero, List.set_cons_succ])
    refine takeP 18 rfl (by kernel_rfl) (by kernel_rfl) (by kernel_rfl) (by kernel_rfl) (fun _ _ _ h => h) rfl (v := ?_) ?_ ?_
    rotate_left
    · intro w'; go_simp; (try with_reducible rfl)
    (try simp only [Act.put, List.setIfInBounds_toArray, List.set_cons_zero, List.set_cons_succ])
    refine doneL (by kernel_rfl) ?_
  case' ord7_1_10 =>
    (refine oMakeB 256 (by decide) H _ _ rfl rfl rfl ?_; clear H; intro b10 w10 hb H; replace HS0 := below_two HS0 HS0.size hb; clear hb; refine hK.out _ _ (fun _ _ => HS0) ?_; clear K hK)
    (try simp only [Act.put, List.setIfInBounds_toArray, List.set_cons_zero, List.set_cons_succ])
    refine stepL 9 rfl (by kernel_rfl) rfl (fun K hK => ?_)
    (go_simp; (with_reducible refine ((Blank_any _)).mono ?_); rintro e w' ⟨rfl, hb⟩; replace H := H.step hb; replace HS0 := below_two HS0 HS0.size hb; clear hb; refine hK.out _ _ (fun _ _ => HS0) ?_; clear K hK)
    (try simp only [Act.put, List.setIfInBounds_toArray, List.set_cons_zero, List.set_cons_succ])
    refine stepL 11 rfl (by kernel_rfl) rfl (fun K hK => ?_)
    (go_simp; (with_reducible refine ((HSum.out _ _ (H.hold.rr (.slice (some ⟨b10, 0, none⟩) 256 256)))).mono ?_); rintro e w' ⟨rfl, hb⟩; replace H := H.step hb; replace HS0 := below_two HS0 HS0.size hb; clear hb; refine hK.out _ _ (fun _ _ => HS0) ?_; clear K hK)
    (try simp only [Act.put, List.setIfInBounds_toArray, List.set_cons_zero, List.set_cons_succ])
    refine takeL 12 HS0 rfl (by kernel_rfl) (by kernel_rfl) (by kernel_rfl) (by kernel_rfl) (by kernel_rfl) (fun _ _ _ h => h) rfl (v := ?_) ?_ ?_
    rotate_left
    · intro w' hw'; refine Eq.trans (exec_eql 27 _ _ _ rfl _ _ rfl rfl h32_guard _ (HQ.out _)) ?_; with_reducible rfl
    (try simp only [Act.put, List.setIfInBounds_toArray, List.set_cons_zero, List.set_cons_succ])
    refine takeP 13 rfl (by kernel_rfl) (by kernel_rfl) (by kernel_rfl) (by kernel_rfl) (fun _ _ _ h => h) rfl (v := ?_) ?_ ?_
    rotate_left
    · intro w'; go_simp; (try with_reducible rfl)
    (try simp only [Act.put, List.setIfInBounds_toArray, List.set_cons_zero, List.set_cons_succ])
    refine takeP 14 rfl (by kernel_rfl) (by kernel_rfl) (by kernel_rfl) (by kernel_rfl) (fun _ _ _ h => h) rfl (v := ?_) ?_ ?_
    rotate_left
    · intro w'; go_simp; (try with_reducible rfl)
    (try simp only [Act.put, List.setIfInBounds_toArray, List.set_cons_zero, List.set_cons_succ])
    refine takeP 15 rfl (by kernel_rfl) (by kernel_rfl) (by kernel_rfl) (by kernel_rfl) (fun _ _ _ h => h) rfl (v := ?_) ?_ ?_
    rotate_left
    · intro w'; go_simp; (try with_reducible rfl)
    (try simp only [Act.put, List.setIfInBounds_toArray, List.set_cons_zero, List.set_cons_succ])
    refine takeP 16 rfl (by kernel_rfl) (by kernel_rfl) (by kernel_rfl) (by kernel_rfl) (fun _ _ _ h => h) rfl (v := ?_) ?_ ?_
    rotate_left
    · intro w'; go_simp; (try with_reducible rfl)
    (try simp only [Act.put, List.setIfInBounds_toArray, List.set_cons_zero, List.set_cons_succ])
    refine takeP 17 rfl (by kernel_rfl) (by kernel_rfl) (by kernel_rfl) (by kernel_rfl) (fun _ _ _ h => h) rfl (v := ?_) ?_ ?_
    rotate_left
    · intro w'; go_simp; (try with_reducible rfl)
    (try simp only [Act.put, List.setIfInBounds_toArray, List.set_cons_zero, List.set_cons_succ])
    refine takeP 18 rfl (by kernel_rfl) (by kernel_rfl) (by kernel_rfl) (by kernel_rfl) (fun _ _ _ h => h) rfl (v := ?_) ?_ ?_
    rotate_left
    · intro w'; go_simp; (try with_reducible rfl)
    (try simp only [Act.put, List.setIfInBounds_toArray, List.set_cons_zero, List.set_cons_succ])
    refine doneL (by kernel_rfl) ?_
  all_goals
    go_wp2
    go_ret
    exact ⟨rfl, H.below⟩
end Go.Proofs.Ytbglebchnlfklaa

namespace Go.Proofs.Ytbglebchnlfklaa
set_option maxRecDepth 100000
open Go.RowKit Go.ChangeShapes Go.WideShapes

theorem wf_u8 {a : Int} (h : (Lit.int .u8 a).wf = true) : ∃ x : UInt8, a = (x.toNat : Int) := by
  simp [Lit.wf, IntKind.min, IntKind.max, IntKind.bits, IntKind.signed] at h
  refine ⟨UInt8.ofNat a.toNat, ?_⟩
  rw [UInt8.toNat_ofNat']
  omega
theorem wf_u32 {a : Int} (h : (Lit.int .u32 a).wf = true) : ∃ n : Nat, a = (n : Int) ∧ n < 4294967296 := by
  simp [Lit.wf, IntKind.min, IntKind.max, IntKind.bits, IntKind.signed] at h
  exact ⟨a.toNat, by omega, by omega⟩
theorem wf_u64 {a : Int} (h : (Lit.int .u64 a).wf = true) : ∃ n : Nat, a = (n : Int) ∧ n < 18446744073709551616 := by
  simp [Lit.wf, IntKind.min, IntKind.max, IntKind.bits, IntKind.signed] at h
  exact ⟨a.toNat, by omega, by omega⟩
theorem wf_i64 {a : Int} (h : (Lit.int .i64 a).wf = true) : -9223372036854775808 ≤ a ∧ a ≤ 9223372036854775807 := by
  simp [Lit.wf, IntKind.min, IntKind.max, IntKind.bits, IntKind.signed] at h
  omega

/-- A slice of bytes that came in. -/
theorem open_bytes {H : Type} {enc : TypeId × Value → H} {P : Program} {W : World} {base : Nat} {spare : Nat → Bool} {held : Bool} {t e : TypeId} {a : Option Addr} {len cap : Nat} {d : DataW H} {ps : List MemPlace}
    (hu : P.underlying t = some (.slice e)) (he : P.underlying e = some (.int .u8)) (hc : P.cellsOf e = 1)
    (h : DataW.Trod enc P W base spare held t (.slice a len cap) d ps) : ∃ xs : List UInt8, RR (U8 e) W (.slice a len cap) xs := by
  obtain ⟨fuel, hf⟩ := h
  rcases open_ints hu he hc hf with ⟨hcs, _⟩ | ⟨x, l, c, zs, hcs, _, hl, hm, hz, _, hcell, hwz⟩
  · simp [Value.cells] at hcs
    obtain ⟨rfl, rfl, rfl⟩ := hcs
    exact ⟨[], RR.nil W⟩
  · simp [Value.cells] at hcs
    obtain ⟨rfl, rfl, rfl⟩ := hcs
    have hlz : len ≤ zs.length := by
      rw [hz]
      split
      · exact hl
      · exact Nat.le_refl _
    have hz2 : ((zs.take len).map fun n => UInt8.ofNat n.toNat).length = len := by simp; omega
    refine ⟨(zs.take len).map fun n => UInt8.ofNat n.toNat, some x, cap, by rw [hz2], by omega, by simp only [maxLen] at hm; omega, fun _ => ⟨x, rfl, fun j u hj => ?_⟩⟩
    rw [U8_all] at hj
    have hjl : j < len := by have := (List.getElem?_eq_some_iff.1 hj).1; simp at this; omega
    rw [hcell j (by omega), ← hj]
    simp only [List.map_map, List.getElem?_map, List.getElem?_take, hjl, if_true, List.getElem?_eq_getElem (show j < zs.length by omega), Option.map_some, Function.comp_apply, cb, List.getD_eq_getElem?_getD, Option.getD_some]
    obtain ⟨b, hb⟩ := wf_u8 (hwz zs[j] (List.getElem_mem _))
    rw [hb]
    simp
end Go.Proofs.Ytbglebchnlfklaa

namespace Go.Proofs.Ytbglebchnlfklaa
set_option maxRecDepth 100000
open Go.RowKit Go.ChangeShapes Go.WideShapes

theorem trod_leaf {H : Type} {enc : TypeId × Value → H} {P : Program} {W : World} {base : Nat} {spare : Nat → Bool} {held : Bool} {t : TypeId} {k : IntKind} {cs : List Value} {x : DataW H × List MemPlace} {fuel : Nat}
    (hu : P.underlying t = some (.int k)) (h : DataW.trod enc P W base spare held fuel t cs = some x) : ∃ n, cs = [.int k n] ∧ (Lit.int k n).wf = true := by
  cases fuel with
  | zero => simp [DataW.trod] at h
  | succ fuel =>
    rcases cs with _ | ⟨v, _ | ⟨u, r⟩⟩
    · simp [DataW.trod, hu] at h
    · cases v <;> simp [DataW.trod, hu] at h
      rename_i k' n
      obtain ⟨⟨rfl, h1⟩, _⟩ := h
      exact ⟨n, rfl, h1⟩
    · simp [DataW.trod, hu] at h
theorem mapM_each {β γ : Type} (f : β → Option γ) : ∀ (l : List β) (r : List γ), l.mapM f = some r → ∀ x ∈ l, ∃ y, f x = some y
  | [], _, _, x, hx => by simp at hx
  | b :: l, r, h, x, hx => by
    simp only [List.mapM_cons, Option.bind_eq_bind, Option.pure_def] at h
    cases hb : f b with
    | none => simp [hb] at h
    | some y =>
      cases hl : l.mapM f with
      | none => simp [hb, hl] at h
      | some ys =>
        rcases List.mem_cons.mp hx with rfl | hx
        · exact ⟨y, hb⟩
        · exact mapM_each f l ys hl x hx
/-- A row of m elements, each one of which reads. -/
theorem trod_array {H : Type} {enc : TypeId × Value → H} {P : Program} {W : World} {base : Nat} {spare : Nat → Bool} {held : Bool} {t e : TypeId} {m : Nat} {cs : List Value} {x : DataW H × List MemPlace} {fuel : Nat}
    (hu : P.underlying t = some (.array m e)) (h : DataW.trod enc P W base spare held (fuel + 1) t cs = some x) :
    cs.length = P.cellsOf t ∧ ∀ i, i < m → ∃ y, DataW.trod enc P W base spare held fuel e ((cs.drop (i * P.cellsOf e)).take (P.cellsOf e)) = some y := by
  unfold DataW.trod at h
  rw [hu] at h
  simp only at h
  split at h
  · rename_i hl
    refine ⟨hl, fun i hi => ?_⟩
    cases hm : (List.range m).mapM fun i => DataW.trod enc P W base spare held fuel e ((cs.drop (i * P.cellsOf e)).take (P.cellsOf e)) with
    | none => simp [hm] at h
    | some r => exact mapM_each _ _ _ hm i (by simpa using hi)
  · cases h
theorem trod_fields {H : Type} {enc : TypeId × Value → H} {P : Program} {W : World} {base : Nat} {spare : Nat → Bool} {held : Bool} {t : TypeId} {fs : Array Field} {cs : List Value} {x : DataW H × List MemPlace} {fuel : Nat}
    (hu : P.underlying t = some (.struct fs)) (h : DataW.trod enc P W base spare held (fuel + 1) t cs = some x) :
    cs.length = P.cellsOf t ∧ ∀ f ∈ fs.toList, ∃ y, DataW.trod enc P W base spare held fuel f.type ((cs.drop f.offset).take (P.cellsOf f.type)) = some y := by
  unfold DataW.trod at h
  rw [hu] at h
  simp only at h
  split at h
  · rename_i hl
    refine ⟨hl, fun f hf => ?_⟩
    cases hm : fs.toList.mapM fun f => DataW.trod enc P W base spare held fuel f.type ((cs.drop f.offset).take (P.cellsOf f.type)) with
    | none => simp [hm] at h
    | some r => exact mapM_each _ _ _ hm f hf
  · cases h

/-- A list, each cell of which is told. -/
theorem list_of {α : Type} (f : α → Value) (cs : List Value) (h : ∀ i, i < cs.length → ∃ x, cs[i]? = some (f x)) : ∃ l : List α, l.length = cs.length ∧ cs = l.map f := by
  induction cs with
  | nil => exact ⟨[], rfl, rfl⟩
  | cons c cs ih =>
    obtain ⟨x, hx⟩ := h 0 (by simp)
    obtain ⟨l, hl, he⟩ := ih (fun i hi => by
      obtain ⟨y, hy⟩ := h (i + 1) (by simpa using hi)
      exact ⟨y, by simpa using hy⟩)
    refine ⟨x :: l, by simp [hl], ?_⟩
    rw [List.map_cons, ← he]
    simp at hx
    rw [hx]
theorem wf_u32' {a : Int} (h : (Lit.int .u32 a).wf = true) : ∃ x : UInt32, a = (x.toNat : Int) := by
  obtain ⟨n, rfl, hn⟩ := wf_u32 h
  exact ⟨UInt32.ofNat n, by rw [UInt32.toNat_ofNat', Nat.mod_eq_of_lt hn]⟩
theorem take_one {cs : List Value} {i : Nat} {v : Value} (h : (cs.drop i).take 1 = [v]) : cs[i]? = some v := by
  have := congrArg (fun l => l[0]?) h
  simp only [List.getElem?_take, List.getElem?_drop, Nat.add_zero] at this
  simpa using this

theorem open_pt {H : Type} {enc : TypeId × Value → H} {W : World} {base : Nat} {spare : Nat → Bool} {held : Bool} {cs : List Value} {x : DataW H × List MemPlace} {fuel : Nat}
    (h : DataW.trod enc Try.prog W base spare held fuel 30 cs = some x) : ∃ p : PT, cs = p.cells := by
  cases fuel with
  | zero => simp [DataW.trod] at h
  | succ fuel =>
    have hc35 : Try.prog.cellsOf 30 = 35 := by kernel_rfl
    have hc32 : Try.prog.cellsOf 27 = 32 := by kernel_rfl
    have hc2 : Try.prog.cellsOf 28 = 2 := by kernel_rfl
    have hc1 : Try.prog.cellsOf 5 = 1 := by kernel_rfl
    have hc4 : Try.prog.cellsOf 24 = 1 := by kernel_rfl
    obtain ⟨hl, hf⟩ := trod_fields Try.underlying30 h
    rw [hc35] at hl
    simp only [List.mem_cons, List.not_mem_nil, or_false, forall_eq_or_imp, forall_eq] at hf
    obtain ⟨⟨y0, h0⟩, ⟨y1, h1⟩, ⟨y2, h2⟩⟩ := hf
    rw [hc32, List.drop_zero] at h0
    rw [hc4] at h1
    rw [hc2] at h2
    cases fuel with
    | zero => simp [DataW.trod] at h0
    | succ fuel =>
      obtain ⟨hl0, ha0⟩ := trod_array Try.underlying27 h0
      obtain ⟨hl2, ha2⟩ := trod_array Try.underlying28 h2
      obtain ⟨nb, eb, wb⟩ := trod_leaf Try.underlying24 h1
      obtain ⟨b, rfl⟩ := wf_u32' wb
      have hu8 : ∀ i, i < 32 → ∃ x : UInt8, (cs.take 32)[i]? = some (cb x) := fun i hi => by
        obtain ⟨y, hy⟩ := ha0 i hi
        rw [hc1] at hy
        obtain ⟨n, en, wn⟩ := trod_leaf Try.underlying5 hy
        obtain ⟨z, rfl⟩ := wf_u8 wn
        rw [Nat.mul_one] at en
        exact ⟨z, take_one en⟩
      have hu32 : ∀ i, i < 2 → ∃ x : UInt32, ((cs.drop 33).take 2)[i]? = some (u32 x) := fun i hi => by
        obtain ⟨y, hy⟩ := ha2 i hi
        rw [hc4] at hy
        obtain ⟨n, en, wn⟩ := trod_leaf Try.underlying24 hy
        obtain ⟨z, rfl⟩ := wf_u32' wn
        rw [Nat.mul_one] at en
        exact ⟨z, take_one en⟩
      have hlt : (cs.take 32).length = 32 := by rw [List.length_take]; omega
      obtain ⟨hh, hhl, hhe⟩ := list_of cb (cs.take 32) (fun i hi => hu8 i (by omega))
      obtain ⟨z0, hz0⟩ := hu32 0 (by omega)
      obtain ⟨z1, hz1⟩ := hu32 1 (by omega)
      refine ⟨⟨hh, by rw [hhl, hlt], b, z0, z1⟩, ?_⟩
      have e1 := take_one eb
      rw [List.getElem?_take, List.getElem?_drop] at hz0 hz1
      simp only [Nat.add_zero, Nat.reduceAdd] at hz0 hz1
      rw [if_pos (by omega)] at hz0 hz1
      obtain ⟨k0, g0⟩ := List.getElem?_eq_some_iff.1 e1
      obtain ⟨k1, g1⟩ := List.getElem?_eq_some_iff.1 hz0
      obtain ⟨k2, g2⟩ := List.getElem?_eq_some_iff.1 hz1
      have hd : cs.drop 32 = [u32 b, u32 z0, u32 z1] := by
        rw [List.drop_eq_getElem_cons k0, List.drop_eq_getElem_cons k1, List.drop_eq_getElem_cons k2, g0, g1, g2, List.drop_of_length_le (by omega)]
        rfl
      unfold PT.cells
      rw [← hhe, ← hd, List.take_append_drop]

theorem open_ptr {H : Type} {enc : TypeId × Value → H} {W : World} {base : Nat} {spare : Nat → Bool} {held : Bool} {v : Value} {d : DataW H} {ps : List MemPlace} {r : Reach} {b2 : Nat} {W2 : World}
    (h : DataW.Trod enc Try.prog W base spare held 30 v d ps) (hv : Value.okWide Try.prog W2 r b2 30 v) : ∃ p : PT, v = p.val := by
  obtain ⟨cs, rfl, _⟩ := okWide_struct Try.underlying30 hv
  obtain ⟨fuel, hf⟩ := h
  obtain ⟨p, hp⟩ := open_pt hf
  refine ⟨p, ?_⟩
  unfold PT.val
  rw [← hp]
  simp [Value.cells]

theorem open_pts : ∀ (n : Nat) (cs : List Value), cs.length = n * 35 → (∀ i, i < n → ∃ p : PT, (cs.drop (i * 35)).take 35 = p.cells) → ∃ l : List PT, l.length = n ∧ cs = l.flatMap PT.cells
  | 0, cs, hl, _ => ⟨[], rfl, by simpa using List.length_eq_zero_iff.mp (by omega)⟩
  | n + 1, cs, hl, h => by
    obtain ⟨p, hp⟩ := h 0 (by omega)
    obtain ⟨l, h1, h2⟩ := open_pts n (cs.drop 35) (by rw [List.length_drop]; omega) (fun i hi => by
      obtain ⟨q, hq⟩ := h (i + 1) (by omega)
      exact ⟨q, by rw [List.drop_drop, ← hq]; congr 2; omega⟩)
    refine ⟨p :: l, by simp [h1], ?_⟩
    rw [List.flatMap_cons, ← hp, ← h2]
    simp
theorem open_ptr4 {H : Type} {enc : TypeId × Value → H} {W : World} {base : Nat} {spare : Nat → Bool} {held : Bool} {v : Value} {d : DataW H} {ps : List MemPlace} {r : Reach} {b2 : Nat} {W2 : World}
    (h : DataW.Trod enc Try.prog W base spare held 167 v d ps) (hv : Value.okWide Try.prog W2 r b2 167 v) : ∃ l : PL, v = l.val := by
  have hw : ∃ cs, v = .agg cs := by
    simp only [Value.okWide, Try.underlying167] at hv
    obtain ⟨cs, h1, _⟩ := hv
    exact ⟨cs, h1⟩
  obtain ⟨cs, rfl⟩ := hw
  obtain ⟨fuel, hf⟩ := h
  cases fuel with
  | zero => simp [DataW.trod] at hf
  | succ fuel =>
    have hc : Try.prog.cellsOf 167 = 140 := by kernel_rfl
    have hc35 : Try.prog.cellsOf 30 = 35 := by kernel_rfl
    obtain ⟨hl, ha⟩ := trod_array Try.underlying167 hf
    rw [hc] at hl
    obtain ⟨l, h1, h2⟩ := open_pts 4 (Value.agg cs).cells.toList (by rw [hl]) (fun i hi => by
      obtain ⟨y, hy⟩ := ha i hi
      rw [hc35] at hy
      exact open_pt hy)
    refine ⟨⟨l, h1⟩, ?_⟩
    unfold PL.val PL.cells
    rw [← h2]
    simp [Value.cells]
end Go.Proofs.Ytbglebchnlfklaa

namespace Go.Proofs.Ytbglebchnlfklaa
set_option maxRecDepth 100000
open Go.RowKit Go.ChangeShapes Go.WideShapes

/-- Sixteen hashes. -/
abbrev M16 := RowOf H32 16
def M16.cells (m : M16) : List Value := m.1.flatMap fun x => x.1.map cb
def M16.val (m : M16) : Value := .agg m.cells.toArray
def M16.zero : M16 := ⟨List.replicate 16 ⟨List.replicate 32 0, rfl⟩, rfl⟩
theorem open_h32 {H : Type} {enc : TypeId × Value → H} {W : World} {base : Nat} {spare : Nat → Bool} {held : Bool} {cs : List Value} {x : DataW H × List MemPlace} {fuel : Nat}
    (h : DataW.trod enc Try.prog W base spare held fuel 27 cs = some x) : ∃ p : H32, cs = p.1.map cb := by
  cases fuel with
  | zero => simp [DataW.trod] at h
  | succ fuel =>
    have hc32 : Try.prog.cellsOf 27 = 32 := by kernel_rfl
    have hc1 : Try.prog.cellsOf 5 = 1 := by kernel_rfl
    obtain ⟨hl0, ha0⟩ := trod_array Try.underlying27 h
    rw [hc32] at hl0
    obtain ⟨l, h1, h2⟩ := list_of cb cs (fun i hi => by
      obtain ⟨y, hy⟩ := ha0 i (by omega)
      rw [hc1] at hy
      obtain ⟨n, en, wn⟩ := trod_leaf Try.underlying5 hy
      obtain ⟨z, rfl⟩ := wf_u8 wn
      rw [Nat.mul_one] at en
      exact ⟨z, take_one en⟩)
    exact ⟨⟨l, by omega⟩, h2⟩
theorem open_h32s : ∀ (n : Nat) (cs : List Value), cs.length = n * 32 → (∀ i, i < n → ∃ p : H32, (cs.drop (i * 32)).take 32 = p.1.map cb) → ∃ l : List H32, l.length = n ∧ cs = l.flatMap fun x => x.1.map cb
  | 0, cs, hl, _ => ⟨[], rfl, by simpa using List.length_eq_zero_iff.mp (by omega)⟩
  | n + 1, cs, hl, h => by
    obtain ⟨p, hp⟩ := h 0 (by omega)
    obtain ⟨l, h1, h2⟩ := open_h32s n (cs.drop 32) (by rw [List.length_drop]; omega) (fun i hi => by
      obtain ⟨q, hq⟩ := h (i + 1) (by omega)
      exact ⟨q, by rw [List.drop_drop, ← hq]; congr 2; omega⟩)
    refine ⟨p :: l, by simp [h1], ?_⟩
    rw [List.flatMap_cons, ← hp, ← h2]
    simp
theorem open_h16 {H : Type} {enc : TypeId × Value → H} {W : World} {base : Nat} {spare : Nat → Bool} {held : Bool} {v : Value} {d : DataW H} {ps : List MemPlace} {r : Reach} {b2 : Nat} {W2 : World}
    (h : DataW.Trod enc Try.prog W base spare held 54 v d ps) (hv : Value.okWide Try.prog W2 r b2 54 v) : ∃ l : M16, v = l.val := by
  have hw : ∃ cs, v = .agg cs := by
    simp only [Value.okWide, Try.underlying54] at hv
    obtain ⟨cs, h1, _⟩ := hv
    exact ⟨cs, h1⟩
  obtain ⟨cs, rfl⟩ := hw
  obtain ⟨fuel, hf⟩ := h
  cases fuel with
  | zero => simp [DataW.trod] at hf
  | succ fuel =>
    have hc : Try.prog.cellsOf 54 = 512 := by kernel_rfl
    have hc35 : Try.prog.cellsOf 27 = 32 := by kernel_rfl
    obtain ⟨hl, ha⟩ := trod_array Try.underlying54 hf
    rw [hc] at hl
    obtain ⟨l, h1, h2⟩ := open_h32s 16 (Value.agg cs).cells.toList (by rw [hl]) (fun i hi => by
      obtain ⟨y, hy⟩ := ha i hi
      rw [hc35] at hy
      exact open_h32 hy)
    refine ⟨⟨l, h1⟩, ?_⟩
    unfold M16.val M16.cells
    rw [← h2]
    simp [Value.cells]
end Go.Proofs.Ytbglebchnlfklaa

namespace Go.Proofs.Ytbglebchnlfklaa
set_option maxRecDepth 100000
open Go.RowKit
set_option linter.unusedSimpArgs false
set_option linter.unusedVariables false

theorem flat32 (hs : List H32) : (hs.flatMap fun x => x.1.map cb).length = hs.length * 32 := by
  induction hs with
  | nil => rfl
  | cons x hs ih => rw [List.flatMap_cons, List.length_append, List.length_map, x.2, ih, List.length_cons]; omega
theorem M16.len (m : M16) : m.cells.length = 512 := by rw [M16.cells, flat32, m.2]
theorem M16.one (m : M16) : (m.cells.all fun u => u.oneCell') = true := by
  rw [M16.cells, List.all_flatMap]
  exact List.all_eq_true.2 fun x _ => one_all x.1
theorem all_h32 (hs : List H32) : H32T.all hs = hs.flatMap fun x => x.1.map cb := rfl
/-- A part of a manifest that lies in a block. -/
theorem VA.h16 {w : World} {b : Nat} {t : TypeId} {m : M16} (h : VA w b t m.cells) (l k c : Nat) (hl : l + k ≤ 16) (hc : k ≤ c) : RR H32T w (.slice (some ⟨b, l * 32, none⟩) k c) ((m.1.drop l).take k) := by
  have hm := m.2
  have e : ((m.1.drop l).take k).length = k := by rw [List.length_take, List.length_drop]; omega
  refine ⟨some ⟨b, l * 32, none⟩, c, by rw [e], by omega, by omega, fun _ => ⟨_, rfl, fun j u hj => ?_⟩⟩
  rw [Addr.add_mid, h.cell, ← hj, M16.cells, ← all_h32, ← Ty.all_take, ← Ty.all_drop, List.getElem?_take, List.getElem?_drop]
  have hj2 : j < k * H32T.sz := by
    have := (List.getElem?_eq_some_iff.1 hj).1
    rw [Ty.all_length, e] at this
    exact this
  rw [if_pos hj2]
  rfl
theorem cutM (b l h : Nat) (h1 : l < h) (h2 : h ≤ 16) (W : World) : (Instr.sliceAt 54 (.pointer (some ⟨b, 0, none⟩)) (some (.int .i64 (l : Int))) (some (.int .i64 (h : Int))) none).run Try.prog W = .ok (.slice (some ⟨b, l * 32, none⟩) (h - l) (16 - l)) W := by
  have hel : Try.prog.elem 54 = 27 := by simp [Program.elem, Try.underlying54]
  have hal : Try.prog.arrayLen 54 = 16 := by simp [Program.arrayLen, Try.underlying54]
  have hne : (16 : Nat) ≠ l := by omega
  rw [run_sliceAt_array_lh W 54 ⟨b, 0, none⟩ (by rw [hal, hel]; exact Try.underlying54) .i64 .i64 (l : Int) (h : Int) (by omega) (by omega) (by rw [hal]; omega), hel, sizeOf_ok (n := 32) (by kernel_rfl), hal]
  simp only [Result.andThen_ok, slicedAt, Int.toNat_natCast, if_neg hne]
  rw [show (⟨b, 0, none⟩ : Addr).add (l * 32) = ⟨b, l * 32, none⟩ by rw [Addr.add_mid, Nat.zero_add]]
def rangeL (m : M16) (lo hi : Int) : List UInt8 := if lo < 0 ∨ 16 < hi ∨ hi ≤ lo then List.replicate 32 0 else treeL (hL ((m.1.drop lo.toNat).take (hi.toNat - lo.toNat)))
def rangeE (lo hi : Int) : Int := if lo < 0 ∨ 16 < hi ∨ hi ≤ lo then 1 else 0
theorem rangeL_len (m : M16) (lo hi : Int) : (rangeL m lo hi).length = 32 := by
  rw [rangeL]
  split
  · simp
  · exact tree_hL _
set_option maxHeartbeats 1600000 in
theorem Digest_any (m : M16) (w : World) : Calls Try.prog 29 #[.agg m.cells.toArray] w fun e w' => e = .returned (.agg ((treeL (hL m.1)).map cb).toArray) ∧ Below w.heap.size w w' := by
  have H := SH.start Nil w
  have HT := Lib.hid (fun v W (h : RR H32T W v m.1) => Tree_any m.1 v W (by rw [m.2]; decide) h)
  have HL := Lib.hid (show ((treeL (hL m.1)).map cb).length = 32 by rw [List.length_map, tree_hL])
  have HV := Lib.hid (fun W b t (h : VA W b t m.cells) => (show RR H32T W (.slice (some ⟨b, 0, none⟩) 16 16) m.1 by
    have k := h.h16 0 16 16 (by omega) (by omega)
    rw [List.drop_zero, List.take_of_length_le (by rw [m.2]; exact Nat.le_refl _)] at k
    exact k))
  go_enter Try.func29, Try.ntmps29
  go_wp2_with (first
    | (go_at_call 74; refine (HT.out _ _ (HV.out _ _ _ (H.hold.va (b := b1)))).mono ?_; rintro e w' ⟨rfl, hb⟩; replace H := H.step hb; clear hb)
    | ((with_reducible refine gSto (.tmp 2) (.tmp 4) ?_); refine aStore H _ _ rfl rfl rfl ⟨by rfl, HL.out⟩ (one_all _) rfl ?_; clear H; intro w' H; (try dsimp only at H))
    | ((with_reducible refine gDst 1 ?_); refine aBox H _ rfl rfl rfl ?_; clear H; intro b1 w1 H)
    | ((with_reducible refine gDst 2 ?_); refine aAlloc H rfl rfl ?_; clear H; intro b2 w2 H)
    | ((with_reducible refine gStore ?_); (first | (refine aStore H _ _ rfl rfl rfl (by (first | exact ⟨rfl, rfl⟩ | exact ⟨by decide, rfl⟩ | (simp []; done) | (constructor <;> simp [] <;> omega))) (by first | rfl | simp [List.all_append, one_all]) rfl ?_) | (refine aLay H _ _ rfl rfl rfl (by (first | exact ⟨rfl, rfl⟩ | exact ⟨by decide, rfl⟩ | (simp []; done) | (constructor <;> simp [] <;> omega))) (by first | rfl | simp [List.all_append, one_all]) (by simp only [lay, List.take_succ_cons, List.take_zero, List.drop_succ_cons, List.drop_zero, List.nil_append, List.cons_append, List.length_cons, List.length_nil, Nat.zero_add, Nat.reduceAdd]; rfl) rfl ?_)); clear H; intro w' H; try dsimp only at H))
  refine bodyPost_ret (res_cell rfl _ H.hold rfl HL.out) rfl ?_
  exact ⟨rfl, H.below⟩
set_option maxHeartbeats 1600000 in
theorem rDigest_any (m : M16) (w : World) : Calls Try.prog 30 #[.agg m.cells.toArray] w fun e w' => e = .returned (.agg ((treeL (hL m.1)).map cb).toArray) ∧ Below w.heap.size w w' := by
  have H := SH.start Nil w
  have HT := Lib.hid (fun v W (h : RR H32T W v m.1) => rTree_any m.1 v W (by rw [m.2]; decide) h)
  have HL := Lib.hid (show ((treeL (hL m.1)).map cb).length = 32 by rw [List.length_map, tree_hL])
  have HV := Lib.hid (fun W b t (h : VA W b t m.cells) => (show RR H32T W (.slice (some ⟨b, 0, none⟩) 16 16) m.1 by
    have k := h.h16 0 16 16 (by omega) (by omega)
    rw [List.drop_zero, List.take_of_length_le (by rw [m.2]; exact Nat.le_refl _)] at k
    exact k))
  go_enter Try.func30, Try.ntmps30
  go_wp2_with (first
    | (go_at_call 75; refine (HT.out _ _ (HV.out _ _ _ (H.hold.va (b := b1)))).mono ?_; rintro e w' ⟨rfl, hb⟩; replace H := H.step hb; clear hb)
    | ((with_reducible refine gSto (.tmp 2) (.tmp 4) ?_); refine aStore H _ _ rfl rfl rfl ⟨by rfl, HL.out⟩ (one_all _) rfl ?_; clear H; intro w' H; (try dsimp only at H))
    | ((with_reducible refine gDst 1 ?_); refine aBox H _ rfl rfl rfl ?_; clear H; intro b1 w1 H)
    | ((with_reducible refine gDst 2 ?_); refine aAlloc H rfl rfl ?_; clear H; intro b2 w2 H)
    | ((with_reducible refine gStore ?_); (first | (refine aStore H _ _ rfl rfl rfl (by (first | exact ⟨rfl, rfl⟩ | exact ⟨by decide, rfl⟩ | (simp []; done) | (constructor <;> simp [] <;> omega))) (by first | rfl | simp [List.all_append, one_all]) rfl ?_) | (refine aLay H _ _ rfl rfl rfl (by (first | exact ⟨rfl, rfl⟩ | exact ⟨by decide, rfl⟩ | (simp []; done) | (constructor <;> simp [] <;> omega))) (by first | rfl | simp [List.all_append, one_all]) (by simp only [lay, List.take_succ_cons, List.take_zero, List.drop_succ_cons, List.drop_zero, List.nil_append, List.cons_append, List.length_cons, List.length_nil, Nat.zero_add, Nat.reduceAdd]; rfl) rfl ?_)); clear H; intro w' H; try dsimp only at H))
  refine bodyPost_ret (res_cell rfl _ H.hold rfl HL.out) rfl ?_
  exact ⟨rfl, H.below⟩
set_option maxHeartbeats 1600000 in
theorem Range_any (m : M16) (lo hi : Int) (w : World) : Calls Try.prog 26 #[.agg m.cells.toArray, .int .i64 lo, .int .i64 hi] w fun e w' => e = .returned (.tuple #[.agg ((rangeL m lo hi).map cb).toArray, .int .i64 (rangeE lo hi)]) ∧ Below w.heap.size w w' := by
  have H := SH.start Nil w
  by_cases hb : lo < 0 ∨ 16 < hi ∨ hi ≤ lo
  · by_cases h1 : lo < 0
    · have i1 : (lo < 0) = True := eq_true h1
      go_enter Try.func26, Try.ntmps26
      go_wp2_with (first
        | ((with_reducible refine gDst 3 ?_); refine aBox H _ rfl rfl rfl ?_; clear H; intro b3 w3 H)
        | ((with_reducible refine gDst 6 ?_); refine aAlloc H rfl rfl ?_; clear H; intro b6 w6 H)
        | ((with_reducible refine gBuild ?_); refine aZero rfl rfl ?_)
        | ((with_reducible refine gStore ?_); (first | (refine aStore H _ _ rfl rfl rfl (by (first | exact ⟨rfl, rfl⟩ | exact ⟨by decide, rfl⟩ | (simp []; done) | (constructor <;> simp [] <;> omega))) (by first | rfl | simp [List.all_append, one_all]) rfl ?_) | (refine aLay H _ _ rfl rfl rfl (by (first | exact ⟨rfl, rfl⟩ | exact ⟨by decide, rfl⟩ | (simp []; done) | (constructor <;> simp [] <;> omega))) (by first | rfl | simp [List.all_append, one_all]) (by simp only [lay, List.take_succ_cons, List.take_zero, List.drop_succ_cons, List.drop_zero, List.nil_append, List.cons_append, List.length_cons, List.length_nil, Nat.zero_add, Nat.reduceAdd]; rfl) rfl ?_)); clear H; intro w' H; try dsimp only at H))
      refine bodyPost_ret (res_cell_tmp rfl _ H.hold rfl rfl) rfl ?_
      exact ⟨by rw [rangeL, rangeE, if_pos hb, if_pos hb]; rfl, H.below⟩
    · have i1 : (lo < 0) = False := eq_false h1
      by_cases h2 : 16 < hi
      · have i2 : ((16 : Int) < hi) = True := eq_true h2
        go_enter Try.func26, Try.ntmps26
        go_wp2_with (first
          | ((with_reducible refine gDst 3 ?_); refine aBox H _ rfl rfl rfl ?_; clear H; intro b3 w3 H)
          | ((with_reducible refine gDst 6 ?_); refine aAlloc H rfl rfl ?_; clear H; intro b6 w6 H)
          | ((with_reducible refine gBuild ?_); refine aZero rfl rfl ?_)
          | ((with_reducible refine gStore ?_); (first | (refine aStore H _ _ rfl rfl rfl (by (first | exact ⟨rfl, rfl⟩ | exact ⟨by decide, rfl⟩ | (simp []; done) | (constructor <;> simp [] <;> omega))) (by first | rfl | simp [List.all_append, one_all]) rfl ?_) | (refine aLay H _ _ rfl rfl rfl (by (first | exact ⟨rfl, rfl⟩ | exact ⟨by decide, rfl⟩ | (simp []; done) | (constructor <;> simp [] <;> omega))) (by first | rfl | simp [List.all_append, one_all]) (by simp only [lay, List.take_succ_cons, List.take_zero, List.drop_succ_cons, List.drop_zero, List.nil_append, List.cons_append, List.length_cons, List.length_nil, Nat.zero_add, Nat.reduceAdd]; rfl) rfl ?_)); clear H; intro w' H; try dsimp only at H))
        refine bodyPost_ret (res_cell_tmp rfl _ H.hold rfl rfl) rfl ?_
        exact ⟨by rw [rangeL, rangeE, if_pos hb, if_pos hb]; rfl, H.below⟩
      · have i2 : ((16 : Int) < hi) = False := eq_false h2
        have i3 : (hi ≤ lo) = True := eq_true (by omega)
        go_enter Try.func26, Try.ntmps26
        go_wp2_with (first
          | ((with_reducible refine gDst 3 ?_); refine aBox H _ rfl rfl rfl ?_; clear H; intro b3 w3 H)
          | ((with_reducible refine gDst 6 ?_); refine aAlloc H rfl rfl ?_; clear H; intro b6 w6 H)
          | ((with_reducible refine gBuild ?_); refine aZero rfl rfl ?_)
          | ((with_reducible refine gStore ?_); (first | (refine aStore H _ _ rfl rfl rfl (by (first | exact ⟨rfl, rfl⟩ | exact ⟨by decide, rfl⟩ | (simp []; done) | (constructor <;> simp [] <;> omega))) (by first | rfl | simp [List.all_append, one_all]) rfl ?_) | (refine aLay H _ _ rfl rfl rfl (by (first | exact ⟨rfl, rfl⟩ | exact ⟨by decide, rfl⟩ | (simp []; done) | (constructor <;> simp [] <;> omega))) (by first | rfl | simp [List.all_append, one_all]) (by simp only [lay, List.take_succ_cons, List.take_zero, List.drop_succ_cons, List.drop_zero, List.nil_append, List.cons_append, List.length_cons, List.length_nil, Nat.zero_add, Nat.reduceAdd]; rfl) rfl ?_)); clear H; intro w' H; try dsimp only at H))
        refine bodyPost_ret (res_cell_tmp rfl _ H.hold rfl rfl) rfl ?_
        exact ⟨by rw [rangeL, rangeE, if_pos hb, if_pos hb]; rfl, H.below⟩
  · obtain ⟨l, rfl⟩ : ∃ l : Nat, lo = (l : Int) := ⟨lo.toNat, by omega⟩
    obtain ⟨h, rfl⟩ : ∃ h : Nat, hi = (h : Int) := ⟨hi.toNat, by omega⟩
    have i1 : ((l : Int) < 0) = False := eq_false (by omega)
    have i2 : ((16 : Int) < (h : Int)) = False := eq_false (by omega)
    have i3 : ((h : Int) ≤ (l : Int)) = False := eq_false (by omega)
    have hsl := fun (b : Nat) (W : World) => cutM b l h (by omega) (by omega) W
    have hl1 : l + (h - l) ≤ 16 := by omega
    have hl2 : h - l ≤ 16 - l := by omega
    have hh16 : (h : Int) ≤ 16 := by omega
    have hlh : (l : Int) < (h : Int) := by omega
    have e1 : rangeL m (l : Int) (h : Int) = treeL (hL ((m.1.drop l).take (h - l))) := by rw [rangeL, if_neg hb]; rfl
    have e2 : rangeE (l : Int) (h : Int) = 0 := by rw [rangeE, if_neg hb]
    rw [e1, e2]
    have HT := Lib.hid (fun v W (k : RR H32T W v ((m.1.drop l).take (h - l))) => Tree_any _ v W (by rw [List.length_take]; omega) k)
    have HL := Lib.hid (show ((treeL (hL ((m.1.drop l).take (h - l)))).map cb).length = 32 by rw [List.length_map, tree_hL])
    have HV := Lib.hid (fun (W : World) (b : Nat) (k : VA W b 54 m.cells) => k.h16 l (h - l) (16 - l) hl1 hl2)
    clear e1 e2 hb
    go_enter Try.func26, Try.ntmps26
    go_wp2_with (first
      | (go_at_call 74; refine (HT.out _ _ (HV.out _ _ (H.hold.va (b := b3)))).mono ?_; rintro e w' ⟨rfl, hb⟩; replace H := H.step hb; clear hb)
      | ((with_reducible refine gSto (.tmp 6) (.tmp 23) ?_); refine aStore H _ _ rfl rfl rfl ⟨by rfl, HL.out⟩ (one_all _) rfl ?_; clear H; intro w' H; (try dsimp only at H))
      | ((with_reducible refine gDst 3 ?_); refine aBox H _ rfl rfl rfl ?_; clear H; intro b3 w3 H)
      | ((with_reducible refine gDst 6 ?_); refine aAlloc H rfl rfl ?_; clear H; intro b6 w6 H)
      | ((with_reducible refine gBuild ?_); refine aZero rfl rfl ?_)
      | ((with_reducible refine gStore ?_); (first | (refine aStore H _ _ rfl rfl rfl (by (first | exact ⟨rfl, rfl⟩ | exact ⟨by decide, rfl⟩ | (simp []; done) | (constructor <;> simp [] <;> omega))) (by first | rfl | simp [List.all_append, one_all]) rfl ?_) | (refine aLay H _ _ rfl rfl rfl (by (first | exact ⟨rfl, rfl⟩ | exact ⟨by decide, rfl⟩ | (simp []; done) | (constructor <;> simp [] <;> omega))) (by first | rfl | simp [List.all_append, one_all]) (by simp only [lay, List.take_succ_cons, List.take_zero, List.drop_succ_cons, List.drop_zero, List.nil_append, List.cons_append, List.length_cons, List.length_nil, Nat.zero_add, Nat.reduceAdd]; rfl) rfl ?_)); clear H; intro w' H; try dsimp only at H))
    refine bodyPost_ret (res_cell_tmp rfl _ H.hold rfl HL.out) rfl ?_
    exact ⟨rfl, H.below⟩
set_option maxHeartbeats 1600000 in
theorem rRange_any (m : M16) (lo hi : Int) (w : World) : Calls Try.prog 27 #[.agg m.cells.toArray, .int .i64 lo, .int .i64 hi] w fun e w' => e = .returned (.tuple #[.agg ((rangeL m lo hi).map cb).toArray, .int .i64 (rangeE lo hi)]) ∧ Below w.heap.size w w' := by
  have H := SH.start Nil w
  by_cases hb : lo < 0 ∨ 16 < hi ∨ hi ≤ lo
  · by_cases h1 : lo < 0
    · have i1 : (lo < 0) = True := eq_true h1
      go_enter Try.func27, Try.ntmps27
      go_wp2_with (first
        | ((with_reducible refine gDst 3 ?_); refine aBox H _ rfl rfl rfl ?_; clear H; intro b3 w3 H)
        | ((with_reducible refine gDst 6 ?_); refine aAlloc H rfl rfl ?_; clear H; intro b6 w6 H)
        | ((with_reducible refine gBuild ?_); refine aZero rfl rfl ?_)
        | ((with_reducible refine gStore ?_); (first | (refine aStore H _ _ rfl rfl rfl (by (first | exact ⟨rfl, rfl⟩ | exact ⟨by decide, rfl⟩ | (simp []; done) | (constructor <;> simp [] <;> omega))) (by first | rfl | simp [List.all_append, one_all]) rfl ?_) | (refine aLay H _ _ rfl rfl rfl (by (first | exact ⟨rfl, rfl⟩ | exact ⟨by decide, rfl⟩ | (simp []; done) | (constructor <;> simp [] <;> omega))) (by first | rfl | simp [List.all_append, one_all]) (by simp only [lay, List.take_succ_cons, List.take_zero, List.drop_succ_cons, List.drop_zero, List.nil_append, List.cons_append, List.length_cons, List.length_nil, Nat.zero_add, Nat.reduceAdd]; rfl) rfl ?_)); clear H; intro w' H; try dsimp only at H))
      refine bodyPost_ret (res_cell_tmp rfl _ H.hold rfl rfl) rfl ?_
      exact ⟨by rw [rangeL, rangeE, if_pos hb, if_pos hb]; rfl, H.below⟩
    · have i1 : (lo < 0) = False := eq_false h1
      by_cases h2 : 16 < hi
      · have i2 : ((16 : Int) < hi) = True := eq_true h2
        go_enter Try.func27, Try.ntmps27
        go_wp2_with (first
          | ((with_reducible refine gDst 3 ?_); refine aBox H _ rfl rfl rfl ?_; clear H; intro b3 w3 H)
          | ((with_reducible refine gDst 6 ?_); refine aAlloc H rfl rfl ?_; clear H; intro b6 w6 H)
          | ((with_reducible refine gBuild ?_); refine aZero rfl rfl ?_)
          | ((with_reducible refine gStore ?_); (first | (refine aStore H _ _ rfl rfl rfl (by (first | exact ⟨rfl, rfl⟩ | exact ⟨by decide, rfl⟩ | (simp []; done) | (constructor <;> simp [] <;> omega))) (by first | rfl | simp [List.all_append, one_all]) rfl ?_) | (refine aLay H _ _ rfl rfl rfl (by (first | exact ⟨rfl, rfl⟩ | exact ⟨by decide, rfl⟩ | (simp []; done) | (constructor <;> simp [] <;> omega))) (by first | rfl | simp [List.all_append, one_all]) (by simp only [lay, List.take_succ_cons, List.take_zero, List.drop_succ_cons, List.drop_zero, List.nil_append, List.cons_append, List.length_cons, List.length_nil, Nat.zero_add, Nat.reduceAdd]; rfl) rfl ?_)); clear H; intro w' H; try dsimp only at H))
        refine bodyPost_ret (res_cell_tmp rfl _ H.hold rfl rfl) rfl ?_
        exact ⟨by rw [rangeL, rangeE, if_pos hb, if_pos hb]; rfl, H.below⟩
      · have i2 : ((16 : Int) < hi) = False := eq_false h2
        have i3 : (hi ≤ lo) = True := eq_true (by omega)
        go_enter Try.func27, Try.ntmps27
        go_wp2_with (first
          | ((with_reducible refine gDst 3 ?_); refine aBox H _ rfl rfl rfl ?_; clear H; intro b3 w3 H)
          | ((with_reducible refine gDst 6 ?_); refine aAlloc H rfl rfl ?_; clear H; intro b6 w6 H)
          | ((with_reducible refine gBuild ?_); refine aZero rfl rfl ?_)
          | ((with_reducible refine gStore ?_); (first | (refine aStore H _ _ rfl rfl rfl (by (first | exact ⟨rfl, rfl⟩ | exact ⟨by decide, rfl⟩ | (simp []; done) | (constructor <;> simp [] <;> omega))) (by first | rfl | simp [List.all_append, one_all]) rfl ?_) | (refine aLay H _ _ rfl rfl rfl (by (first | exact ⟨rfl, rfl⟩ | exact ⟨by decide, rfl⟩ | (simp []; done) | (constructor <;> simp [] <;> omega))) (by first | rfl | simp [List.all_append, one_all]) (by simp only [lay, List.take_succ_cons, List.take_zero, List.drop_succ_cons, List.drop_zero, List.nil_append, List.cons_append, List.length_cons, List.length_nil, Nat.zero_add, Nat.reduceAdd]; rfl) rfl ?_)); clear H; intro w' H; try dsimp only at H))
        refine bodyPost_ret (res_cell_tmp rfl _ H.hold rfl rfl) rfl ?_
        exact ⟨by rw [rangeL, rangeE, if_pos hb, if_pos hb]; rfl, H.below⟩
  · obtain ⟨l, rfl⟩ : ∃ l : Nat, lo = (l : Int) := ⟨lo.toNat, by omega⟩
    obtain ⟨h, rfl⟩ : ∃ h : Nat, hi = (h : Int) := ⟨hi.toNat, by omega⟩
    have i1 : ((l : Int) < 0) = False := eq_false (by omega)
    have i2 : ((16 : Int) < (h : Int)) = False := eq_false (by omega)
    have i3 : ((h : Int) ≤ (l : Int)) = False := eq_false (by omega)
    have hsl := fun (b : Nat) (W : World) => cutM b l h (by omega) (by omega) W
    have hl1 : l + (h - l) ≤ 16 := by omega
    have hl2 : h - l ≤ 16 - l := by omega
    have hh16 : (h : Int) ≤ 16 := by omega
    have hlh : (l : Int) < (h : Int) := by omega
    have e1 : rangeL m (l : Int) (h : Int) = treeL (hL ((m.1.drop l).take (h - l))) := by rw [rangeL, if_neg hb]; rfl
    have e2 : rangeE (l : Int) (h : Int) = 0 := by rw [rangeE, if_neg hb]
    rw [e1, e2]
    have HT := Lib.hid (fun v W (k : RR H32T W v ((m.1.drop l).take (h - l))) => rTree_any _ v W (by rw [List.length_take]; omega) k)
    have HL := Lib.hid (show ((treeL (hL ((m.1.drop l).take (h - l)))).map cb).length = 32 by rw [List.length_map, tree_hL])
    have HV := Lib.hid (fun (W : World) (b : Nat) (k : VA W b 54 m.cells) => k.h16 l (h - l) (16 - l) hl1 hl2)
    clear e1 e2 hb
    go_enter Try.func27, Try.ntmps27
    go_wp2_with (first
      | (go_at_call 75; refine (HT.out _ _ (HV.out _ _ (H.hold.va (b := b3)))).mono ?_; rintro e w' ⟨rfl, hb⟩; replace H := H.step hb; clear hb)
      | ((with_reducible refine gSto (.tmp 6) (.tmp 23) ?_); refine aStore H _ _ rfl rfl rfl ⟨by rfl, HL.out⟩ (one_all _) rfl ?_; clear H; intro w' H; (try dsimp only at H))
      | ((with_reducible refine gDst 3 ?_); refine aBox H _ rfl rfl rfl ?_; clear H; intro b3 w3 H)
      | ((with_reducible refine gDst 6 ?_); refine aAlloc H rfl rfl ?_; clear H; intro b6 w6 H)
      | ((with_reducible refine gBuild ?_); refine aZero rfl rfl ?_)
      | ((with_reducible refine gStore ?_); (first | (refine aStore H _ _ rfl rfl rfl (by (first | exact ⟨rfl, rfl⟩ | exact ⟨by decide, rfl⟩ | (simp []; done) | (constructor <;> simp [] <;> omega))) (by first | rfl | simp [List.all_append, one_all]) rfl ?_) | (refine aLay H _ _ rfl rfl rfl (by (first | exact ⟨rfl, rfl⟩ | exact ⟨by decide, rfl⟩ | (simp []; done) | (constructor <;> simp [] <;> omega))) (by first | rfl | simp [List.all_append, one_all]) (by simp only [lay, List.take_succ_cons, List.take_zero, List.drop_succ_cons, List.drop_zero, List.nil_append, List.cons_append, List.length_cons, List.length_nil, Nat.zero_add, Nat.reduceAdd]; rfl) rfl ?_)); clear H; intro w' H; try dsimp only at H))
    refine bodyPost_ret (res_cell_tmp rfl _ H.hold rfl HL.out) rfl ?_
    exact ⟨rfl, H.below⟩
end Go.Proofs.Ytbglebchnlfklaa

namespace Go.Proofs.Ytbglebchnlfklaa
set_option maxRecDepth 100000
open Go.RowKit
set_option linter.unusedSimpArgs false
set_option linter.unusedVariables false

set_option maxHeartbeats 3200000 in
theorem ManifestRange_any (m : M16) (lo hi : Int) (w : World) : Calls Try.prog 8 #[m.val, .int .i64 lo, .int .i64 hi] w fun e w' => e = .returned (.bool true) ∧ Below w.heap.size w w' := by
  show Calls Try.prog 8 #[.agg m.cells.toArray, .int .i64 lo, .int .i64 hi] w _
  have H := SH.start Nil w
  have HML := Lib.hid m.len
  have hx := rangeL_len m lo hi
  have hd := tree_hL m.1
  have hA : ∀ W, Calls Try.prog 26 #[.agg m.cells.toArray, .int .i64 0, .int .i64 16] W fun e w' => e = .returned (.tuple #[.agg ((treeL (hL m.1)).map cb).toArray, .int .i64 0]) ∧ Below W.heap.size W w' := fun W => by
    have h := Range_any m 0 16 W
    have e1 : rangeL m 0 16 = treeL (hL m.1) := by
      rw [rangeL, if_neg (by omega)]
      congr 2
      exact List.take_of_length_le (by rw [show (Int.toNat 0) = 0 from rfl, List.drop_zero, m.2]; decide)
    have e2 : rangeE 0 16 = 0 := by rw [rangeE, if_neg (by omega)]
    rw [e1, e2] at h
    exact h
  have HA := Lib.hid hA
  have HR1 := Lib.hid (fun W => Range_any m lo hi W)
  have HR2 := Lib.hid (fun W => rRange_any m lo hi W)
  have HD1 := Lib.hid (fun W => Digest_any m W)
  have HD2 := Lib.hid (fun W => rDigest_any m W)
  have hQ : ∀ x : List UInt8, x.length = 32 → ∀ W, (binOp .eql 27 (.agg (x.map cb).toArray) (.agg (x.map cb).toArray)).run Try.prog W = .ok (.bool true) W := fun x h W => by rw [h32_eql x x h h W, beq_self_eq_true]
  have HQ1 := Lib.hid (hQ _ hx)
  have HQ2 := Lib.hid (hQ _ hd)
  have HX := Lib.hid (show ((rangeL m lo hi).map cb).length = 32 by rw [List.length_map, hx])
  have HT := Lib.hid (show ((treeL (hL m.1)).map cb).length = 32 by rw [List.length_map, hd])
  clear hx hd hA hQ
  generalize treeL (hL m.1) = d at *
  generalize rangeL m lo hi = x at *
  generalize rangeE lo hi = ee at *
  go_enter Try.func8, Try.ntmps8
  go_wp2_with (first
    | ((with_reducible refine gDst 14 ?_); refine aLoad H _ rfl rfl (part_all HML.out) HML.out rfl ?_)
    | ((with_reducible refine gDst 21 ?_); refine aLoad H _ rfl rfl (part_all HML.out) HML.out rfl ?_)
    | ((with_reducible refine gDst 28 ?_); refine aLoad H _ rfl rfl (part_all HML.out) HML.out rfl ?_)
    | (go_at_call 27; (with_reducible refine (HR2.out _).mono ?_); rintro e w' ⟨rfl, hb⟩; replace H := H.step hb; clear hb)
    | (go_at_call 26; (with_reducible refine (HA.out _).mono ?_); rintro e w' ⟨rfl, hb⟩; replace H := H.step hb; clear hb)
    | (go_at_call 26; (with_reducible refine (HR1.out _).mono ?_); rintro e w' ⟨rfl, hb⟩; replace H := H.step hb; clear hb)
    | ((with_reducible refine gSto (.tmp 7) (.tmp 18) ?_); refine aStore H _ _ rfl rfl rfl ⟨by rfl, HX.out⟩ (one_all _) rfl ?_; clear H; intro w' H; (try dsimp only at H))
    | ((with_reducible refine gSto (.tmp 9) (.tmp 25) ?_); refine aStore H _ _ rfl rfl rfl ⟨by rfl, HX.out⟩ (one_all _) rfl ?_; clear H; intro w' H; (try dsimp only at H))
    | ((with_reducible refine gSto (.tmp 11) (.tmp 30) ?_); refine aStore H _ _ rfl rfl rfl ⟨by rfl, HT.out⟩ (one_all _) rfl ?_; clear H; intro w' H; (try dsimp only at H))
    | ((with_reducible refine gDst 3 ?_); refine aBox H _ rfl rfl rfl ?_; clear H; intro b3 w3 H)
    | ((with_reducible refine gDst 7 ?_); refine aAlloc H rfl rfl ?_; clear H; intro b7 w7 H)
    | ((with_reducible refine gDst 9 ?_); refine aAlloc H rfl rfl ?_; clear H; intro b9 w9 H)
    | ((with_reducible refine gDst 11 ?_); refine aAlloc H rfl rfl ?_; clear H; intro b11 w11 H)
    | ((with_reducible refine gLoad ?_); first | (refine aLoad H _ rfl rfl (by first | exact part_all (by first | rfl | simp []) | (simp only [List.drop_succ_cons, List.drop_zero, List.take_succ_cons, List.take_zero]; rfl) | (simp [List.drop_append, List.take_append]; rfl)) (by first | rfl | simp []) rfl ?_))
    | ((with_reducible refine gStore ?_); (first | (refine aStore H _ _ rfl rfl rfl (by (first | exact ⟨rfl, rfl⟩ | exact ⟨by decide, rfl⟩ | (simp []; done) | (constructor <;> simp [] <;> omega))) (by first | rfl | simp [List.all_append, one_all]) rfl ?_) | (refine aLay H _ _ rfl rfl rfl (by (first | exact ⟨rfl, rfl⟩ | exact ⟨by decide, rfl⟩ | (simp []; done) | (constructor <;> simp [] <;> omega))) (by first | rfl | simp [List.all_append, one_all]) (by simp only [lay, List.take_succ_cons, List.take_zero, List.drop_succ_cons, List.drop_zero, List.nil_append, List.cons_append, List.length_cons, List.length_nil, Nat.zero_add, Nat.reduceAdd]; rfl) rfl ?_)); clear H; intro w' H; try dsimp only at H))
  refine startA (fun i => false) (by kernel_rfl) (fun wS hS => ?_)
  replace H := H.drew
  rw [← hS] at H
  have HH := H.hold
  have HS0 : Below wS.heap.size wS wS := Below.refl _ _
  clear hS
  refine stepL 0 rfl (by kernel_rfl) rfl (fun K hK => ?_)
  (go_simp; (with_reducible refine ((alive11_any _)).mono ?_); rintro e w' ⟨rfl, hb⟩; replace H := H.step hb; replace HS0 := below_two HS0 HS0.size hb; clear hb; refine hK.out _ _ (fun _ _ => HS0) ?_; clear K hK)
  (try simp only [Act.put, List.setIfInBounds_toArray, List.set_cons_zero, List.set_cons_succ])
  refine takeP 1 rfl (by kernel_rfl) (by kernel_rfl) (by kernel_rfl) (by kernel_rfl) (fun _ _ _ h => h) rfl (v := ?_) ?_ ?_
  rotate_left
  · intro w'; go_simp; (try with_reducible rfl)
  (try simp only [Act.put, List.setIfInBounds_toArray, List.set_cons_zero, List.set_cons_succ])
  refine takeL 2 HS0 rfl (by kernel_rfl) (by kernel_rfl) (by kernel_rfl) (by kernel_rfl) (by kernel_rfl) (fun _ _ _ h => h) rfl (v := ?_) ?_ ?_
  rotate_left
  · intro w' hw'; refine Eq.trans (xLoad (HH.below hw') _ rfl rfl (part_all HX.out) HX.out) ?_; with_reducible rfl
  (try simp only [Act.put, List.setIfInBounds_toArray, List.set_cons_zero, List.set_cons_succ])
  refine takeL 3 HS0 rfl (by kernel_rfl) (by kernel_rfl) (by kernel_rfl) (by kernel_rfl) (by kernel_rfl) (fun _ _ _ h => h) rfl (v := ?_) ?_ ?_
  rotate_left
  · intro w' hw'; refine Eq.trans (xLoad (HH.below hw') _ rfl rfl (part_all HX.out) HX.out) ?_; with_reducible rfl
  (try simp only [Act.put, List.setIfInBounds_toArray, List.set_cons_zero, List.set_cons_succ])
  refine takeL 4 HS0 rfl (by kernel_rfl) (by kernel_rfl) (by kernel_rfl) (by kernel_rfl) (by kernel_rfl) (fun _ _ _ h => h) rfl (v := ?_) ?_ ?_
  rotate_left
  · intro w' hw'; refine Eq.trans (exec_eql 27 _ _ _ rfl _ _ rfl rfl h32_guard _ (HQ1.out _)) ?_; with_reducible rfl
  (try simp only [Act.put, List.setIfInBounds_toArray, List.set_cons_zero, List.set_cons_succ])
  refine takeP 5 rfl (by kernel_rfl) (by kernel_rfl) (by kernel_rfl) (by kernel_rfl) (fun _ _ _ h => h) rfl (v := ?_) ?_ ?_
  rotate_left
  · intro w'; go_simp; (try with_reducible rfl)
  (try simp only [Act.put, List.setIfInBounds_toArray, List.set_cons_zero, List.set_cons_succ])
  refine takeP 6 rfl (by kernel_rfl) (by kernel_rfl) (by kernel_rfl) (by kernel_rfl) (fun _ _ _ h => h) rfl (v := ?_) ?_ ?_
  rotate_left
  · intro w'; go_simp; (try with_reducible rfl)
  (try simp only [Act.put, List.setIfInBounds_toArray, List.set_cons_zero, List.set_cons_succ])
  refine takeP 7 rfl (by kernel_rfl) (by kernel_rfl) (by kernel_rfl) (by kernel_rfl) (fun _ _ _ h => h) rfl (v := ?_) ?_ ?_
  rotate_left
  · intro w'; go_simp; (try with_reducible rfl)
  (try simp only [Act.put, List.setIfInBounds_toArray, List.set_cons_zero, List.set_cons_succ])
  refine takeP 8 rfl (by kernel_rfl) (by kernel_rfl) (by kernel_rfl) (by kernel_rfl) (fun _ _ _ h => h) rfl (v := ?_) ?_ ?_
  rotate_left
  · intro w'; go_simp; (try with_reducible rfl)
  (try simp only [Act.put, List.setIfInBounds_toArray, List.set_cons_zero, List.set_cons_succ])
  refine takeP 9 rfl (by kernel_rfl) (by kernel_rfl) (by kernel_rfl) (by kernel_rfl) (fun _ _ _ h => h) rfl (v := ?_) ?_ ?_
  rotate_left
  · intro w'; go_simp; (try with_reducible rfl)
  (try simp only [Act.put, List.setIfInBounds_toArray, List.set_cons_zero, List.set_cons_succ])
  refine takeP 10 rfl (by kernel_rfl) (by kernel_rfl) (by kernel_rfl) (by kernel_rfl) (fun _ _ _ h => h) rfl (v := ?_) ?_ ?_
  rotate_left
  · intro w'; go_simp; (try with_reducible rfl)
  (try simp only [Act.put, List.setIfInBounds_toArray, List.set_cons_zero, List.set_cons_succ])
  refine takeP 11 rfl (by kernel_rfl) (by kernel_rfl) (by kernel_rfl) (by kernel_rfl) (fun _ _ _ h => h) rfl (v := ?_) ?_ ?_
  rotate_left
  · intro w'; go_simp; (try with_reducible rfl)
  (try simp only [Act.put, List.setIfInBounds_toArray, List.set_cons_zero, List.set_cons_succ])
  refine takeL 12 HS0 rfl (by kernel_rfl) (by kernel_rfl) (by kernel_rfl) (by kernel_rfl) (by kernel_rfl) (fun _ _ _ h => h) rfl (v := ?_) ?_ ?_
  rotate_left
  · intro w' hw'; refine Eq.trans (xLoad (HH.below hw') _ rfl rfl (part_all HML.out) HML.out) ?_; with_reducible rfl
  (try simp only [Act.put, List.setIfInBounds_toArray, List.set_cons_zero, List.set_cons_succ])
  refine takeL 14 HS0 rfl (by kernel_rfl) (by kernel_rfl) (by kernel_rfl) (by kernel_rfl) (by kernel_rfl) (fun _ _ _ h => h) rfl (v := ?_) ?_ ?_
  rotate_left
  · intro w' hw'; refine Eq.trans (xLoad (HH.below hw') _ rfl rfl (part_all HML.out) HML.out) ?_; with_reducible rfl
  (try simp only [Act.put, List.setIfInBounds_toArray, List.set_cons_zero, List.set_cons_succ])
  refine stepL 13 rfl (by kernel_rfl) rfl (fun K hK => ?_)
  (go_simp; (with_reducible refine ((HD1.out _)).mono ?_); rintro e w' ⟨rfl, hb⟩; replace H := H.step hb; replace HS0 := below_two HS0 HS0.size hb; clear hb; refine hK.out _ _ (fun _ _ => HS0) ?_; clear K hK)
  (try simp only [Act.put, List.setIfInBounds_toArray, List.set_cons_zero, List.set_cons_succ])
  refine stepL 15 rfl (by kernel_rfl) rfl (fun K hK => ?_)
  (go_simp; (with_reducible refine ((HD2.out _)).mono ?_); rintro e w' ⟨rfl, hb⟩; replace H := H.step hb; replace HS0 := below_two HS0 HS0.size hb; clear hb; refine hK.out _ _ (fun _ _ => HS0) ?_; clear K hK)
  (try simp only [Act.put, List.setIfInBounds_toArray, List.set_cons_zero, List.set_cons_succ])
  refine takeL 16 HS0 rfl (by kernel_rfl) (by kernel_rfl) (by kernel_rfl) (by kernel_rfl) (by kernel_rfl) (fun _ _ _ h => h) rfl (v := ?_) ?_ ?_
  rotate_left
  · intro w' hw'; refine Eq.trans (exec_eql 27 _ _ _ rfl _ _ rfl rfl h32_guard _ (HQ2.out _)) ?_; with_reducible rfl
  (try simp only [Act.put, List.setIfInBounds_toArray, List.set_cons_zero, List.set_cons_succ])
  refine takeP 17 rfl (by kernel_rfl) (by kernel_rfl) (by kernel_rfl) (by kernel_rfl) (fun _ _ _ h => h) rfl (v := ?_) ?_ ?_
  rotate_left
  · intro w'; go_simp; (try with_reducible rfl)
  (try simp only [Act.put, List.setIfInBounds_toArray, List.set_cons_zero, List.set_cons_succ])
  refine takeP 18 rfl (by kernel_rfl) (by kernel_rfl) (by kernel_rfl) (by kernel_rfl) (fun _ _ _ h => h) rfl (v := ?_) ?_ ?_
  rotate_left
  · intro w'; go_simp; (try with_reducible rfl)
  (try simp only [Act.put, List.setIfInBounds_toArray, List.set_cons_zero, List.set_cons_succ])
  refine takeP 19 rfl (by kernel_rfl) (by kernel_rfl) (by kernel_rfl) (by kernel_rfl) (fun _ _ _ h => h) rfl (v := ?_) ?_ ?_
  rotate_left
  · intro w'; go_simp; (try with_reducible rfl)
  (try simp only [Act.put, List.setIfInBounds_toArray, List.set_cons_zero, List.set_cons_succ])
  refine takeP 20 rfl (by kernel_rfl) (by kernel_rfl) (by kernel_rfl) (by kernel_rfl) (fun _ _ _ h => h) rfl (v := ?_) ?_ ?_
  rotate_left
  · intro w'; go_simp; (try with_reducible rfl)
  (try simp only [Act.put, List.setIfInBounds_toArray, List.set_cons_zero, List.set_cons_succ])
  refine takeP 21 rfl (by kernel_rfl) (by kernel_rfl) (by kernel_rfl) (by kernel_rfl) (fun _ _ _ h => h) rfl (v := ?_) ?_ ?_
  rotate_left
  · intro w'; go_simp; (try with_reducible rfl)
  (try simp only [Act.put, List.setIfInBounds_toArray, List.set_cons_zero, List.set_cons_succ])
  refine takeP 22 rfl (by kernel_rfl) (by kernel_rfl) (by kernel_rfl) (by kernel_rfl) (fun _ _ _ h => h) rfl (v := ?_) ?_ ?_
  rotate_left
  · intro w'; go_simp; (try with_reducible rfl)
  (try simp only [Act.put, List.setIfInBounds_toArray, List.set_cons_zero, List.set_cons_succ])
  refine takeL 23 HS0 rfl (by kernel_rfl) (by kernel_rfl) (by kernel_rfl) (by kernel_rfl) (by kernel_rfl) (fun _ _ _ h => h) rfl (v := ?_) ?_ ?_
  rotate_left
  · intro w' hw'; refine Eq.trans (xLoad (HH.below hw') _ rfl rfl (part_all HT.out) HT.out) ?_; with_reducible rfl
  (try simp only [Act.put, List.setIfInBounds_toArray, List.set_cons_zero, List.set_cons_succ])
  refine takeL 24 HS0 rfl (by kernel_rfl) (by kernel_rfl) (by kernel_rfl) (by kernel_rfl) (by kernel_rfl) (fun _ _ _ h => h) rfl (v := ?_) ?_ ?_
  rotate_left
  · intro w' hw'; refine Eq.trans (xLoad (HH.below hw') _ rfl rfl (part_all HML.out) HML.out) ?_; with_reducible rfl
  (try simp only [Act.put, List.setIfInBounds_toArray, List.set_cons_zero, List.set_cons_succ])
  refine stepL 25 rfl (by kernel_rfl) rfl (fun K hK => ?_)
  (go_simp; (with_reducible refine ((HD1.out _)).mono ?_); rintro e w' ⟨rfl, hb⟩; replace H := H.step hb; replace HS0 := below_two HS0 HS0.size hb; clear hb; refine hK.out _ _ (fun _ _ => HS0) ?_; clear K hK)
  (try simp only [Act.put, List.setIfInBounds_toArray, List.set_cons_zero, List.set_cons_succ])
  refine takeL 26 HS0 rfl (by kernel_rfl) (by kernel_rfl) (by kernel_rfl) (by kernel_rfl) (by kernel_rfl) (fun _ _ _ h => h) rfl (v := ?_) ?_ ?_
  rotate_left
  · intro w' hw'; refine Eq.trans (exec_eql 27 _ _ _ rfl _ _ rfl rfl h32_guard _ (HQ2.out _)) ?_; with_reducible rfl
  (try simp only [Act.put, List.setIfInBounds_toArray, List.set_cons_zero, List.set_cons_succ])
  refine takeP 27 rfl (by kernel_rfl) (by kernel_rfl) (by kernel_rfl) (by kernel_rfl) (fun _ _ _ h => h) rfl (v := ?_) ?_ ?_
  rotate_left
  · intro w'; go_simp; (try with_reducible rfl)
  (try simp only [Act.put, List.setIfInBounds_toArray, List.set_cons_zero, List.set_cons_succ])
  refine takeP 28 rfl (by kernel_rfl) (by kernel_rfl) (by kernel_rfl) (by kernel_rfl) (fun _ _ _ h => h) rfl (v := ?_) ?_ ?_
  rotate_left
  · intro w'; go_simp; (try with_reducible rfl)
  (try simp only [Act.put, List.setIfInBounds_toArray, List.set_cons_zero, List.set_cons_succ])
  refine doneL (by kernel_rfl) ?_
  all_goals
    go_wp2
    go_ret
    exact ⟨rfl, H.below⟩
end Go.Proofs.Ytbglebchnlfklaa
