/- The package ptr: Decode. -/
import Derived.Test.YthogefehainmdabPtr4
import Derived.Test.YthogefehainmdabNum2
import Derived.Test.YthogefehainmdabFill
namespace Go.Proofs.Ythogefehainmdab
open Go.RowKit
set_option linter.unusedSimpArgs false

theorem RB.at0 {w : World} {A : Option Addr} {n c : Nat} {xs : List UInt8} (h : RB w (.slice A n c) xs) (hp : 0 < xs.length) : ∃ ad, A = some ad ∧ ∀ (j : Nat) (u : Value), (xs.map cb)[j]? = some u → w.cell? (ad.add j) = some u := by
  obtain ⟨A2, c2, e, _, _, h3⟩ := h
  injection e with e1 e2 e3
  subst e1
  obtain ⟨ad, rfl, hcell⟩ := h3 hp
  rw [U8_all] at hcell
  exact ⟨ad, rfl, hcell⟩
theorem OR.ne_block {w : World} {base b : Nat} {v : Value} {xs : List UInt8} (h : OB w base v xs) (hb : b < base) : v.ownBlock = none ∨ v.ownBlock ≠ some b := by
  cases hv : v.ownBlock with
  | none => exact .inl rfl
  | some k =>
    refine .inr fun e => ?_
    have := (OR.ge h k hv).1
    injection e with e
    omega
/-- What stands in 44 bytes. -/
def rawP (xs : List UInt8) : PT := ⟨(xs ++ List.replicate 32 0).take 32, by simp, UInt32.ofNat (get32 (xs.drop 32)), UInt32.ofNat (get32 (xs.drop 36)), UInt32.ofNat (get32 (xs.drop 40))⟩
def decE (xs : List UInt8) : Nat := if xs.length < 44 then 2 else if 44 < xs.length ∨ (rawP xs).may = false then 3 else 0
def decP (xs : List UInt8) : PT := if decE xs = 0 then rawP xs else PT.hole
theorem g32 (b : List UInt8) : ((UInt32.ofNat (get32 b)).toNat : Int) = (get32 b : Int) := by
  rw [UInt32.toNat_ofNat', Nat.mod_eq_of_lt (get32_lt b)]
theorem rawP_hash (xs : List UInt8) (h : 32 ≤ xs.length) : (rawP xs).hash = xs.take 32 := by
  show (xs ++ List.replicate 32 0).take 32 = _
  rw [List.take_append_of_le_length h]
theorem Take32_ge (v : Value) (ys : List UInt8) (w : World) (hv : RB w v ys) (hl : ys.length ≤ 1000000000) (h4 : 4 ≤ ys.length) :
    Calls Try.prog 23 #[v] w fun e w' => ∃ v', e = .returned (.tuple #[.int .u32 ((UInt32.ofNat (get32 ys)).toNat : Int), v', .int .i64 0]) ∧ OB w' w.heap.size v' (ys.drop 4) ∧ Below w.heap.size w w' := by
  have h := Take32_any v ys w hv hl
  rw [if_pos h4, if_pos h4, if_pos h4, ← g32] at h
  exact h
theorem PT.lay32 (p : PT) (n : UInt32) : lay p.cells 32 [u32 n] = (PT.mk p.hash p.hl n p.a0 p.a1).cells := by
  rw [lay, PT.take32, List.length_singleton, PT.drop33, List.append_assoc]
  rfl
theorem PT.lay33 (p : PT) (n : UInt32) : lay p.cells 33 [u32 n] = (PT.mk p.hash p.hl p.birth n p.a1).cells := by
  have e : p.cells.take 33 = p.hash.map cb ++ [u32 p.birth] := by
    rw [PT.cells, List.take_append, List.length_map, p.hl, List.take_of_length_le (by simp [p.hl])]
    rfl
  have e2 : p.cells.drop 34 = [u32 p.a1] := by rw [show 34 = 33 + 1 from rfl, ← List.drop_drop, PT.drop33]; rfl
  rw [lay, e, List.length_singleton, e2, List.append_assoc, List.append_assoc]
  rfl
theorem PT.lay34 (p : PT) (n : UInt32) : lay p.cells 34 [u32 n] = (PT.mk p.hash p.hl p.birth p.a0 n).cells := by
  have e : p.cells.take 34 = p.hash.map cb ++ [u32 p.birth, u32 p.a0] := by
    rw [PT.cells, List.take_append, List.length_map, p.hl, List.take_of_length_le (by simp [p.hl])]
    rfl
  have e2 : p.cells.drop 35 = [] := List.drop_of_length_le (by rw [PT.len]; omega)
  rw [lay, e, List.length_singleton, e2, List.append_nil, List.append_assoc]
  rfl
theorem ptr_built (parts : List (Nat × Value)) : Program.built Try.prog 33 parts = Instr.fill (([(0, 32), (32, 1), (33, 2)] : List (Nat × Nat)).toArray[·]?) PT.hole.cells.toArray parts := by rfl
theorem ptr_hash (h : List UInt8) (hl : h.length = 32) : Program.built Try.prog 33 [(0, .agg (h.map cb).toArray)] = some (PT.mk h hl 0 0 0).cells.toArray := by
  rw [ptr_built, fill_cons _ _ _ _ _ 0 32 (h.map cb) rfl rfl (by simp [hl]) (by rw [PT.len]; omega), Instr.fill]
  congr 2
  rw [lay, List.take_zero, List.nil_append, List.length_map, hl, Nat.zero_add, PT.drop32]
  rfl
theorem u32_one (n : UInt32) : ∀ v ∈ [u32 n], v.oneCell' = true := by
  intro v hv
  obtain rfl := List.mem_singleton.mp hv
  rfl
theorem u32_info : (Try.prog.info? 30).map (·.size) = some 1 := by kernel_rfl

set_option maxHeartbeats 1600000 in
set_option maxRecDepth 100000 in
theorem Decode_any (v : Value) (xs : List UInt8) (w : World) (hv : RB w v xs) (hl : xs.length ≤ 1000000000) :
    Calls Try.prog 11 #[v] w fun e w' => e = .returned (.tuple #[(decP xs).val, .int .i64 (decE xs : Int)]) ∧ Below w.heap.size w w' := by
  obtain ⟨A, c, rfl, hc⟩ := id hv.len
  by_cases h44 : xs.length < 44
  · have hE : decE xs = 2 := by rw [decE, if_pos h44]
    have hP : decP xs = PT.hole := by rw [decP, hE, if_neg (by decide)]
    rw [hE, hP]
    have h44' : (xs.length : Int) < 44 := by omega
    clear hE hP h44
    go_enter Try.func11, Try.ntmps11
    go_wp2_with (first
      | (refine wpAlloc 33 rfl PT.hole.val PT.hole.cells (by kernel_rfl) rfl rfl ?_; intro w1 hv1 hb1)
      | (refine stepV (exec_zero 33 rfl PT.hole.cells ptr_zero) rfl ?_)
      | (refine wpStore 33 _ _ rfl w.heap.size rfl PT.hole.cells _ rfl _ hv1 (PT.info _) rfl (PT.one _) rfl ?_; intro w2 hv2 hg2; have hb2 := hb1.grown hg2 hb1.size (fun k hk => by cases hk; exact Nat.le_refl _)))
    refine bodyPost_ret (results_cell_tmp rfl _ hv2 rfl _ Try.underlying33 rfl (PT.info _)) rfl ?_
    exact ⟨rfl, hb2⟩
  · have h44' : (44 : Int) ≤ (xs.length : Int) := by omega
    obtain ⟨ad, rfl, hcc⟩ := RB.at0 hv (by omega)
    have hhash := rawP_hash xs (by omega)
    obtain ⟨A2, hcut4, hcut5, hcut6, hr2⟩ := cutB (some ad) c xs 32 xs.length (by omega) (Nat.le_refl _) hc
    have hk2 : ∀ W, (Instr.slice 22 (.slice (some ad) xs.length c) (some (.int .i64 32)) none none).run Try.prog W = .ok (.slice A2 (xs.length - 32) (c - 32)) W := fun W => hcut5 .i64 W rfl
    have hr3 : ∀ w, RB w (.slice (some ad) xs.length c) xs → RB w (.slice A2 (xs.length - 32) (c - 32)) (xs.drop 32) := fun w h => by
      have := hr2 w h
      rw [List.take_of_length_le (Nat.le_refl _)] at this
      exact this
    clear hcut4 hcut5 hcut6 hr2
    have c1 := fun W v h => Take32_ge v (xs.drop 32) W h (by rw [List.length_drop]; omega) (by rw [List.length_drop]; omega)
    have c2 := fun W v h => Take32_ge v (xs.drop 36) W h (by rw [List.length_drop]; omega) (by rw [List.length_drop]; omega)
    have c3 := fun W v h => Take32_ge v (xs.drop 40) W h (by rw [List.length_drop]; omega) (by rw [List.length_drop]; omega)
    simp only [List.drop_drop, Nat.reduceAdd] at c1 c2 c3
    obtain ⟨r, hr⟩ : ∃ r, r = rawP xs := ⟨_, rfl⟩
    have hrb : UInt32.ofNat (get32 (xs.drop 32)) = r.birth := by rw [hr]; rfl
    have hra : UInt32.ofNat (get32 (xs.drop 36)) = r.a0 := by rw [hr]; rfl
    have hrc : UInt32.ofNat (get32 (xs.drop 40)) = r.a1 := by rw [hr]; rfl
    rw [hrb] at c1
    rw [hra] at c2
    rw [hrc] at c3
    have hrh : r.hash = xs.take 32 := by rw [hr]; exact hhash
    have hch : ∀ (j : Nat) (u : Value), (r.hash.map cb)[j]? = some u → w.cell? (ad.add j) = some u := fun j u hu => by
      refine hcc j u ?_
      rw [hrh, List.map_take, List.getElem?_take] at hu
      split at hu
      · exact hu
      · cases hu
    obtain ⟨q0, hq0⟩ : ∃ q, q = PT.mk r.hash r.hl 0 0 0 := ⟨_, rfl⟩
    obtain ⟨q1, hq1⟩ : ∃ q, q = PT.mk r.hash r.hl r.birth 0 0 := ⟨_, rfl⟩
    obtain ⟨q2, hq2⟩ : ∃ q, q = PT.mk r.hash r.hl r.birth r.a0 0 := ⟨_, rfl⟩
    have hb0 : Program.built Try.prog 33 [(0, .agg (r.hash.map cb).toArray)] = some q0.cells.toArray := by rw [hq0]; exact ptr_hash r.hash r.hl
    have hl1 : lay q0.cells 32 [u32 r.birth] = q1.cells := by rw [hq0, hq1, PT.lay32]
    have hl2 : lay q1.cells 33 [u32 r.a0] = q2.cells := by rw [hq1, hq2, PT.lay33]
    have hl3 : lay q2.cells 34 [u32 r.a1] = r.cells := by rw [hq2, PT.lay34]
    have hrl : r.hash.length = 32 := r.hl
    obtain ⟨ys, hys⟩ : ∃ ys, ys = xs.drop 44 := ⟨_, rfl⟩
    have hdl : ys.length = xs.length - 44 := by rw [hys, List.length_drop]
    rw [← hys] at c3
    have C1 := Lib.hid c1
    have C2 := Lib.hid c2
    have C3 := Lib.hid c3
    have HB0 := Lib.hid hb0
    have HL1 := Lib.hid hl1
    have HL2 := Lib.hid hl2
    have HL3 := Lib.hid hl3
    have HCH := Lib.hid hch
    have HR := Lib.hid hr
    have HRL := Lib.hid hrl
    have cM : ∀ W, Calls Try.prog 16 #[.agg r.cells.toArray] W fun e w' => e = .returned (.bool r.may) ∧ Below W.heap.size W w' := fun W => May_any r W
    clear c1 c2 c3 hb0 hl1 hl2 hl3 hch hcc hrh hhash hrb hra hrc hr hq0 hq1 hq2 hrl hys
    by_cases h44e : 44 < xs.length
    · have hE : decE xs = 3 := by rw [decE, if_neg h44, if_pos (.inl h44e)]
      have hP : decP xs = PT.hole := by rw [decP, hE, if_neg (by decide)]
      rw [hE, hP]
      have h0 : (0 : Int) < ((xs.length - 44 : Nat) : Int) := by omega
      have hd0 : (0 : Int) < (ys.length : Int) := by rw [hdl]; exact h0
      have hd0b : decide ((0 : Int) < (ys.length : Int)) = true := decide_eq_true hd0
      have hd0n : 0 < ys.length := by omega
      clear hE hP h44e hdl h0
      go_enter Try.func11, Try.ntmps11
      go_wp2_with (first
        | (refine wpVar 33 rfl PT.hole.val PT.hole.cells (by kernel_rfl) rfl 4 _ rfl q0.cells rfl rfl (by rw [PT.len, PT.len]) (PT.info _) (PT.one _) rfl rfl ?_; intro w2 hv2 hb2; have hlt := hv1.lt; replace hv1 := hv1.below hb2; replace hb1 := below_two hb1 hb1.size hb2; have hra := hr3 _ (hv.below hb1); clear hb2)
        | (refine wpAlloc 33 rfl PT.hole.val PT.hole.cells (by kernel_rfl) rfl rfl ?_; intro w1 hv1 hb1)
        | (refine stepV (exec_arrptr 29 _ rfl 32 _ Try.underlying29 (some ad) xs.length c rfl (by omega)) rfl ?_)
        | (refine stepV (exec_loadA 29 _ rfl ad rfl (r.hash.map cb) _ (fun j u hu => cell_below hb1 (HCH.out j u hu)) Try.underlying29 rfl (by rw [List.length_map, HRL.out]; kernel_rfl)) rfl ?_)
        | (refine stepV (exec_buildL 33 [(0, .tmp 11)] rfl [(0, .agg (r.hash.map cb).toArray)] rfl q0.cells HB0.out) rfl ?_)
        | (go_at_call 23; (with_reducible refine (C1.out _ _ hra).mono ?_); rintro e w3 ⟨v3, rfl, ho3, hb3⟩; have hlt2 := hv2.lt; replace hv1 := hv1.below hb3; replace hv2 := hv2.below hb3; replace hb1 := below_two hb1 hb1.size hb3; clear hra hb3)
        | (refine wpLay 30 _ _ rfl w1.heap.size 32 rfl [u32 r.birth] q0.cells q1.cells rfl _ hv2 u32_info (by rw [PT.len, List.length_singleton]; decide) (u32_one _) HL1.out rfl ?_; intro w4 hv3 hg4; replace ho3 := ho3.other hg4 (OR.ne_block ho3 hlt2); replace hv1 := hv1.grown hg4 (by simp; omega); replace hb1 := hb1.grown hg4 hb1.size (fun k hk => by cases hk; omega); clear hv2 hg4)
        | (go_at_call 23; (with_reducible refine (C2.out _ _ ho3.reads).mono ?_); rintro e w5 ⟨v5, rfl, ho5, hb5⟩; have hlt3 := hv3.lt; replace hv1 := hv1.below hb5; replace hv3 := hv3.below hb5; replace hb1 := below_two hb1 hb1.size hb5; clear hb5 ho3)
        | (refine wpLay 30 _ _ rfl w1.heap.size 33 rfl [u32 r.a0] q1.cells q2.cells rfl _ hv3 u32_info (by rw [PT.len, List.length_singleton]; decide) (u32_one _) HL2.out rfl ?_; intro w6 hv4 hg6; replace ho5 := ho5.other hg6 (OR.ne_block ho5 hlt3); replace hv1 := hv1.grown hg6 (by simp; omega); replace hb1 := hb1.grown hg6 hb1.size (fun k hk => by cases hk; omega); clear hv3 hg6)
        | (go_at_call 23; (with_reducible refine (C3.out _ _ ho5.reads).mono ?_); rintro e w7 ⟨v7, rfl, ho7, hb7⟩; obtain ⟨A7, c7, rfl, hc7⟩ := ho7.reads.len; have hlt4 := hv4.lt; replace hv1 := hv1.below hb7; replace hv4 := hv4.below hb7; replace hb1 := below_two hb1 hb1.size hb7; clear hb7 ho5)
        | (refine wpLay 30 _ _ rfl w1.heap.size 34 rfl [u32 r.a1] q2.cells r.cells rfl _ hv4 u32_info (by rw [PT.len, List.length_singleton]; decide) (u32_one _) HL3.out rfl ?_; intro w8 hv5 hg8; replace ho7 := ho7.other hg8 (OR.ne_block ho7 hlt4); replace hv1 := hv1.grown hg8 (by simp; omega); replace hb1 := hb1.grown hg8 hb1.size (fun k hk => by cases hk; omega); clear hv4 hg8)
        | (refine stepV (exec_load 33 _ rfl _ _ rfl r.cells _ hv5.all Try.underlying33 rfl (PT.info r)) rfl ?_)
        | (go_at_call 16; (with_reducible refine (cM _).mono ?_); rintro e w9 ⟨rfl, hb9⟩; replace hv1 := hv1.below hb9; replace hv5 := hv5.below hb9; replace hb1 := below_two hb1 hb1.size hb9; clear hb9)
        | (refine stepV (exec_zero 33 rfl PT.hole.cells ptr_zero) rfl ?_)
        | (refine wpStore 33 _ _ rfl w.heap.size rfl PT.hole.cells _ rfl _ hv1 (PT.info _) rfl (PT.one _) rfl ?_; intro w10 hv10 hg10; replace hb1 := hb1.grown hg10 hb1.size (fun k hk => by cases hk; exact Nat.le_refl _)))
      refine bodyPost_ret (results_cell_tmp rfl _ hv10 rfl _ Try.underlying33 rfl (PT.info _)) rfl ?_
      exact ⟨rfl, hb1⟩
    · have hdl0 : (ys.length : Int) = 0 := by rw [hdl]; omega
      have hd0 : ¬ (0 : Int) < (ys.length : Int) := by omega
      cases hm : r.may with
      | false =>
        have hE : decE xs = 3 := by rw [decE, if_neg h44, if_pos (.inr (by rw [← HR.out]; exact hm))]
        have hP : decP xs = PT.hole := by rw [decP, hE, if_neg (by decide)]
        rw [hE, hP]
        rw [hm] at cM
        clear hE hP hdl hm
        go_enter Try.func11, Try.ntmps11
        go_wp2_with (first
          | (refine wpVar 33 rfl PT.hole.val PT.hole.cells (by kernel_rfl) rfl 4 _ rfl q0.cells rfl rfl (by rw [PT.len, PT.len]) (PT.info _) (PT.one _) rfl rfl ?_; intro w2 hv2 hb2; have hlt := hv1.lt; replace hv1 := hv1.below hb2; replace hb1 := below_two hb1 hb1.size hb2; have hra := hr3 _ (hv.below hb1); clear hb2)
          | (refine wpAlloc 33 rfl PT.hole.val PT.hole.cells (by kernel_rfl) rfl rfl ?_; intro w1 hv1 hb1)
          | (refine stepV (exec_arrptr 29 _ rfl 32 _ Try.underlying29 (some ad) xs.length c rfl (by omega)) rfl ?_)
          | (refine stepV (exec_loadA 29 _ rfl ad rfl (r.hash.map cb) _ (fun j u hu => cell_below hb1 (HCH.out j u hu)) Try.underlying29 rfl (by rw [List.length_map, HRL.out]; kernel_rfl)) rfl ?_)
          | (refine stepV (exec_buildL 33 [(0, .tmp 11)] rfl [(0, .agg (r.hash.map cb).toArray)] rfl q0.cells HB0.out) rfl ?_)
          | (go_at_call 23; (with_reducible refine (C1.out _ _ hra).mono ?_); rintro e w3 ⟨v3, rfl, ho3, hb3⟩; have hlt2 := hv2.lt; replace hv1 := hv1.below hb3; replace hv2 := hv2.below hb3; replace hb1 := below_two hb1 hb1.size hb3; clear hra hb3)
          | (refine wpLay 30 _ _ rfl w1.heap.size 32 rfl [u32 r.birth] q0.cells q1.cells rfl _ hv2 u32_info (by rw [PT.len, List.length_singleton]; decide) (u32_one _) HL1.out rfl ?_; intro w4 hv3 hg4; replace ho3 := ho3.other hg4 (OR.ne_block ho3 hlt2); replace hv1 := hv1.grown hg4 (by simp; omega); replace hb1 := hb1.grown hg4 hb1.size (fun k hk => by cases hk; omega); clear hv2 hg4)
          | (go_at_call 23; (with_reducible refine (C2.out _ _ ho3.reads).mono ?_); rintro e w5 ⟨v5, rfl, ho5, hb5⟩; have hlt3 := hv3.lt; replace hv1 := hv1.below hb5; replace hv3 := hv3.below hb5; replace hb1 := below_two hb1 hb1.size hb5; clear hb5 ho3)
          | (refine wpLay 30 _ _ rfl w1.heap.size 33 rfl [u32 r.a0] q1.cells q2.cells rfl _ hv3 u32_info (by rw [PT.len, List.length_singleton]; decide) (u32_one _) HL2.out rfl ?_; intro w6 hv4 hg6; replace ho5 := ho5.other hg6 (OR.ne_block ho5 hlt3); replace hv1 := hv1.grown hg6 (by simp; omega); replace hb1 := hb1.grown hg6 hb1.size (fun k hk => by cases hk; omega); clear hv3 hg6)
          | (go_at_call 23; (with_reducible refine (C3.out _ _ ho5.reads).mono ?_); rintro e w7 ⟨v7, rfl, ho7, hb7⟩; obtain ⟨A7, c7, rfl, hc7⟩ := ho7.reads.len; have hlt4 := hv4.lt; replace hv1 := hv1.below hb7; replace hv4 := hv4.below hb7; replace hb1 := below_two hb1 hb1.size hb7; clear hb7 ho5)
          | (refine wpLay 30 _ _ rfl w1.heap.size 34 rfl [u32 r.a1] q2.cells r.cells rfl _ hv4 u32_info (by rw [PT.len, List.length_singleton]; decide) (u32_one _) HL3.out rfl ?_; intro w8 hv5 hg8; replace ho7 := ho7.other hg8 (OR.ne_block ho7 hlt4); replace hv1 := hv1.grown hg8 (by simp; omega); replace hb1 := hb1.grown hg8 hb1.size (fun k hk => by cases hk; omega); clear hv4 hg8)
          | (refine stepV (exec_load 33 _ rfl _ _ rfl r.cells _ hv5.all Try.underlying33 rfl (PT.info r)) rfl ?_)
          | (go_at_call 16; (with_reducible refine (cM _).mono ?_); rintro e w9 ⟨rfl, hb9⟩; replace hv1 := hv1.below hb9; replace hv5 := hv5.below hb9; replace hb1 := below_two hb1 hb1.size hb9; clear hb9)
          | (refine stepV (exec_zero 33 rfl PT.hole.cells ptr_zero) rfl ?_)
          | (refine wpStore 33 _ _ rfl w.heap.size rfl PT.hole.cells _ rfl _ hv1 (PT.info _) rfl (PT.one _) rfl ?_; intro w10 hv10 hg10; replace hb1 := hb1.grown hg10 hb1.size (fun k hk => by cases hk; exact Nat.le_refl _)))
        refine bodyPost_ret (results_cell_tmp rfl _ hv10 rfl _ Try.underlying33 rfl (PT.info _)) rfl ?_
        exact ⟨rfl, hb1⟩
      | true =>
        have hE : decE xs = 0 := by rw [decE, if_neg h44, if_neg (by rw [← HR.out, hm]; simp; omega)]
        have hP : decP xs = r := by rw [decP, if_pos hE, HR.out]
        rw [hE, hP]
        rw [hm] at cM
        clear hE hP hdl hm
        go_enter Try.func11, Try.ntmps11
        go_wp2_with (first
          | (refine wpVar 33 rfl PT.hole.val PT.hole.cells (by kernel_rfl) rfl 4 _ rfl q0.cells rfl rfl (by rw [PT.len, PT.len]) (PT.info _) (PT.one _) rfl rfl ?_; intro w2 hv2 hb2; have hlt := hv1.lt; replace hv1 := hv1.below hb2; replace hb1 := below_two hb1 hb1.size hb2; have hra := hr3 _ (hv.below hb1); clear hb2)
          | (refine wpAlloc 33 rfl PT.hole.val PT.hole.cells (by kernel_rfl) rfl rfl ?_; intro w1 hv1 hb1)
          | (refine stepV (exec_arrptr 29 _ rfl 32 _ Try.underlying29 (some ad) xs.length c rfl (by omega)) rfl ?_)
          | (refine stepV (exec_loadA 29 _ rfl ad rfl (r.hash.map cb) _ (fun j u hu => cell_below hb1 (HCH.out j u hu)) Try.underlying29 rfl (by rw [List.length_map, HRL.out]; kernel_rfl)) rfl ?_)
          | (refine stepV (exec_buildL 33 [(0, .tmp 11)] rfl [(0, .agg (r.hash.map cb).toArray)] rfl q0.cells HB0.out) rfl ?_)
          | (go_at_call 23; (with_reducible refine (C1.out _ _ hra).mono ?_); rintro e w3 ⟨v3, rfl, ho3, hb3⟩; have hlt2 := hv2.lt; replace hv1 := hv1.below hb3; replace hv2 := hv2.below hb3; replace hb1 := below_two hb1 hb1.size hb3; clear hra hb3)
          | (refine wpLay 30 _ _ rfl w1.heap.size 32 rfl [u32 r.birth] q0.cells q1.cells rfl _ hv2 u32_info (by rw [PT.len, List.length_singleton]; decide) (u32_one _) HL1.out rfl ?_; intro w4 hv3 hg4; replace ho3 := ho3.other hg4 (OR.ne_block ho3 hlt2); replace hv1 := hv1.grown hg4 (by simp; omega); replace hb1 := hb1.grown hg4 hb1.size (fun k hk => by cases hk; omega); clear hv2 hg4)
          | (go_at_call 23; (with_reducible refine (C2.out _ _ ho3.reads).mono ?_); rintro e w5 ⟨v5, rfl, ho5, hb5⟩; have hlt3 := hv3.lt; replace hv1 := hv1.below hb5; replace hv3 := hv3.below hb5; replace hb1 := below_two hb1 hb1.size hb5; clear hb5 ho3)
          | (refine wpLay 30 _ _ rfl w1.heap.size 33 rfl [u32 r.a0] q1.cells q2.cells rfl _ hv3 u32_info (by rw [PT.len, List.length_singleton]; decide) (u32_one _) HL2.out rfl ?_; intro w6 hv4 hg6; replace ho5 := ho5.other hg6 (OR.ne_block ho5 hlt3); replace hv1 := hv1.grown hg6 (by simp; omega); replace hb1 := hb1.grown hg6 hb1.size (fun k hk => by cases hk; omega); clear hv3 hg6)
          | (go_at_call 23; (with_reducible refine (C3.out _ _ ho5.reads).mono ?_); rintro e w7 ⟨v7, rfl, ho7, hb7⟩; obtain ⟨A7, c7, rfl, hc7⟩ := ho7.reads.len; have hlt4 := hv4.lt; replace hv1 := hv1.below hb7; replace hv4 := hv4.below hb7; replace hb1 := below_two hb1 hb1.size hb7; clear hb7 ho5)
          | (refine wpLay 30 _ _ rfl w1.heap.size 34 rfl [u32 r.a1] q2.cells r.cells rfl _ hv4 u32_info (by rw [PT.len, List.length_singleton]; decide) (u32_one _) HL3.out rfl ?_; intro w8 hv5 hg8; replace ho7 := ho7.other hg8 (OR.ne_block ho7 hlt4); replace hv1 := hv1.grown hg8 (by simp; omega); replace hb1 := hb1.grown hg8 hb1.size (fun k hk => by cases hk; omega); clear hv4 hg8)
          | (refine stepV (exec_load 33 _ rfl _ _ rfl r.cells _ hv5.all Try.underlying33 rfl (PT.info r)) rfl ?_)
          | (go_at_call 16; (with_reducible refine (cM _).mono ?_); rintro e w9 ⟨rfl, hb9⟩; replace hv1 := hv1.below hb9; replace hv5 := hv5.below hb9; replace hb1 := below_two hb1 hb1.size hb9; clear hb9)
          | (refine wpStore 33 _ _ rfl w.heap.size rfl r.cells _ rfl _ hv1 (PT.info _) (by rw [PT.len, PT.len]) (PT.one _) rfl ?_; intro w10 hv10 hg10; replace hb1 := hb1.grown hg10 hb1.size (fun k hk => by cases hk; exact Nat.le_refl _)))
        refine bodyPost_ret (results_cell_tmp rfl _ hv10 rfl _ Try.underlying33 rfl (PT.info _)) rfl ?_
        exact ⟨rfl, hb1⟩
end Go.Proofs.Ythogefehainmdab
