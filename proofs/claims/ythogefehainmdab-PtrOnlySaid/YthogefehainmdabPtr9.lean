/- The package ptr: Read. -/
import Derived.Test.YthogefehainmdabPtr8
import Derived.Test.YthogefehainmdabSep
import Derived.Test.YthogefehainmdabPtr7
namespace Go.Proofs.Ythogefehainmdab
open Go.RowKit
set_option linter.unusedSimpArgs false
set_option linter.unusedVariables false

/-- Pointers, nodes, their bytes. -/
def ptT : AT Try.prog PT := ⟨33, PT.cells, 35, PT.len, PT.one, _, Try.underlying33, rfl, by kernel_rfl, PT.hole, by kernel_rfl, ptr_zero⟩
theorem PL.one (l : PL) : ∀ v ∈ l.cells, v.oneCell' = true := by
  intro v hv
  obtain ⟨p, _, hp⟩ := List.mem_flatMap.mp hv
  exact p.one v hp
theorem pl_zero' : Program.built Try.prog 36 [] = some PL.none.cells.toArray := by kernel_rfl
def plT : AT Try.prog PL := ⟨36, PL.cells, 140, PL.len, PL.one, _, Try.underlying36, rfl, by kernel_rfl, PL.none, by kernel_rfl, pl_zero'⟩

/-- The i-th 44 bytes. -/
def chunk (xs : List UInt8) (i : Nat) : List UInt8 := (xs.drop (i * 44)).take 44
theorem chunk_len (xs : List UInt8) (i : Nat) (h : xs.length = 256) (hi : i < 4) : (chunk xs i).length = 44 := by
  unfold chunk; rw [List.length_take, List.length_drop]; omega
theorem decE_44 (xs : List UInt8) (h : xs.length = 44) : decE xs = 0 ∨ decE xs = 3 := by
  unfold decE; split
  · omega
  · split
    · exact .inr rfl
    · exact .inl rfl
def rdOK (xs : List UInt8) : Bool := decide (xs.length = 256) && ((List.range 4).all fun i => decE (chunk xs i) == 0) && ((List.range 80).all fun j => (xs.drop 176).getD j 0 == 0)
def rdL (xs : List UInt8) : PL := if rdOK xs = true then ⟨(List.range 4).map fun i => decP (chunk xs i), by simp⟩ else PL.none
def rdE (xs : List UInt8) : Nat := if rdOK xs = true then 0 else 3
theorem rd_len (xs : List UInt8) (h : xs.length ≠ 256) : rdOK xs = false := by simp [rdOK, h]
theorem rd_chunk (xs : List UInt8) (i : Nat) (hi : i < 4) (h : decE (chunk xs i) ≠ 0) : rdOK xs = false := by
  rw [← Bool.not_eq_true]
  intro hh
  simp only [rdOK, Bool.and_eq_true, decide_eq_true_eq, List.all_eq_true, List.mem_range, beq_iff_eq] at hh
  exact h (hh.1.2 i hi)
theorem rd_tail (xs : List UInt8) (j : Nat) (hj : j < 80) (h : (xs.drop 176).getD j 0 ≠ 0) : rdOK xs = false := by
  rw [← Bool.not_eq_true]
  intro hh
  simp only [rdOK, Bool.and_eq_true, decide_eq_true_eq, List.all_eq_true, List.mem_range, beq_iff_eq] at hh
  exact h (hh.2 j hj)
theorem rd_bad (xs : List UInt8) (h : rdOK xs = false) : rdL xs = PL.none ∧ rdE xs = 3 := by simp [rdL, rdE, h]
/-- The pointers so far. -/
def preP (xs : List UInt8) (k : Nat) : List PT := (List.range k).map (fun i => decP (chunk xs i)) ++ List.replicate (4 - k) PT.hole
theorem preP_all (xs : List UInt8) (h : rdOK xs = true) : preP xs 4 = (rdL xs).1 := by simp [preP, rdL, h]
theorem preP_len (xs : List UInt8) (k : Nat) (h : k ≤ 4) : ((preP xs k).flatMap PT.cells).length = 140 := by
  rw [flatMap_len PT.len]; simp [preP]; omega
theorem preP_lay (xs : List UInt8) (k : Nat) (h : k < 4) : lay ((preP xs k).flatMap PT.cells) (k * 35) (decP (chunk xs k)).cells = (preP xs (k + 1)).flatMap PT.cells := by
  have e0 : 4 - k = (4 - (k + 1)) + 1 := by omega
  have e1 : (((List.range k).map fun i => decP (chunk xs i)).flatMap PT.cells).length = k * 35 := by rw [flatMap_len PT.len]; simp
  have e2 : preP xs k = ((List.range k).map fun i => decP (chunk xs i)) ++ (PT.hole :: List.replicate (4 - (k + 1)) PT.hole) := by rw [preP, e0, List.replicate_succ]
  have e3 : preP xs (k + 1) = ((List.range k).map fun i => decP (chunk xs i)) ++ (decP (chunk xs k) :: List.replicate (4 - (k + 1)) PT.hole) := by
    rw [preP, List.range_succ, List.map_append, List.append_assoc]; rfl
  rw [e2, e3, List.flatMap_append, List.flatMap_append, lay, List.take_left' e1, PT.len, ← List.drop_drop, List.drop_left' e1, List.flatMap_cons, List.flatMap_cons, List.drop_left' (PT.len _), List.append_assoc]
theorem rd_good (xs : List UInt8) (h : xs.length = 256) (h1 : ∀ i < 4, decE (chunk xs i) = 0) (h2 : ∀ j < 80, (xs.drop 176).getD j 0 = 0) : rdOK xs = true := by
  simp only [rdOK, Bool.and_eq_true, decide_eq_true_eq, List.all_eq_true, List.mem_range, beq_iff_eq]
  exact ⟨⟨h, h1⟩, h2⟩

set_option maxHeartbeats 1600000 in
set_option maxRecDepth 100000 in
theorem Read_any (v : Value) (xs : List UInt8) (w : World) (hv : RB w v xs) (hl : xs.length ≤ 1000000000) :
    Calls Try.prog 13 #[v] w fun e w' => e = .returned (.tuple #[(rdL xs).val, .int .i64 (rdE xs : Int)]) ∧ Below w.heap.size w w' := by
  obtain ⟨A, c, rfl, hc⟩ := id hv.len
  have H := SH.start Nil w
  by_cases h256 : xs.length = 256
  · obtain ⟨A2, hcut4, hcut5, hcut6, hr2⟩ := cutB A c xs 176 xs.length (by omega) (Nat.le_refl _) hc
    have hk2 : ∀ W, (Instr.slice 22 (.slice A 256 c) (some (.int .i64 176)) none none).run Try.prog W = .ok (.slice A2 80 (c - 176)) W := fun W => by have := hcut5 .i64 W rfl; rw [h256] at this; exact this
    have hr3 := hr2 w hv
    rw [List.take_of_length_le (Nat.le_refl _), h256] at hr3
    have hl80 : (xs.drop 176).length = 80 := by rw [List.length_drop]; omega
    obtain ⟨ad2, rfl, hcc2⟩ := RB.at0 hr3 (by omega)
    have hcB : ∀ (j : Nat), j < 80 → w.cell? (ad2.add j) = some (cb ((xs.drop 176).getD j 0)) := fun j hj => by
      refine hcc2 j _ ?_
      rw [List.getElem?_map, List.getD_eq_getElem?_getD, List.getElem?_eq_getElem (by omega)]
      rfl
    have hcK : ∀ k : Nat, k < 4 → ∃ A3, (∀ W, (Instr.slice 22 (.slice A 256 c) (some (.int .i64 ((k : Int) * 44))) (some (.int .i64 (((k : Int) + 1) * 44))) none).run Try.prog W = .ok (.slice A3 44 (c - k * 44)) W) ∧ ∀ w', Below w.heap.size w w' → RB w' (.slice A3 44 (c - k * 44)) (chunk xs k) := fun k hk => by
      obtain ⟨A3, g4, _, _, g6⟩ := cutB A c xs (k * 44) ((k + 1) * 44) (by omega) (by omega) hc
      refine ⟨A3, fun W => ?_, fun w' hb => ?_⟩
      · have := g4 .i64 .i64 W
        rw [h256, show (k + 1) * 44 - k * 44 = 44 by omega] at this
        push_cast at this
        exact this
      · have := g6 w' (hv.below hb)
        rw [show (k + 1) * 44 - k * 44 = 44 by omega, List.drop_take, show (k + 1) * 44 - k * 44 = 44 by omega] at this
        exact this
    rw [h256]
    have HB := Lib.hid hcB
    have HK := Lib.hid hcK
    have H256 := Lib.hid h256
    clear hcB hcK hcut4 hcut5 hcut6 hr2 hcc2 hl80 hr3 hv h256 hc hl
    go_enter Try.func13, Try.ntmps13
    go_wp2_with (first
      | (refine wAlloc plT (H : SH Nil w _ []) rfl rfl ?_; clear H; intro w1 H)
      | (refine wAlloc plT (H : SH Nil w _ [_]) rfl rfl ?_; clear H; intro w2 H)
      | (refine wAlloc plT (H : SH Nil w _ [_, _]) rfl rfl ?_; clear H; intro w3 H))
    go_loopw [15] (fun v15 wr => ∃ (k : Nat), v15 = .int .i64 (k : Int) ∧ k ≤ 4 ∧ SH Nil w wr [.blk w2.heap.size 36 ((preP xs k).flatMap PT.cells), .blk w1.heap.size 36 PL.none.cells, .blk w.heap.size 36 PL.none.cells] ∧ Hid (∀ i < k, decE (chunk xs i) = 0)) (fun i _ => 4 - (intOf i).toNat)
    case atStart => exact ⟨0, rfl, by omega, H, fun i hi => by omega⟩
    case round =>
      obtain ⟨k, rfl, hk, HS, HE⟩ := hrel
      clear H
      by_cases h4 : k < 4
      · have hki : (k : Int) < 4 := by omega
        obtain ⟨A3, hk3, hr3⟩ := HK.out k h4
        have hr4 := hr3 _ HS.below
        have hcl := chunk_len xs k H256.out h4
        have hlay := preP_lay xs k h4
        have hpl := preP_len xs k hk
        have HL := Lib.hid hlay
        have HPL := Lib.hid hpl
        obtain ⟨q, hq⟩ : ∃ q, q = decP (chunk xs k) := ⟨_, rfl⟩
        by_cases hE : decE (chunk xs k) = 0
        · have cD : ∀ W v, RB W v (chunk xs k) → Calls Try.prog 11 #[v] W fun e w' => e = .returned (.tuple #[.agg q.cells.toArray, .int .i64 0]) ∧ Below W.heap.size W w' := fun W v h => by
            have := Decode_any v (chunk xs k) W h (by rw [hcl]; omega)
            rw [hE, ← hq] at this
            exact this
          rw [← hq] at hlay
          have HL := Lib.hid hlay
          have hE2 : Hid (∀ i < k + 1, decE (chunk xs i) = 0) := fun i hi => by
            rcases Nat.lt_or_ge i k with h | h
            · exact HE i h
            · obtain rfl : i = k := by omega
              exact hE
          clear hE hq hlay hpl hcl hr3
          go_wp2_with (first
            | (go_at_call 11; (with_reducible refine (cD _ _ hr4).mono ?_); rintro e w4 ⟨rfl, hb4⟩; replace HS := HS.step hb4; clear hb4)
            | (refine wVar ptT q HS rfl 7 _ rfl rfl rfl rfl rfl ?_; clear HS; intro w5 HS)
            | (refine wLoad ptT q HS 0 rfl (List.take_of_length_le (by rw [List.drop_zero]; exact Nat.le_of_eq q.len)) _ rfl rfl rfl ?_)
            | (refine wLay ptT q HS 1 (off := k * 35) rfl (by rw [HPL.out]; show k * 35 + 35 ≤ 140; omega) _ HL.out _ _ rfl rfl rfl rfl ?_; clear HS; intro w6 HS))
          go_roundw
          case rel => exact ⟨k + 1, by go_num, by omega, HS.tail, hE2⟩
          case measure => simp [intOf] <;> omega
        · have hE3 : decE (chunk xs k) = 3 := (decE_44 _ hcl).resolve_left hE
          have hbad := rd_bad xs (rd_chunk xs k h4 hE)
          have cD : ∀ W v, RB W v (chunk xs k) → Calls Try.prog 11 #[v] W fun e w' => e = .returned (.tuple #[.agg q.cells.toArray, .int .i64 3]) ∧ Below W.heap.size W w' := fun W v h => by
            have := Decode_any v (chunk xs k) W h (by rw [hcl]; omega)
            rw [hE3, ← hq] at this
            exact this
          have HBAD := Lib.hid hbad
          clear hE hE3 hq hlay hpl hcl hr3 hbad
          go_wp2_with (first
            | (go_at_call 11; (with_reducible refine (cD _ _ hr4).mono ?_); rintro e w4 ⟨rfl, hb4⟩; replace HS := HS.step hb4; clear hb4)
            | (refine wVar ptT q HS rfl 7 _ rfl rfl rfl rfl rfl ?_; clear HS; intro w5 HS)
            | (refine wLoad plT PL.none HS 2 rfl (List.take_of_length_le (by rw [List.drop_zero]; exact Nat.le_of_eq PL.none.len)) _ rfl rfl rfl ?_)
            | (refine wStore plT PL.none HS 3 rfl PL.none.len _ _ rfl rfl rfl rfl ?_; clear HS; intro w6 HS))
          refine bodyPost_ret (results_cell_tmp rfl _ (HS.va 3 rfl) rfl _ Try.underlying36 rfl (PL.info _)) rfl ?_
          exact ⟨by rw [HBAD.out.1, HBAD.out.2]; rfl, HS.below⟩
      · obtain rfl : k = 4 := by omega
        go_wp2
        go_loop [39] (fun v39 => ∃ (j : Nat), v39 = .int .i64 (j : Int) ∧ j ≤ 80 ∧ Hid (∀ i < j, (xs.drop 176).getD i 0 = 0)) (fun i => 80 - (intOf i).toNat)
        case atStart => exact ⟨0, rfl, by omega, fun i hi => by omega⟩
        case round =>
          obtain ⟨j, rfl, hj, HZ⟩ := hrel
          by_cases h80 : j < 80
          · have hji : (j : Int) < 80 := by omega
            have hcell := cell_below HS.below (HB.out j h80)
            obtain ⟨x, hx⟩ : ∃ x, x = (xs.drop 176).getD j 0 := ⟨_, rfl⟩
            rw [← hx] at hcell
            by_cases h0 : x = 0
            · have hZ2 : Hid (∀ i < j + 1, (xs.drop 176).getD i 0 = 0) := fun i hi => by
                rcases Nat.lt_or_ge i j with h | h
                · exact HZ i h
                · obtain rfl : i = j := by omega
                  exact hx.symm.trans h0
              rw [h0] at hcell
              clear hx h0
              go_wp2
              go_round
              case rel => exact ⟨j + 1, by go_num, by omega, hZ2⟩
              case measure => simp [intOf] <;> omega
            · have hbad := rd_bad xs (rd_tail xs j h80 (by rw [← hx]; exact h0))
              have hne : ((x.toNat : Int) == 0) = false := by have := u8_eq x 0; rw [show ((0 : UInt8).toNat : Int) = 0 from rfl] at this; rw [this]; exact beq_eq_false_iff_ne.mpr h0
              have hne2 : ((x.toNat : Int) != 0) = true := by rw [bne, hne]; rfl
              have hne3 : ¬ (x.toNat : Int) = 0 := by simpa using hne
              have HBAD := Lib.hid hbad
              clear hx h0 hbad
              go_wp2_with (first
                | (refine wLoad plT PL.none HS 1 rfl (List.take_of_length_le (by rw [List.drop_zero]; exact Nat.le_of_eq PL.none.len)) _ rfl rfl rfl ?_)
                | (refine wStore plT PL.none HS 2 rfl PL.none.len _ _ rfl rfl rfl rfl ?_; clear HS; intro w6 HS))
              refine bodyPost_ret (results_cell_tmp rfl _ (HS.va 2 rfl) rfl _ Try.underlying36 rfl (PL.info _)) rfl ?_
              exact ⟨by rw [HBAD.out.1, HBAD.out.2]; rfl, HS.below⟩
          · obtain rfl : j = 80 := by omega
            have hok := rd_good xs H256.out HE HZ
            have hpa := preP_all xs hok
            have hre : rdE xs = 0 := by rw [rdE, if_pos hok]
            rw [hpa] at HS
            have HRE := Lib.hid hre
            obtain ⟨l, hl⟩ : ∃ l, l = rdL xs := ⟨_, rfl⟩
            rw [← hl] at HS
            have HL := Lib.hid hl
            clear hl hok hpa hre HE HZ
            go_wp2_with (first
              | (refine wLoad plT l HS 0 rfl (List.take_of_length_le (by rw [List.drop_zero]; exact Nat.le_of_eq l.len)) _ rfl rfl rfl ?_)
              | (refine wStore plT l HS 2 rfl PL.none.len _ _ rfl rfl rfl rfl ?_; clear HS; intro w6 HS))
            refine bodyPost_ret (results_cell_tmp rfl _ (HS.va 2 rfl) rfl _ Try.underlying36 rfl (PL.info _)) rfl ?_
            exact ⟨by rw [HRE.out, ← HL.out]; rfl, HS.below⟩
  · have hbad := rd_bad xs (rd_len xs h256)
    have hne : ¬ (xs.length : Int) = 256 := by omega
    have hne1 : ((xs.length : Int) != 256) = true := by simpa using hne
    have hne2 : ((xs.length : Int) == 256) = false := by simpa using hne
    have HBAD := Lib.hid hbad
    clear hbad h256 hv
    go_enter Try.func13, Try.ntmps13
    go_wp2_with (first
      | (refine wAlloc plT (H : SH Nil w _ []) rfl rfl ?_; clear H; intro w1 H)
      | (refine wAlloc plT (H : SH Nil w _ [_]) rfl rfl ?_; clear H; intro w2 H)
      | (refine wAlloc plT (H : SH Nil w _ [_, _]) rfl rfl ?_; clear H; intro w3 H)
      | (refine wLoad plT PL.none H 1 rfl (List.take_of_length_le (by rw [List.drop_zero]; exact Nat.le_of_eq PL.none.len)) _ rfl rfl rfl ?_)
      | (refine wStore plT PL.none H 2 rfl PL.none.len _ _ rfl rfl rfl rfl ?_; clear H; intro w6 H))
    refine bodyPost_ret (results_cell_tmp rfl _ (H.va 2 rfl) rfl _ Try.underlying36 rfl (PL.info _)) rfl ?_
    exact ⟨by rw [HBAD.out.1, HBAD.out.2]; rfl, H.below⟩
end Go.Proofs.Ythogefehainmdab
