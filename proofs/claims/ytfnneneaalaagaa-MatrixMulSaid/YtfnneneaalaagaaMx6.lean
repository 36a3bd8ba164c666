/- Layer 26: rows that change places. -/
import Derived.Test.YtfnneneaalaagaaMx5
namespace Go.Proofs.Ytfnneneaalaagaa
open Go.RowKit
set_option linter.unusedSimpArgs false
set_option linter.unusedVariables false

/-- m.row(i) of a matrix whose elements begin a block. -/
theorem row_blk (r : Int) (c i g n cp : Nat) (w : World) (hc : 0 < c) (hn : (i + 1) * c ≤ n) (hcp : n ≤ cp) (hb : n ≤ 1000000) :
    Calls Try.prog 51 #[.agg (mxT.enc (r, (c : Int), some ⟨g, 0, none⟩, n, cp)).toArray, .int .i64 (i : Int)] w fun e w' => e = .returned (.slice (some ⟨g, i * c, none⟩) c c) ∧ Below w.heap.size w w' :=
  (row_any r c i ⟨g, 0, none⟩ n cp w hc hn hcp hb).mono fun e w' ⟨h1, h2⟩ => ⟨by rw [h1, addr_add, Nat.zero_add], h2⟩
theorem row_in {r c i : Nat} (hi : i < r) : (i + 1) * c ≤ r * c := Nat.mul_le_mul_right c hi
set_option maxHeartbeats 1600000 in
set_option maxRecDepth 100000 in
theorem swap_any (M : List (List UInt8)) (tail : List Value) (r c i j g cp : Nat) (t : TypeId) (w : World) (hM : Mat M r c) (hv : VA w g t (mcells M tail)) (hi : i < r) (hj : j < r) (hc : 0 < c) (hr : r ≤ 64) (hc2 : c ≤ 64) (hcp : r * c ≤ cp) :
    Calls Try.prog 76 #[.agg (mxT.enc ((r : Int), (c : Int), some ⟨g, 0, none⟩, r * c, cp)).toArray, .int .i64 (i : Int), .int .i64 (j : Int)] w fun e w' => e = .returned (.tuple #[]) ∧ SH (fun k => k = g) w w' [.blk g t (mcells (swapM M i j) tail)] := by
  have H0 := SH.block hv
  obtain ⟨n, hn⟩ : ∃ n, n = r * c := ⟨_, rfl⟩
  have hn2 : n ≤ 64 * 64 := by rw [hn]; exact Nat.mul_le_mul hr hc2
  have cR := fun (W : World) (q : Nat) (hq : q < r) => row_blk (r : Int) c q g n cp W hc (by rw [hn]; exact row_in hq) (by omega) (by omega)
  rw [← hn]
  have c1 := fun W => cR W i hi
  have c2 := fun W => cR W j hj
  have HM := Lib.hid hM
  have C1 := Lib.hid c1
  have C2 := Lib.hid c2
  have HA := Lib.hid (addr_add g)
  have hci : (c : Int) ≤ 64 := by omega
  clear cR c1 c2 hv hn hcp hM
  go_enter Try.func76, Try.ntmps76
  go_wp2_with (first
    | ((with_reducible refine gBox ?_); refine wBox mxT ((r : Int), (c : Int), some ⟨g, 0, none⟩, n, cp) H0 _ rfl rfl rfl ?_; clear H0; intro w1 H1))
  have H := H1.drew
  clear H1
  refine startE (none) (by kernel_rfl) ?_
  refine takeE 0 rfl (by kernel_rfl) (by kernel_rfl) (by kernel_rfl) (fun _ _ _ h => h) rfl (v := ?_) ?_ ?_
  rotate_left
  · intro w' hw'; refine Eq.trans (exec_load 32 _ rfl w.heap.size 0 rfl (mxT.enc ((r : Int), (c : Int), some ⟨g, 0, none⟩, n, cp)) _ (VA.all ((H.va 0 rfl).below (grown_none hw'))) Try.underlying32 rfl (mxT.sz _)) ?_; with_reducible rfl
  (try simp only [Act.put, List.setIfInBounds_toArray, List.set_cons_zero, List.set_cons_succ])
  refine takeE 1 rfl (by kernel_rfl) (by kernel_rfl) (by kernel_rfl) (fun _ _ _ h => h) rfl (v := ?_) ?_ ?_
  rotate_left
  · intro w' hw'; clear hw'; go_simp; (try with_reducible rfl)
  (try simp only [Act.put, List.setIfInBounds_toArray, List.set_cons_zero, List.set_cons_succ])
  refine takeE 3 rfl (by kernel_rfl) (by kernel_rfl) (by kernel_rfl) (fun _ _ _ h => h) rfl (v := ?_) ?_ ?_
  rotate_left
  · intro w' hw'; refine Eq.trans (exec_load 32 _ rfl w.heap.size 0 rfl (mxT.enc ((r : Int), (c : Int), some ⟨g, 0, none⟩, n, cp)) _ (VA.all ((H.va 0 rfl).below (grown_none hw'))) Try.underlying32 rfl (mxT.sz _)) ?_; with_reducible rfl
  (try simp only [Act.put, List.setIfInBounds_toArray, List.set_cons_zero, List.set_cons_succ])
  refine takeE 4 rfl (by kernel_rfl) (by kernel_rfl) (by kernel_rfl) (fun _ _ _ h => h) rfl (v := ?_) ?_ ?_
  rotate_left
  · intro w' hw'; clear hw'; go_simp; (try with_reducible rfl)
  (try simp only [Act.put, List.setIfInBounds_toArray, List.set_cons_zero, List.set_cons_succ])
  refine stepE 2 rfl (by kernel_rfl) rfl (fun K hK => ?_)
  (go_simp; (with_reducible refine (C1.out _).mono ?_); rintro e w5 ⟨rfl, hb⟩; refine K_out hK hb ?_; clear K hK; replace H := H.step hb; clear hb)
  (try simp only [Act.put, List.setIfInBounds_toArray, List.set_cons_zero, List.set_cons_succ])
  refine stepE 5 rfl (by kernel_rfl) rfl (fun K hK => ?_)
  (go_simp; (with_reducible refine (C2.out _).mono ?_); rintro e w5 ⟨rfl, hb⟩; refine K_out hK hb ?_; clear K hK; replace H := H.step hb; clear hb)
  (try simp only [Act.put, List.setIfInBounds_toArray, List.set_cons_zero, List.set_cons_succ])
  refine takeE 6 rfl (by kernel_rfl) (by kernel_rfl) (by kernel_rfl) (fun _ _ _ h => h) rfl (v := ?_) ?_ ?_
  rotate_left
  · intro w' hw'; clear hw'; go_simp; (try with_reducible rfl)
  (try simp only [Act.put, List.setIfInBounds_toArray, List.set_cons_zero, List.set_cons_succ])
  refine takeE 7 rfl (by kernel_rfl) (by kernel_rfl) (by kernel_rfl) (fun _ _ _ h => h) rfl (v := ?_) ?_ ?_
  rotate_left
  · intro w' hw'; clear hw'; go_simp; (try with_reducible rfl)
  (try simp only [Act.put, List.setIfInBounds_toArray, List.set_cons_zero, List.set_cons_succ])
  refine doneE (by kernel_rfl) ?_
  replace H := H.tail
  go_wp2
  have hfit : ∀ (N : List (List UInt8)) (q k : Nat), Mat N r c → q < r → k < c → q * c + k + 1 ≤ (mcells N tail).length := fun N q k hN hq hk => by have := hN.fits hq tail; omega
  have HF := Lib.hid hfit
  clear hfit
  by_cases hij : i = j
  · subst hij
    go_loopw [17] (fun v17 wr => ∃ k : Nat, v17 = .int .i64 (k : Int) ∧ k ≤ c ∧ SH (fun k => k = g) w wr [.blk g t (mcells M tail)]) (fun v _ => c - (intOf v).toNat)
    case atStart => exact ⟨0, rfl, by omega, H⟩
    case round =>
      obtain ⟨k, rfl, hk, HS⟩ := hrel
      clear H
      by_cases hkn : k < c
      · have hki : (k : Int) < (c : Int) := by omega
        have hM := HM.out
        have hcell : wr.cell? ⟨g, i * c + k, none⟩ = some (.int .u8 (((M.getD i []).getD k 0).toNat : Int)) := by
          rw [(HS.va 0 rfl).cell, hM.at_ hi hkn]
        have hnew := hM.set1 hi hkn tail ((M.getD i []).getD k 0)
        have e : (M.getD i []).set k ((M.getD i []).getD k 0) = M.getD i [] := by
          have hl := hM.get hi
          rw [List.getD_eq_getElem?_getD (l := M.getD i []), List.getElem?_eq_getElem (by omega)]; exact List.set_getElem_self _
        rw [e, set_getD] at hnew
        have hadd := HA.out (i * c) k
        generalize (M.getD i []).getD k 0 = x at hcell hnew
        have HN := Lib.hid hnew
        have HLO := Lib.hid (HF.out M i k hM hi hkn)
        have HD := HS.drew
        have HS0 : wr.drew.cell? ⟨g, i * c + k, none⟩ = some (.int .u8 (x.toNat : Int)) := hcell
        clear hnew HS hcell hM e
        generalize i * c = oi at *
        go_wp2
        refine startL (fun w' => w'.cell? ⟨g, oi + k, none⟩ = some (.int .u8 (x.toNat : Int))) (fun i => i == 13 || i == 15) (by kernel_rfl) ?_
        refine takeP 0 rfl (by kernel_rfl) (by kernel_rfl) (by kernel_rfl) (by kernel_rfl) (fun _ _ _ h => h) rfl (v := ?_) ?_ ?_
        rotate_left
        · intro w'; go_simp; (try with_reducible rfl)
        (try simp only [Act.put, List.setIfInBounds_toArray, List.set_cons_zero, List.set_cons_succ])
        refine takeP 1 rfl (by kernel_rfl) (by kernel_rfl) (by kernel_rfl) (by kernel_rfl) (fun _ _ _ h => h) rfl (v := ?_) ?_ ?_
        rotate_left
        · intro w'; go_simp; (try with_reducible rfl)
        (try simp only [Act.put, List.setIfInBounds_toArray, List.set_cons_zero, List.set_cons_succ])
        refine takeP 2 rfl (by kernel_rfl) (by kernel_rfl) (by kernel_rfl) (by kernel_rfl) (fun _ _ _ h => h) rfl (v := ?_) ?_ ?_
        rotate_left
        · intro w'; go_simp; (try with_reducible rfl)
        (try simp only [Act.put, List.setIfInBounds_toArray, List.set_cons_zero, List.set_cons_succ])
        refine takeP 3 rfl (by kernel_rfl) (by kernel_rfl) (by kernel_rfl) (by kernel_rfl) (fun _ _ _ h => h) rfl (v := ?_) ?_ ?_
        rotate_left
        · intro w'; go_simp; (try with_reducible rfl)
        (try simp only [Act.put, List.setIfInBounds_toArray, List.set_cons_zero, List.set_cons_succ])
        refine takeP 4 rfl (by kernel_rfl) (by kernel_rfl) (by kernel_rfl) (by kernel_rfl) (fun _ _ _ h => h) rfl (v := ?_) ?_ ?_
        rotate_left
        · intro w'; go_simp; (try with_reducible rfl)
        (try simp only [Act.put, List.setIfInBounds_toArray, List.set_cons_zero, List.set_cons_succ])
        refine takeP 5 rfl (by kernel_rfl) (by kernel_rfl) (by kernel_rfl) (by kernel_rfl) (fun _ _ _ h => h) rfl (v := ?_) ?_ ?_
        rotate_left
        · intro w'; go_simp; (try with_reducible rfl)
        (try simp only [Act.put, List.setIfInBounds_toArray, List.set_cons_zero, List.set_cons_succ])
        refine takeP 6 rfl (by kernel_rfl) (by kernel_rfl) (by kernel_rfl) (by kernel_rfl) (fun _ _ _ h => h) rfl (v := ?_) ?_ ?_
        rotate_left
        · intro w'; go_simp; (try with_reducible rfl)
        (try simp only [Act.put, List.setIfInBounds_toArray, List.set_cons_zero, List.set_cons_succ])
        refine takeL 7 HS0 rfl (by kernel_rfl) (by kernel_rfl) (by kernel_rfl) (by kernel_rfl) (by kernel_rfl) (fun _ _ _ h => h) rfl (v := ?_) ?_ ?_
        rotate_left
        · intro w' hw'; have kq := hw'; clear hw'; go_simp; (try with_reducible rfl)
        (try simp only [Act.put, List.setIfInBounds_toArray, List.set_cons_zero, List.set_cons_succ])
        refine takeP 8 rfl (by kernel_rfl) (by kernel_rfl) (by kernel_rfl) (by kernel_rfl) (fun _ _ _ h => h) rfl (v := ?_) ?_ ?_
        rotate_left
        · intro w'; go_simp; (try with_reducible rfl)
        (try simp only [Act.put, List.setIfInBounds_toArray, List.set_cons_zero, List.set_cons_succ])
        refine takeP 9 rfl (by kernel_rfl) (by kernel_rfl) (by kernel_rfl) (by kernel_rfl) (fun _ _ _ h => h) rfl (v := ?_) ?_ ?_
        rotate_left
        · intro w'; go_simp; (try with_reducible rfl)
        (try simp only [Act.put, List.setIfInBounds_toArray, List.set_cons_zero, List.set_cons_succ])
        refine takeP 10 rfl (by kernel_rfl) (by kernel_rfl) (by kernel_rfl) (by kernel_rfl) (fun _ _ _ h => h) rfl (v := ?_) ?_ ?_
        rotate_left
        · intro w'; go_simp; (try with_reducible rfl)
        (try simp only [Act.put, List.setIfInBounds_toArray, List.set_cons_zero, List.set_cons_succ])
        refine takeL 11 HS0 rfl (by kernel_rfl) (by kernel_rfl) (by kernel_rfl) (by kernel_rfl) (by kernel_rfl) (fun _ _ _ h => h) rfl (v := ?_) ?_ ?_
        rotate_left
        · intro w' hw'; have kq := hw'; clear hw'; go_simp; (try with_reducible rfl)
        (try simp only [Act.put, List.setIfInBounds_toArray, List.set_cons_zero, List.set_cons_succ])
        refine takeP 12 rfl (by kernel_rfl) (by kernel_rfl) (by kernel_rfl) (by kernel_rfl) (fun _ _ _ h => h) rfl (v := ?_) ?_ ?_
        rotate_left
        · intro w'; go_simp; (try with_reducible rfl)
        (try simp only [Act.put, List.setIfInBounds_toArray, List.set_cons_zero, List.set_cons_succ])
        refine stepL 13 rfl (by kernel_rfl) rfl (fun K hK => ?_)
        (refine oCell 5 (cb x) (by kernel_rfl) rfl rfl HD 0 (off := oi + k) rfl HLO.out _ HN.out _ _ rfl rfl rfl ?_; clear HD; intro w7 HD; refine hK.out _ _ (fun h => by cases h) ?_; clear K hK HS0)
        (try simp only [Act.put, List.setIfInBounds_toArray, List.set_cons_zero, List.set_cons_succ])
        refine takeP 14 rfl (by kernel_rfl) (by kernel_rfl) (by kernel_rfl) (by kernel_rfl) (fun _ _ _ h => h) rfl (v := ?_) ?_ ?_
        rotate_left
        · intro w'; go_simp; (try with_reducible rfl)
        (try simp only [Act.put, List.setIfInBounds_toArray, List.set_cons_zero, List.set_cons_succ])
        refine stepL 15 rfl (by kernel_rfl) rfl (fun K hK => ?_)
        (refine oCell 5 (cb x) (by kernel_rfl) rfl rfl HD 0 (off := oi + k) rfl HLO.out _ HN.out _ _ rfl rfl rfl ?_; clear HD; intro w8 HD; refine hK.out _ _ (fun h => by cases h) ?_; clear K hK)
        (try simp only [Act.put, List.setIfInBounds_toArray, List.set_cons_zero, List.set_cons_succ])
        refine doneL (by kernel_rfl) ?_
        go_wp2
        go_roundw
        case rel => exact ⟨k + 1, by go_num, by omega, HD⟩
        case measure => simp [intOf] <;> omega
      · obtain rfl : k = c := by omega
        go_wp2
        go_end0
        exact ⟨rfl, by rw [swapM_self]; exact HS⟩
  · rw [← swapK_zero M i j] at H
    go_loopw [17] (fun v17 wr => ∃ k : Nat, v17 = .int .i64 (k : Int) ∧ k ≤ c ∧ SH (fun k => k = g) w wr [.blk g t (mcells (swapK M i j k) tail)]) (fun v _ => c - (intOf v).toNat)
    case atStart => exact ⟨0, rfl, by omega, H⟩
    case round =>
      obtain ⟨k, rfl, hk, HS⟩ := hrel
      clear H
      by_cases hkn : k < c
      · have hki : (k : Int) < (c : Int) := by omega
        have hM := HM.out
        obtain ⟨hN, hx, hy, hst⟩ := swapK_step hM hi hj hkn hij
        have hc1 : wr.cell? ⟨g, i * c + k, none⟩ = some (.int .u8 (((M.getD i []).getD k 0).toNat : Int)) := by
          rw [(HS.va 0 rfl).cell, hN.at_ hi hkn, hx]
        have hc2 : wr.cell? ⟨g, j * c + k, none⟩ = some (.int .u8 (((M.getD j []).getD k 0).toNat : Int)) := by
          rw [(HS.va 0 rfl).cell, hN.at_ hj hkn, hy]
        have hn1 := hN.set1 hi hkn tail ((M.getD j []).getD k 0)
        have hN1 := hN.set i (((swapK M i j k).getD i []).set k ((M.getD j []).getD k 0)) (by rw [List.length_set]; exact hN.get hi)
        have hn2 := hN1.set1 hj hkn tail ((M.getD i []).getD k 0)
        rw [hst] at hn2
        have hadd1 := HA.out (i * c) k
        have hadd2 := HA.out (j * c) k
        generalize (swapK M i j k).set i (((swapK M i j k).getD i []).set k ((M.getD j []).getD k 0)) = N1 at hn1 hN1 hn2 hst
        generalize (M.getD i []).getD k 0 = x at *
        generalize (M.getD j []).getD k 0 = y at *
        have HN1 := Lib.hid hn1
        have HN2 := Lib.hid hn2
        have HLO1 := Lib.hid (HF.out _ i k hN hi hkn)
        have HLO2 := Lib.hid (HF.out _ j k hN1 hj hkn)
        have HD := HS.drew
        have HS0 : wr.drew.cell? ⟨g, i * c + k, none⟩ = some (.int .u8 (x.toNat : Int)) ∧ wr.drew.cell? ⟨g, j * c + k, none⟩ = some (.int .u8 (y.toNat : Int)) := ⟨hc1, hc2⟩
        clear hn1 hn2 HS hc1 hc2 hM hN hN1 hx hy hst
        generalize i * c = oi at *
        generalize j * c = oj at *
        go_wp2
        refine startL (fun w' => w'.cell? ⟨g, oi + k, none⟩ = some (.int .u8 (x.toNat : Int)) ∧ w'.cell? ⟨g, oj + k, none⟩ = some (.int .u8 (y.toNat : Int))) (fun i => i == 13 || i == 15) (by kernel_rfl) ?_
        refine takeP 0 rfl (by kernel_rfl) (by kernel_rfl) (by kernel_rfl) (by kernel_rfl) (fun _ _ _ h => h) rfl (v := ?_) ?_ ?_
        rotate_left
        · intro w'; go_simp; (try with_reducible rfl)
        (try simp only [Act.put, List.setIfInBounds_toArray, List.set_cons_zero, List.set_cons_succ])
        refine takeP 1 rfl (by kernel_rfl) (by kernel_rfl) (by kernel_rfl) (by kernel_rfl) (fun _ _ _ h => h) rfl (v := ?_) ?_ ?_
        rotate_left
        · intro w'; go_simp; (try with_reducible rfl)
        (try simp only [Act.put, List.setIfInBounds_toArray, List.set_cons_zero, List.set_cons_succ])
        refine takeP 2 rfl (by kernel_rfl) (by kernel_rfl) (by kernel_rfl) (by kernel_rfl) (fun _ _ _ h => h) rfl (v := ?_) ?_ ?_
        rotate_left
        · intro w'; go_simp; (try with_reducible rfl)
        (try simp only [Act.put, List.setIfInBounds_toArray, List.set_cons_zero, List.set_cons_succ])
        refine takeP 3 rfl (by kernel_rfl) (by kernel_rfl) (by kernel_rfl) (by kernel_rfl) (fun _ _ _ h => h) rfl (v := ?_) ?_ ?_
        rotate_left
        · intro w'; go_simp; (try with_reducible rfl)
        (try simp only [Act.put, List.setIfInBounds_toArray, List.set_cons_zero, List.set_cons_succ])
        refine takeP 4 rfl (by kernel_rfl) (by kernel_rfl) (by kernel_rfl) (by kernel_rfl) (fun _ _ _ h => h) rfl (v := ?_) ?_ ?_
        rotate_left
        · intro w'; go_simp; (try with_reducible rfl)
        (try simp only [Act.put, List.setIfInBounds_toArray, List.set_cons_zero, List.set_cons_succ])
        refine takeP 5 rfl (by kernel_rfl) (by kernel_rfl) (by kernel_rfl) (by kernel_rfl) (fun _ _ _ h => h) rfl (v := ?_) ?_ ?_
        rotate_left
        · intro w'; go_simp; (try with_reducible rfl)
        (try simp only [Act.put, List.setIfInBounds_toArray, List.set_cons_zero, List.set_cons_succ])
        refine takeP 6 rfl (by kernel_rfl) (by kernel_rfl) (by kernel_rfl) (by kernel_rfl) (fun _ _ _ h => h) rfl (v := ?_) ?_ ?_
        rotate_left
        · intro w'; go_simp; (try with_reducible rfl)
        (try simp only [Act.put, List.setIfInBounds_toArray, List.set_cons_zero, List.set_cons_succ])
        refine takeL 7 HS0 rfl (by kernel_rfl) (by kernel_rfl) (by kernel_rfl) (by kernel_rfl) (by kernel_rfl) (fun _ _ _ h => h) rfl (v := ?_) ?_ ?_
        rotate_left
        · intro w' hw'; have kq := hw'.2; clear hw'; go_simp; (try with_reducible rfl)
        (try simp only [Act.put, List.setIfInBounds_toArray, List.set_cons_zero, List.set_cons_succ])
        refine takeP 8 rfl (by kernel_rfl) (by kernel_rfl) (by kernel_rfl) (by kernel_rfl) (fun _ _ _ h => h) rfl (v := ?_) ?_ ?_
        rotate_left
        · intro w'; go_simp; (try with_reducible rfl)
        (try simp only [Act.put, List.setIfInBounds_toArray, List.set_cons_zero, List.set_cons_succ])
        refine takeP 9 rfl (by kernel_rfl) (by kernel_rfl) (by kernel_rfl) (by kernel_rfl) (fun _ _ _ h => h) rfl (v := ?_) ?_ ?_
        rotate_left
        · intro w'; go_simp; (try with_reducible rfl)
        (try simp only [Act.put, List.setIfInBounds_toArray, List.set_cons_zero, List.set_cons_succ])
        refine takeP 10 rfl (by kernel_rfl) (by kernel_rfl) (by kernel_rfl) (by kernel_rfl) (fun _ _ _ h => h) rfl (v := ?_) ?_ ?_
        rotate_left
        · intro w'; go_simp; (try with_reducible rfl)
        (try simp only [Act.put, List.setIfInBounds_toArray, List.set_cons_zero, List.set_cons_succ])
        refine takeL 11 HS0 rfl (by kernel_rfl) (by kernel_rfl) (by kernel_rfl) (by kernel_rfl) (by kernel_rfl) (fun _ _ _ h => h) rfl (v := ?_) ?_ ?_
        rotate_left
        · intro w' hw'; have kq := hw'.1; clear hw'; go_simp; (try with_reducible rfl)
        (try simp only [Act.put, List.setIfInBounds_toArray, List.set_cons_zero, List.set_cons_succ])
        refine takeP 12 rfl (by kernel_rfl) (by kernel_rfl) (by kernel_rfl) (by kernel_rfl) (fun _ _ _ h => h) rfl (v := ?_) ?_ ?_
        rotate_left
        · intro w'; go_simp; (try with_reducible rfl)
        (try simp only [Act.put, List.setIfInBounds_toArray, List.set_cons_zero, List.set_cons_succ])
        refine stepL 13 rfl (by kernel_rfl) rfl (fun K hK => ?_)
        (refine oCell 5 (cb y) (by kernel_rfl) rfl rfl HD 0 (off := oi + k) rfl HLO1.out _ HN1.out _ _ rfl rfl rfl ?_; clear HD; intro w7 HD; refine hK.out _ _ (fun h => by cases h) ?_; clear K hK HS0)
        (try simp only [Act.put, List.setIfInBounds_toArray, List.set_cons_zero, List.set_cons_succ])
        refine takeP 14 rfl (by kernel_rfl) (by kernel_rfl) (by kernel_rfl) (by kernel_rfl) (fun _ _ _ h => h) rfl (v := ?_) ?_ ?_
        rotate_left
        · intro w'; go_simp; (try with_reducible rfl)
        (try simp only [Act.put, List.setIfInBounds_toArray, List.set_cons_zero, List.set_cons_succ])
        refine stepL 15 rfl (by kernel_rfl) rfl (fun K hK => ?_)
        (refine oCell 5 (cb x) (by kernel_rfl) rfl rfl HD 0 (off := oj + k) rfl HLO2.out _ HN2.out _ _ rfl rfl rfl ?_; clear HD; intro w8 HD; refine hK.out _ _ (fun h => by cases h) ?_; clear K hK)
        (try simp only [Act.put, List.setIfInBounds_toArray, List.set_cons_zero, List.set_cons_succ])
        refine doneL (by kernel_rfl) ?_
        go_wp2
        go_roundw
        case rel => exact ⟨k + 1, by go_num, by omega, HD⟩
        case measure => simp [intOf] <;> omega
      · obtain rfl : k = c := by omega
        rw [swapK_all HM.out hi hj] at HS
        go_wp2
        go_end0
        exact ⟨rfl, HS⟩
end Go.Proofs.Ytfnneneaalaagaa
