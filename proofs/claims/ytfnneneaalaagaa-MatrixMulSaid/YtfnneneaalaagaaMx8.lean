/- Layer 26: the first columns brought to steps. -/
import Derived.Test.YtfnneneaalaagaaMx7
namespace Go.Proofs.Ytfnneneaalaagaa
open Go.RowKit
set_option linter.unusedSimpArgs false
set_option linter.unusedVariables false

def scaleM (M : List (List UInt8)) (n c : Nat) : List (List UInt8) := M.set n ((M.getD n []).map fun x => fmul x (finv0 ((M.getD n []).getD c 0)))
def elimK (M : List (List UInt8)) (n c : Nat) : Nat → List (List UInt8)
  | 0 => M
  | k + 1 => if k = n then elimK M n c k else (elimK M n c k).set k (List.zipWith (addF (((elimK M n c k).getD k []).getD c 0)) ((elimK M n c k).getD k []) ((elimK M n c k).getD n []))
def clrStep (r cc : Nat) (s : List (List UInt8) × Nat) (c : Nat) : List (List UInt8) × Nat :=
  if s.2 < r then
    if nzI ((colL s.1.flatten r cc c).drop s.2) < 0 then s
    else (elimK (scaleM (swapM s.1 s.2 (s.2 + (nzI ((colL s.1.flatten r cc c).drop s.2)).toNat)) s.2 c) s.2 c r, s.2 + 1)
  else s
/-- Behind so many columns. -/
def clr (r cc : Nat) (M : List (List UInt8)) : Nat → List (List UInt8) × Nat
  | 0 => (M, 0)
  | c + 1 => clrStep r cc (clr r cc M c) c
theorem Mat.swap {M : List (List UInt8)} {r c : Nat} (h : Mat M r c) {i j : Nat} (hi : i < r) (hj : j < r) : Mat (swapM M i j) r c := (h.set i _ (h.get hj)).set j _ (h.get hi)
theorem Mat.scale {M : List (List UInt8)} {r c : Nat} (h : Mat M r c) {n : Nat} (hn : n < r) (k : Nat) : Mat (scaleM M n k) r c := h.set n _ (by rw [List.length_map]; exact h.get hn)
theorem Mat.elim {M : List (List UInt8)} {r c : Nat} (h : Mat M r c) {n : Nat} (hn : n < r) (k : Nat) : ∀ i, i ≤ r → Mat (elimK M n k i) r c
  | 0, _ => h
  | i + 1, hi => by
    have ih := h.elim hn k i (by omega)
    rw [elimK]
    split
    · exact ih
    · exact ih.set i _ (by rw [List.length_zipWith, ih.get hn, ih.get (by omega)]; exact Nat.min_self _)
theorem colL_of {M : List (List UInt8)} {r c : Nat} (h : Mat M r c) (j : Nat) : (colL M.flatten r c j).length = r := colL_len _ _ _ _
theorem Mat.step {s : List (List UInt8) × Nat} {r c : Nat} (h : Mat s.1 r c) (hs : s.2 ≤ r) (k : Nat) : Mat (clrStep r c s k).1 r c ∧ (clrStep r c s k).2 ≤ r ∧ s.2 ≤ (clrStep r c s k).2 := by
  unfold clrStep
  split
  · rename_i hn
    split
    · exact ⟨h, hs, Nat.le_refl _⟩
    · rename_i hp
      have hr := nzI_range ((colL s.1.flatten r c k).drop s.2)
      rw [List.length_drop, colL_of h] at hr
      exact ⟨((h.swap hn (by omega)).scale hn k).elim hn k r (Nat.le_refl _), hn, Nat.le_succ _⟩
  · exact ⟨h, hs, Nat.le_refl _⟩
theorem Mat.clr {M : List (List UInt8)} {r c : Nat} (h : Mat M r c) : ∀ k, Mat (Go.Proofs.Ytfnneneaalaagaa.clr r c M k).1 r c ∧ (Go.Proofs.Ytfnneneaalaagaa.clr r c M k).2 ≤ r
  | 0 => ⟨h, Nat.zero_le _⟩
  | k + 1 => by
    have ih := h.clr k
    have := Mat.step ih.1 ih.2 k
    exact ⟨this.1, this.2.1⟩
theorem clr_stop (r c : Nat) (M : List (List UInt8)) (k : Nat) (h : ¬ (clr r c M k).2 < r) : ∀ d, clr r c M (k + d) = clr r c M k
  | 0 => rfl
  | d + 1 => by rw [← Nat.add_assoc, clr, clr_stop r c M k h d, clrStep, if_neg h]
theorem VA.rb {w : World} {g : Nat} {M : List (List UInt8)} {tail : List Value} {t : TypeId} (h : VA w g t (mcells M tail)) (n cp : Nat) (hn : M.flatten.length = n) (hc : n ≤ cp) (hm : n ≤ 1000000) : RB w (.slice (some ⟨g, 0, none⟩) n cp) M.flatten := by
  subst hn
  refine ⟨_, _, rfl, hc, by omega, fun _ => ⟨_, rfl, fun j u hu => ?_⟩⟩
  rw [addr_add, Nat.zero_add, h.cell, mcells]
  rw [U8_all] at hu
  rw [List.getElem?_append_left (List.getElem?_eq_some_iff.1 hu).1]
  exact hu
set_option maxHeartbeats 3200000 in
set_option maxRecDepth 100000 in
theorem clear_any (M : List (List UInt8)) (tail : List Value) (r c cols g cp : Nat) (t : TypeId) (w : World) (hM : Mat M r c) (hv : VA w g t (mcells M tail)) (hc : 0 < c) (hr : r ≤ 64) (hc2 : c ≤ 64) (hcols : cols ≤ c) (hcp : r * c ≤ cp) :
    Calls Try.prog 60 #[.agg (mxT.enc ((r : Int), (c : Int), some ⟨g, 0, none⟩, r * c, cp)).toArray, .int .i64 (cols : Int)] w fun e w' => e = .returned (.int .i64 ((clr r c M cols).2 : Int)) ∧ SH (fun k => k = g) w w' [.blk g t (mcells (clr r c M cols).1 tail)] := by
  have H0 := SH.block hv
  obtain ⟨n, hn⟩ : ∃ n, n = r * c := ⟨_, rfl⟩
  have hn2 : n ≤ 64 * 64 := by rw [hn]; exact Nat.mul_le_mul hr hc2
  have cR := fun (W : World) (q : Nat) (hq : q < r) => row_blk (r : Int) c q g n cp W hc (by rw [hn]; exact row_in hq) (by omega) (by omega)
  have cC := fun (N : List (List UInt8)) (hN : Mat N r c) (W : World) (j : Nat) (hj : j < c) (hb : RB W (.slice (some ⟨g, 0, none⟩) n cp) N.flatten) => column_any N.flatten r c j ⟨g, 0, none⟩ cp W (by rw [← hn]; exact hb) hN.flat hr hc2 hj hcp
  have cS := fun (N : List (List UInt8)) (hN : Mat N r c) (W : World) (h : VA W g t (mcells N tail)) (i j : Nat) (hi : i < r) (hj : j < r) => swap_any N tail r c i j g cp t W hN h hi hj hc hr hc2 hcp
  have hcp2 : n ≤ cp := by omega
  rw [← hn] at cC cS ⊢
  have CR := Lib.hid cR
  have CC := Lib.hid cC
  have CS := Lib.hid cS
  have HM := Lib.hid hM
  have HA := Lib.hid (addr_add g)
  have HN := Lib.hid hn
  have hci : (c : Int) ≤ 64 := by omega
  have hri : (r : Int) ≤ 64 := by omega
  have hcoi : (cols : Int) ≤ 64 := by omega
  clear cR cC cS hv hn hcp hM
  go_enter Try.func60, Try.ntmps60
  go_wp2_with (first
    | ((with_reducible refine gBox ?_); refine wBox mxT ((r : Int), (c : Int), some ⟨g, 0, none⟩, n, cp) H0 _ rfl rfl rfl ?_; clear H0; intro w1 H1))
  go_loopw [5, 6] (fun v5 v6 wr => ∃ k : Nat, v6 = .int .i64 (k : Int) ∧ k ≤ cols ∧ v5 = .int .i64 ((clr r c M k).2 : Int) ∧ SH (fun k => k = g) w wr [.blk w.heap.size 32 (mxC ((r : Int), (c : Int), some ⟨g, 0, none⟩, n, cp)), .blk g t (mcells (clr r c M k).1 tail)]) (fun _ v _ => cols - (intOf v).toNat)
  case atStart => exact ⟨0, rfl, by omega, rfl, H1⟩
  case round =>
    obtain ⟨k, rfl, hk, rfl, HS⟩ := hrel
    clear H1
    have k0 : wr.cell? ⟨w.heap.size, 0, none⟩ = some (.int .i64 (r : Int)) := (HS.va 0 rfl).cell 0
    by_cases hkc : k < cols
    · have hki : decide ((k : Int) < (cols : Int)) = true := by simp; omega
      obtain ⟨hMk, hnk⟩ := HM.out.clr k
      have hstep : clr r c M (k + 1) = clrStep r c (clr r c M k) k := rfl
      have hstop := clr_stop r c M k
      obtain ⟨s, hs⟩ : ∃ s, s = clr r c M k := ⟨_, rfl⟩
      rw [← hs] at hMk hnk hstep hstop HS ⊢
      obtain ⟨N, q⟩ := s
      simp only at hMk hnk hstep hstop HS ⊢
      by_cases hqr : q < r
      · have hqi : decide ((q : Int) < (r : Int)) = true := by simp; omega
        have hqi2 : (q : Int) < (r : Int) := by omega
        have hrb := VA.rb (HS.va 1 rfl) n cp (hMk.flat.trans HN.out.symm) hcp2 (by omega)
        have cX0 := CC.out N hMk wr k (by omega) hrb
        have hXl := colL_of hMk k
        rw [clrStep, if_pos hqr] at hstep
        obtain ⟨X, hX⟩ : ∃ X, X = colL N.flatten r c k := ⟨_, rfl⟩
        rw [← hX] at cX0 hXl hstep
        have cX : Calls Try.prog 66 #[.agg (mxT.enc ((r : Int), (c : Int), some ⟨g, 0, none⟩, n, cp)).toArray, .int .i64 (k : Int)] wr fun e w' => ∃ A c5, e = .returned (.slice A r c5) ∧ r ≤ c5 ∧ OB w' wr.heap.size (.slice A r c5) X ∧ Below wr.heap.size wr w' := cX0.mono fun e w' ⟨v, h1, h2, h3⟩ => by
          obtain ⟨A, c5, rfl, h4⟩ := h2.reads.len
          rw [hXl] at h1 h2 h4
          exact ⟨A, c5, h1, h4, h2, h3⟩
        have hcut : ∀ A c5 W, r ≤ c5 → RB W (.slice A r c5) X → ∃ A6, (∀ W', (Instr.slice 22 (.slice A r c5) (some (.int .i64 (q : Int))) none none).run Try.prog W' = .ok (.slice A6 (r - q) (c5 - q)) W') ∧ RB W (.slice A6 (r - q) (c5 - q)) (X.drop q) := fun A c5 W h1 h2 => by
          rw [← hXl] at h1 h2 ⊢
          obtain ⟨A6, _, h3, _, h4⟩ := cutB A c5 X q X.length (by omega) (Nat.le_refl _) h1
          have h5 := h4 W h2
          rw [List.take_of_length_le (Nat.le_refl _)] at h5
          exact ⟨A6, fun W' => h3 .i64 W' rfl, h5⟩
        have cI := fun W v h => idx_any v (X.drop q) W h (by rw [List.length_drop]; omega)
        have hpr := nzI_range (X.drop q)
        rw [List.length_drop, hXl] at hpr
        have HCUT := Lib.hid hcut
        generalize nzI (X.drop q) = p at cI hpr hstep
        clear hX cX0 hcut hrb hstop hs hXl
        by_cases hp0 : p < 0
        · obtain rfl : p = -1 := by omega
          rw [if_pos hp0] at hstep
          have HST := Lib.hid hstep
          clear hstep hp0 hpr k0
          have k0 : wr.cell? ⟨w.heap.size, 0, none⟩ = some (.int .i64 (r : Int)) := (HS.va 0 rfl).cell 0
          go_wp2_with (first
            | ((with_reducible refine gLoad ?_); refine wLoad mxT ((r : Int), (c : Int), some ⟨g, 0, none⟩, n, cp) HS 0 rfl rfl _ rfl rfl rfl ?_)
            | (go_at_call 66; (with_reducible refine cX.mono ?_); rintro e w5 ⟨A5, c5, rfl, hc5, ho, hb⟩; obtain ⟨A6, hk6, hr6⟩ := HCUT.out _ _ _ hc5 ho.reads; have H5 := HS.step hb; clear HS hb ho cX k0)
            | (go_at_call 74; (with_reducible refine (cI _ _ hr6).mono ?_); rintro e w6 ⟨rfl, rfl⟩))
          go_roundw
          case rel => first | exact ⟨k + 1, by go_num, by omega, by rw [HST.out], by rw [HST.out]; exact H5⟩ | exact ⟨_, _, ⟨k + 1, by go_num, by omega, by rw [HST.out], by rw [HST.out]; exact H5⟩, rfl, rfl⟩
          case measure => simp [intOf] <;> omega
        · obtain ⟨P, rfl⟩ : ∃ P : Nat, p = P := ⟨p.toNat, by omega⟩
          rw [if_neg hp0, Int.toNat_natCast] at hstep
          have hqP : q + P < r := by omega
          have hP0 : (0 : Int) ≤ (P : Int) := by omega
          have hPi : (P : Int) ≤ 64 := by omega
          have cW : ∀ W, VA W g t (mcells N tail) → Calls Try.prog 76 #[.agg (mxT.enc ((r : Int), (c : Int), some ⟨g, 0, none⟩, n, cp)).toArray, .int .i64 (q : Int), .int .i64 ((q : Int) + (P : Int))] W fun e w' => e = .returned (.tuple #[]) ∧ SH (fun k => k = g) W w' [.blk g t (mcells (swapM N q (q + P)) tail)] := fun W h => by
            have := CS.out N hMk W h q (q + P) hqr hqP
            push_cast at this
            exact this
          have hM1 := hMk.swap hqr hqP
          obtain ⟨N1, hN1⟩ : ∃ N1, N1 = swapM N q (q + P) := ⟨_, rfl⟩
          rw [← hN1] at cW hM1 hstep
          have hM2 := hM1.scale hqr k
          have hl1 := hM1.get hqr
          have hat := hM1.at_ hqr (show k < c by omega) tail
          have hsc : ∀ W, VA W g t (mcells N1 tail) → Calls Try.prog 77 #[.slice (some ⟨g, q * c, none⟩) c c, .int .u8 ((finv0 ((N1.getD q []).getD k 0)).toNat : Int)] W fun e w' => e = .returned (.tuple #[]) ∧ SH (fun k => k = g) W w' [.blk g t (mcells (scaleM N1 q k) tail)] := fun W h => by
            have := scale_any g (q * c) c t (mcells N1 tail) (N1.getD q []) (finv0 ((N1.getD q []).getD k 0)) W h (by rw [hl1]; exact hM1.rowAt hqr tail) (by omega) (by omega)
            rw [hl1, hM1.lay hqr tail _ (by rw [List.length_map]; exact hl1)] at this
            exact this
          have hinv : ∀ W, ∃ E, Calls Try.prog 56 #[.int .u8 (((N1.getD q []).getD k 0).toNat : Int)] W fun e w' => e = .returned (.tuple #[.int .u8 ((finv0 ((N1.getD q []).getD k 0)).toNat : Int), .int .i64 E]) ∧ W = w' := fun W => ⟨_, (FInverse_any _ W).mono fun e w' ⟨h1, h2⟩ => ⟨by rw [h1, finv0], h2.symm⟩⟩
          generalize (N1.getD q []).getD k 0 = x at hat hsc hinv
          generalize finv0 x = xf at hsc hinv
          obtain ⟨N2, hN2⟩ : ∃ N2, N2 = scaleM N1 q k := ⟨_, rfl⟩
          rw [← hN2] at hsc hM2 hstep
          have cQ := fun W => CR.out W q hqr
          have hadd := HA.out (q * c) k
          have HAT := Lib.hid hat
          have HST := Lib.hid hstep
          have HM2 := Lib.hid hM2
          have hkc2 : (k : Int) < (c : Int) := by omega
          clear hstep hp0 hpr k0 hat hN1 hN2 hM1 hM2 hl1 hMk CS CC
          have k0 : wr.cell? ⟨w.heap.size, 0, none⟩ = some (.int .i64 (r : Int)) := (HS.va 0 rfl).cell 0
          go_wp2_with (first
            | ((with_reducible refine gLoad ?_); refine wLoad mxT ((r : Int), (c : Int), some ⟨g, 0, none⟩, n, cp) HS 0 rfl rfl _ rfl rfl rfl ?_)
            | ((with_reducible refine gLoad ?_); refine wLoad mxT ((r : Int), (c : Int), some ⟨g, 0, none⟩, n, cp) H5 0 rfl rfl _ rfl rfl rfl ?_)
            | ((with_reducible refine gLoad ?_); refine wLoad mxT ((r : Int), (c : Int), some ⟨g, 0, none⟩, n, cp) H6 0 rfl rfl _ rfl rfl rfl ?_)
            | (go_at_call 66; (with_reducible refine cX.mono ?_); rintro e w5 ⟨A5, c5, rfl, hc5, ho, hb⟩; obtain ⟨A6, hk6, hr6⟩ := HCUT.out _ _ _ hc5 ho.reads; have H5 := HS.step hb; clear HS hb ho cX k0)
            | (go_at_call 74; (with_reducible refine (cI _ _ hr6).mono ?_); rintro e w6 ⟨rfl, rfl⟩)
            | (go_at_call 76; (with_reducible refine (cW _ (H5.va 1 rfl)).mono ?_); rintro e w7 ⟨rfl, k7⟩; have H6 := H5.via 1 rfl k7; clear H5 k7 hr6 hk6)
            | (go_at_call 51; (with_reducible refine (cQ _).mono ?_); rintro e w8 ⟨rfl, hb⟩; have H7 := H6.step hb; clear H6 hb; have hcl : w8.cell? ⟨g, q * c + k, none⟩ = some (.int .u8 (x.toNat : Int)) := ((H7.va 1 rfl).cell _).trans HAT.out)
            | (go_at_call 56; obtain ⟨E, hE⟩ := hinv w8; (with_reducible refine hE.mono ?_); rintro e w9 ⟨rfl, rfl⟩)
            | (go_at_call 77; (with_reducible refine (hsc _ (H7.va 1 rfl)).mono ?_); rintro e w10 ⟨rfl, k10⟩; have H8 := H7.via 1 rfl k10; clear H7 k10 hcl; have k0 : w10.cell? ⟨w.heap.size, 0, none⟩ = some (.int .i64 (r : Int)) := (H8.va 0 rfl).cell 0))
          clear k0
          go_loopw [53] (fun v53 wr => ∃ i : Nat, v53 = .int .i64 (i : Int) ∧ i ≤ r ∧ SH (fun k => k = g) w wr [.blk w.heap.size 32 (mxC ((r : Int), (c : Int), some ⟨g, 0, none⟩, n, cp)), .blk g t (mcells (elimK N2 q k i) tail)]) (fun v _ => r - (intOf v).toNat)
          case atStart => exact ⟨0, rfl, by omega, H8⟩
          case round =>
            obtain ⟨i, rfl, hi, HE⟩ := hrel
            clear H8
            by_cases hir : i < r
            · have hii : (i : Int) < (r : Int) := by omega
              have hE := HM2.out.elim hqr k i hi
              have hek : elimK N2 q k (i + 1) = _ := elimK.eq_2 N2 q k i
              by_cases hiq : i = q
              · have hiqb : ((i : Int) != (q : Int)) = false := by simp [hiq]
                have hiqc : ((i : Int) == (q : Int)) = true := by simp [hiq]
                rw [if_pos hiq] at hek
                have HEK := Lib.hid hek
                clear hek hiq hE
                go_wp2
                go_roundw
                case rel => first | exact ⟨i + 1, by go_num, by omega, by rw [HEK.out]; exact HE⟩ | exact ⟨_, ⟨i + 1, by go_num, by omega, by rw [HEK.out]; exact HE⟩, rfl⟩
                case measure => simp [intOf] <;> omega
              · have hiqb : ((i : Int) != (q : Int)) = true := by simp; omega
                have hiqc : ((i : Int) == (q : Int)) = false := by simp; omega
                rw [if_neg hiq] at hek
                have hli := hE.get hir
                have hlq := hE.get hqr
                have hat := hE.at_ hir (show k < c by omega) tail
                have hdis : i * c + c ≤ q * c ∨ q * c + c ≤ i * c := by
                  rcases Nat.lt_or_ge i q with h | h
                  · left; have := Nat.mul_le_mul_right c (show i + 1 ≤ q from h); rw [Nat.add_mul, Nat.one_mul] at this; exact this
                  · right; have := Nat.mul_le_mul_right c (show q + 1 ≤ i by omega); rw [Nat.add_mul, Nat.one_mul] at this; exact this
                have cA : ∀ W, VA W g t (mcells (elimK N2 q k i) tail) → Calls Try.prog 78 #[.slice (some ⟨g, i * c, none⟩) c c, .slice (some ⟨g, q * c, none⟩) c c, .int .u8 ((((elimK N2 q k i).getD i []).getD k 0).toNat : Int)] W fun e w' => e = .returned (.tuple #[]) ∧ SH (fun k => k = g) W w' [.blk g t (mcells (elimK N2 q k (i + 1)) tail)] := fun W h => by
                  have := add_any g (i * c) (q * c) c c t (mcells (elimK N2 q k i) tail) ((elimK N2 q k i).getD i []) ((elimK N2 q k i).getD q []) (((elimK N2 q k i).getD i []).getD k 0) W h (by omega) (by rw [hli]; exact hE.rowAt hir tail) (by rw [hlq]; exact hE.rowAt hqr tail) (by omega) (by omega) (by rw [hlq]; exact hdis)
                  rw [hlq, hE.lay hir tail _ (by rw [List.length_zipWith, hli, hlq]; exact Nat.min_self _), ← hek] at this
                  exact this
                have cI2 := fun W => CR.out W i hir
                have hadd2 := HA.out (i * c) k
                obtain ⟨N4, hN4⟩ : ∃ N4, N4 = elimK N2 q k (i + 1) := ⟨_, rfl⟩
                rw [← hN4] at cA
                have HN4 := Lib.hid hN4
                generalize ((elimK N2 q k i).getD i []).getD k 0 = z at cA hat
                have H := HE.drew
                have HS0 : VA wr.drew w.heap.size 32 (mxC ((r : Int), (c : Int), some ⟨g, 0, none⟩, n, cp)) ∧ wr.drew.cell? ⟨g, i * c + k, none⟩ = some (.int .u8 (z.toNat : Int)) := ⟨H.va 0 rfl, ((H.va 1 rfl).cell _).trans hat⟩
                have HAT2 := Lib.hid hat
                clear hat hek hN4 hE hli hlq hdis HE hiq
                go_wp2
                refine startL (fun w' => VA w' w.heap.size 32 (mxC ((r : Int), (c : Int), some ⟨g, 0, none⟩, n, cp)) ∧ w'.cell? ⟨g, i * c + k, none⟩ = some (.int .u8 (z.toNat : Int))) (fun i => i == 10) (by kernel_rfl) ?_
                refine takeL 0 HS0 rfl (by kernel_rfl) (by kernel_rfl) (by kernel_rfl) (by kernel_rfl) (by kernel_rfl) (fun _ _ _ h => h) rfl (v := ?_) ?_ ?_
                rotate_left
                · intro w' hw'; refine Eq.trans (exec_load 32 _ rfl w.heap.size 0 rfl (mxT.enc ((r : Int), (c : Int), some ⟨g, 0, none⟩, n, cp)) _ (VA.all hw'.1) Try.underlying32 rfl (mxT.sz _)) ?_; with_reducible rfl
                (try simp only [Act.put, List.setIfInBounds_toArray, List.set_cons_zero, List.set_cons_succ])
                refine takeP 1 rfl (by kernel_rfl) (by kernel_rfl) (by kernel_rfl) (by kernel_rfl) (fun _ _ _ h => h) rfl (v := ?_) ?_ ?_
                rotate_left
                · intro w'; go_simp; (try with_reducible rfl)
                (try simp only [Act.put, List.setIfInBounds_toArray, List.set_cons_zero, List.set_cons_succ])
                refine takeP 3 rfl (by kernel_rfl) (by kernel_rfl) (by kernel_rfl) (by kernel_rfl) (fun _ _ _ h => h) rfl (v := ?_) ?_ ?_
                rotate_left
                · intro w'; go_simp; (try with_reducible rfl)
                (try simp only [Act.put, List.setIfInBounds_toArray, List.set_cons_zero, List.set_cons_succ])
                refine takeL 4 HS0 rfl (by kernel_rfl) (by kernel_rfl) (by kernel_rfl) (by kernel_rfl) (by kernel_rfl) (fun _ _ _ h => h) rfl (v := ?_) ?_ ?_
                rotate_left
                · intro w' hw'; refine Eq.trans (exec_load 32 _ rfl w.heap.size 0 rfl (mxT.enc ((r : Int), (c : Int), some ⟨g, 0, none⟩, n, cp)) _ (VA.all hw'.1) Try.underlying32 rfl (mxT.sz _)) ?_; with_reducible rfl
                (try simp only [Act.put, List.setIfInBounds_toArray, List.set_cons_zero, List.set_cons_succ])
                refine takeP 5 rfl (by kernel_rfl) (by kernel_rfl) (by kernel_rfl) (by kernel_rfl) (fun _ _ _ h => h) rfl (v := ?_) ?_ ?_
                rotate_left
                · intro w'; go_simp; (try with_reducible rfl)
                (try simp only [Act.put, List.setIfInBounds_toArray, List.set_cons_zero, List.set_cons_succ])
                refine takeP 7 rfl (by kernel_rfl) (by kernel_rfl) (by kernel_rfl) (by kernel_rfl) (fun _ _ _ h => h) rfl (v := ?_) ?_ ?_
                rotate_left
                · intro w'; go_simp; (try with_reducible rfl)
                (try simp only [Act.put, List.setIfInBounds_toArray, List.set_cons_zero, List.set_cons_succ])
                refine stepL 2 rfl (by kernel_rfl) rfl (fun K hK => ?_)
                (go_simp; (with_reducible refine (cI2 _).mono ?_); rintro e w5 ⟨rfl, hb⟩; replace H := H.step hb; have HS1 : VA w5 w.heap.size 32 (mxC ((r : Int), (c : Int), some ⟨g, 0, none⟩, n, cp)) ∧ w5.cell? ⟨g, i * c + k, none⟩ = some (.int .u8 (z.toNat : Int)) := ⟨H.va 0 rfl, ((H.va 1 rfl).cell _).trans HAT2.out⟩; refine hK.out _ _ (fun _ _ => HS1) ?_; clear K hK HS0 hb; have HS0 := HS1; clear HS1)
                (try simp only [Act.put, List.setIfInBounds_toArray, List.set_cons_zero, List.set_cons_succ])
                refine stepL 6 rfl (by kernel_rfl) rfl (fun K hK => ?_)
                (go_simp; (with_reducible refine (cI2 _).mono ?_); rintro e w6 ⟨rfl, hb⟩; replace H := H.step hb; have HS1 : VA w6 w.heap.size 32 (mxC ((r : Int), (c : Int), some ⟨g, 0, none⟩, n, cp)) ∧ w6.cell? ⟨g, i * c + k, none⟩ = some (.int .u8 (z.toNat : Int)) := ⟨H.va 0 rfl, ((H.va 1 rfl).cell _).trans HAT2.out⟩; refine hK.out _ _ (fun _ _ => HS1) ?_; clear K hK HS0 hb; have HS0 := HS1; clear HS1)
                (try simp only [Act.put, List.setIfInBounds_toArray, List.set_cons_zero, List.set_cons_succ])
                refine takeP 8 rfl (by kernel_rfl) (by kernel_rfl) (by kernel_rfl) (by kernel_rfl) (fun _ _ _ h => h) rfl (v := ?_) ?_ ?_
                rotate_left
                · intro w'; go_simp; (try with_reducible rfl)
                (try simp only [Act.put, List.setIfInBounds_toArray, List.set_cons_zero, List.set_cons_succ])
                refine takeL 9 HS0 rfl (by kernel_rfl) (by kernel_rfl) (by kernel_rfl) (by kernel_rfl) (by kernel_rfl) (fun _ _ _ h => h) rfl (v := ?_) ?_ ?_
                rotate_left
                · intro w' hw'; have kz := hw'.2; clear hw'; go_simp; (try with_reducible rfl)
                (try simp only [Act.put, List.setIfInBounds_toArray, List.set_cons_zero, List.set_cons_succ])
                refine stepL 10 rfl (by kernel_rfl) rfl (fun K hK => ?_)
                (go_simp; (with_reducible refine (cA _ (H.va 1 rfl)).mono ?_); rintro e w7 ⟨rfl, k7⟩; have H9 := H.via 1 rfl k7; refine hK.out _ _ (fun h => by cases h) ?_; clear K hK HS0 k7)
                (try simp only [Act.put, List.setIfInBounds_toArray, List.set_cons_zero, List.set_cons_succ])
                refine doneL (by kernel_rfl) ?_
                go_wp2
                go_roundw
                case rel => first | exact ⟨i + 1, by go_num, by omega, by rw [← HN4.out]; exact H9⟩ | exact ⟨_, ⟨i + 1, by go_num, by omega, by rw [← HN4.out]; exact H9⟩, rfl⟩
                case measure => simp [intOf] <;> omega
            · obtain rfl : i = r := by omega
              go_wp2
              go_roundw
              case rel => first | exact ⟨k + 1, by go_num, by omega, by rw [HST.out]; go_num, by rw [HST.out]; exact HE⟩ | exact ⟨_, _, ⟨k + 1, by go_num, by omega, by rw [HST.out]; go_num, by rw [HST.out]; exact HE⟩, rfl, rfl⟩
              case measure => simp [intOf] <;> omega
      · have hqi : decide ((q : Int) < (r : Int)) = false := by simp; omega
        have hst := hstop hqr (cols - k)
        rw [Nat.add_sub_cancel' hk] at hst
        have HST := Lib.hid hst
        clear hst hstep hstop hs
        go_wp2
        go_ret
        exact ⟨by rw [HST.out]; rfl, by rw [HST.out]; exact HS.tail⟩
    · obtain rfl : k = cols := by omega
      have hki : decide ((k : Int) < (k : Int)) = false := by simp
      go_wp2
      go_ret
      exact ⟨rfl, HS.tail⟩
end Go.Proofs.Ytfnneneaalaagaa
