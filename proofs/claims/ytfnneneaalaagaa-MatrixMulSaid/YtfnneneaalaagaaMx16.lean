/- Layer 26: what Pick refuses. -/
import Derived.Test.YtfnneneaalaagaaMx15
namespace Go.Proofs.Ytfnneneaalaagaa
open Go.RowKit
set_option linter.unusedSimpArgs false
set_option linter.unusedVariables false

set_option maxHeartbeats 1600000 in
set_option maxRecDepth 100000 in
theorem Pick_bad (r c : Int) (n : Nat) (A0 : Option Addr) (cp0 : Nat) (vr : Value) (rs : List Int) (w : World) (hvr : RI w vr rs)
    (hbad : mayB r c n = false ∨ (mayB r c n = true ∧ sizeB (rs.length : Int) = false) ∨ (mayB r c n = true ∧ sizeB (rs.length : Int) = true ∧ rs.any (badRow r) = true)) :
    Calls Try.prog 21 #[.agg (mxT.enc (r, c, A0, n, cp0)).toArray, vr] w fun e w' => e = .returned (.tuple #[.agg (mxT.enc mxT.zero).toArray, .int .i64 1]) ∧ Below w.heap.size w w' := by
  have H0 := SH.start Nil w
  have cM : ∀ W, Calls Try.prog 37 #[.agg (mxT.enc (r, c, A0, n, cp0)).toArray] W fun e w' => e = .returned (.bool (mayB r c n)) ∧ Below W.heap.size W w' := fun W => MMay_any _ _ _ _ _ W
  have cS : ∀ W, Calls Try.prog 49 #[.int .i64 (rs.length : Int)] W fun e w' => e = .returned (.bool (sizeB (rs.length : Int))) ∧ W = w' := fun W => isSize_any _ W
  have cC : sizeB (rs.length : Int) = true → ∀ W b, W.cell? ⟨b, 0, none⟩ = some (.int .i64 r) → RI W vr rs → Calls Try.prog 50 #[vr, fnV 48 #[.pointer (some ⟨b, 0, none⟩)]] W fun e w' => e = .returned (.bool (rs.any (badRow r))) ∧ W = w' := fun hs W b hb hW => contains_any _ b vr rs W hb hW (by have := (sizeB_iff _).1 hs; omega)
  obtain ⟨Ar, cr, hvre, -⟩ := id hvr
  have HRI := Lib.hid hvr
  have HC := Lib.hid cC
  clear cC hvr
  subst hvre
  rcases hbad with h1 | ⟨h1, h2⟩ | ⟨h1, h2, h3⟩
  · rw [h1] at cM
    clear h1
    go_enter Try.func21, Try.ntmps21
    go_wp2_with (first
      | ((with_reducible refine gBox ?_); refine wBox mxT (r, c, A0, n, cp0) H0 _ rfl rfl rfl ?_; clear H0; intro w1 H1)
      | ((with_reducible refine gAlloc ?_); refine wAlloc mxT H1 rfl rfl ?_; clear H1; intro w2 H2)
      | ((with_reducible refine gLoad ?_); refine wLoad mxT (r, c, A0, n, cp0) H2 1 rfl rfl _ rfl rfl rfl ?_)
      | (go_at_call 37; (with_reducible refine (cM _).mono ?_); rintro e w3 ⟨rfl, hb⟩; have H3 := H2.step hb; clear H2 hb)
      | ((with_reducible refine gBuild ?_); refine wZero mxT rfl rfl ?_)
      | ((with_reducible refine gStore ?_); refine wStore mxT mxT.zero H3 0 rfl rfl _ _ rfl rfl rfl rfl ?_; clear H3; intro w5 H))
    refine bodyPost_ret (results_cell_tmp rfl _ (H.va 0 rfl) rfl _ Try.underlying32 rfl (mxT.sz _)) rfl ?_
    exact ⟨rfl, H.below⟩
  · rw [h1] at cM
    rw [h2] at cS
    clear h1 h2
    go_enter Try.func21, Try.ntmps21
    go_wp2_with (first
      | ((with_reducible refine gBox ?_); refine wBox mxT (r, c, A0, n, cp0) H0 _ rfl rfl rfl ?_; clear H0; intro w1 H1)
      | ((with_reducible refine gAlloc ?_); refine wAlloc mxT H1 rfl rfl ?_; clear H1; intro w2 H2)
      | ((with_reducible refine gLoad ?_); refine wLoad mxT (r, c, A0, n, cp0) H2 1 rfl rfl _ rfl rfl rfl ?_)
      | (go_at_call 37; (with_reducible refine (cM _).mono ?_); rintro e w3 ⟨rfl, hb⟩; have H3 := H2.step hb; clear H2 hb)
      | (go_at_call 49; (with_reducible refine (cS _).mono ?_); rintro e w5 ⟨rfl, rfl⟩)
      | ((with_reducible refine gBuild ?_); refine wZero mxT rfl rfl ?_)
      | ((with_reducible refine gStore ?_); refine wStore mxT mxT.zero H3 0 rfl rfl _ _ rfl rfl rfl rfl ?_; clear H3; intro w5 H))
    refine bodyPost_ret (results_cell_tmp rfl _ (H.va 0 rfl) rfl _ Try.underlying32 rfl (mxT.sz _)) rfl ?_
    exact ⟨rfl, H.below⟩
  · have HC2 := Lib.hid (HC.out h2)
    rw [h3] at HC2
    rw [h1] at cM
    rw [h2] at cS
    clear h1 h2 h3 HC
    go_enter Try.func21, Try.ntmps21
    go_wp2_with (first
      | ((with_reducible refine gBox ?_); refine wBox mxT (r, c, A0, n, cp0) H0 _ rfl rfl rfl ?_; clear H0; intro w1 H1)
      | ((with_reducible refine gAlloc ?_); refine wAlloc mxT H1 rfl rfl ?_; clear H1; intro w2 H2)
      | ((with_reducible refine gLoad ?_); refine wLoad mxT (r, c, A0, n, cp0) H2 1 rfl rfl _ rfl rfl rfl ?_)
      | (go_at_call 37; (with_reducible refine (cM _).mono ?_); rintro e w3 ⟨rfl, hb⟩; have H3 := H2.step hb; clear H2 hb; have k0 : w3.cell? ⟨w.heap.size, 0, none⟩ = some (.int .i64 r) := (H3.va 1 rfl).cell 0)
      | (go_at_call 49; (with_reducible refine (cS _).mono ?_); rintro e w5 ⟨rfl, rfl⟩)
      | (go_at_call 50; (with_reducible refine (HC2.out _ _ k0 (HRI.out.below H3.below)).mono ?_); rintro e w5 ⟨rfl, rfl⟩)
      | ((with_reducible refine gBuild ?_); refine wZero mxT rfl rfl ?_)
      | ((with_reducible refine gStore ?_); refine wStore mxT mxT.zero H3 0 rfl rfl _ _ rfl rfl rfl rfl ?_; clear H3; intro w5 H))
    refine bodyPost_ret (results_cell_tmp rfl _ (H.va 0 rfl) rfl _ Try.underlying32 rfl (mxT.sz _)) rfl ?_
    exact ⟨rfl, H.below⟩
set_option maxHeartbeats 1600000 in
set_option maxRecDepth 100000 in
theorem rPick_bad (r c : Int) (n : Nat) (A0 : Option Addr) (cp0 : Nat) (vr : Value) (rs : List Int) (w : World) (hvr : RI w vr rs)
    (hbad : mayB r c n = false ∨ (mayB r c n = true ∧ sizeB (rs.length : Int) = false)) :
    Calls Try.prog 22 #[.agg (rxT.enc (r, c, A0, n, cp0)).toArray, vr] w fun e w' => e = .returned (.tuple #[.agg (rxT.enc rxT.zero).toArray, .int .i64 1]) ∧ Below w.heap.size w w' := by
  have H0 := SH.start Nil w
  have cM : ∀ W, Calls Try.prog 38 #[.agg (rxT.enc (r, c, A0, n, cp0)).toArray] W fun e w' => e = .returned (.bool (mayB r c n)) ∧ Below W.heap.size W w' := fun W => rMay_any _ _ _ _ _ W
  obtain ⟨Ar, cr, hvre, -⟩ := id hvr
  clear hvr
  subst hvre
  have hd : mayB r c n = false ∨ (mayB r c n = true ∧ decide ((rs.length : Int) < 1) = true) ∨ (mayB r c n = true ∧ decide ((rs.length : Int) < 1) = false ∧ decide ((32 : Int) < (rs.length : Int)) = true) := by
    rcases hbad with h | ⟨h, h2⟩
    · exact .inl h
    · right
      have h3 : ¬ (1 ≤ (rs.length : Int) ∧ (rs.length : Int) ≤ 32) := fun h4 => by rw [(sizeB_iff _).2 h4] at h2; cases h2
      simp only [h, true_and, decide_eq_true_eq, decide_eq_false_iff_not]
      omega
  clear hbad
  generalize (rs.length) = k at *
  rcases hd with h1 | ⟨h1, d1⟩ | ⟨h1, d1, d2⟩
  all_goals
    rw [h1] at cM
    clear h1
    go_enter Try.func22, Try.ntmps22
    go_wp2_with (first
      | ((with_reducible refine gBox ?_); refine wBox rxT (r, c, A0, n, cp0) H0 _ rfl rfl rfl ?_; clear H0; intro w1 H1)
      | ((with_reducible refine gAlloc ?_); refine wAlloc rxT H1 rfl rfl ?_; clear H1; intro w2 H2)
      | ((with_reducible refine gLoad ?_); refine wLoad rxT (r, c, A0, n, cp0) H2 1 rfl rfl _ rfl rfl rfl ?_)
      | (go_at_call 38; (with_reducible refine (cM _).mono ?_); rintro e w3 ⟨rfl, hb⟩; have H3 := H2.step hb; clear H2 hb)
      | ((with_reducible refine gBuild ?_); refine wZero rxT rfl rfl ?_)
      | ((with_reducible refine gStore ?_); refine wStore rxT rxT.zero H3 0 rfl rfl _ _ rfl rfl rfl rfl ?_; clear H3; intro w5 H))
    refine bodyPost_ret (results_cell_tmp rfl _ (H.va 0 rfl) rfl _ Try.underlying38 rfl (rxT.sz _)) rfl ?_
    exact ⟨rfl, H.below⟩
theorem Pick_main (l : List UInt8) (r c n : Nat) (A0 : Option Addr) (cp0 : Nat) (vr : Value) (rs : List Int) (w : World) (hr1 : 1 ≤ r) (hr2 : r ≤ 32) (hc1 : 1 ≤ c) (hc2 : c ≤ 32) (hn : n = r * c) (hl : l.length = n) (hv : RB w (.slice A0 n cp0) l) (hcp : n ≤ cp0)
    (hvr : RI w vr rs) (hs1 : 1 ≤ rs.length) (hs2 : rs.length ≤ 32) :
    Calls Try.prog 21 #[.agg (mxT.enc ((r : Int), (c : Int), A0, n, cp0)).toArray, vr] w fun e w' => PickPost mxT w l r c rs e w' := by
  cases hb : rs.any (badRow (r : Int)) with
  | false => exact (Pick_ok l r c n A0 cp0 vr rs w hr1 hr2 hc1 hc2 hn hl hv hcp hvr hs1 hs2 hb).mono fun e w' h => .inl ⟨hb, h⟩
  | true =>
    have hmay : mayB (r : Int) (c : Int) n = true := by
      rw [mayB, if_pos ((sizeB_iff _).2 (by omega)), if_pos ((sizeB_iff _).2 (by omega)), hn]
      exact beq_iff_eq.mpr (by push_cast; rfl)
    exact (Pick_bad r c n A0 cp0 vr rs w hvr (.inr (.inr ⟨hmay, (sizeB_iff _).2 (by omega), hb⟩))).mono fun e w' h => .inr ⟨hb, h⟩
end Go.Proofs.Ytfnneneaalaagaa
