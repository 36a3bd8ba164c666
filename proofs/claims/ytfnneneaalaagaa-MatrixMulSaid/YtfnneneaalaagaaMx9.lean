/- Layer 26: the rank. -/
import Derived.Test.YtfnneneaalaagaaMx8
import Derived.Test.YtfnneneaalaagaaNum
namespace Go.Proofs.Ytfnneneaalaagaa
open Go.RowKit
set_option linter.unusedSimpArgs false
set_option linter.unusedVariables false

/-- A row of bytes, as the block that it begins. -/
theorem SH.toBlk {F : Nat → Prop} {w0 w : World} {L : List Own} (h : SH F w0 w L) (i : Nat) {v : Value} {xs : List UInt8} (hi : L[i]? = some (.row B8 v xs)) (hp : 0 < xs.length) :
    ∃ g cap tail, v = .slice (some ⟨g, 0, none⟩) xs.length cap ∧ xs.length ≤ cap ∧ SH F w0 w (L.set i (.blk g 5 (xs.map cb ++ tail))) := by
  have ho := h.or0 i hi
  rcases ho.2 with ⟨h1, h2⟩ | ⟨g, cap, cur, rfl, _, hg, h1, h2, h3, h4⟩
  · omega
  · have e : cur.toList = xs.map cb ++ cur.toList.drop xs.length := by
      rw [U8_all] at h4
      have h5 : cur.toList.take xs.length = xs.map cb := by simpa [U8] using h4
      rw [← h5, List.take_append_drop]
    refine ⟨g, cap, cur.toList.drop xs.length, rfl, h1, h.change i hi (Chg.refl _ w) _ ?_ (fun b hb => .inl ?_)⟩
    · show w.heap[g]? = _
      rw [hg, ← e]; rfl
    · show Value.ownBlock _ = some b
      rw [show b = g from hb]; rfl
def rowsL (l : List UInt8) (r c : Nat) : List (List UInt8) := (List.range r).map fun i => (l.drop (i * c)).take c
theorem rowsL_flat (l : List UInt8) (c : Nat) : ∀ r, (rowsL l r c).flatten = l.take (r * c)
  | 0 => by simp [rowsL]
  | r + 1 => by
    have ih := rowsL_flat l c r
    rw [rowsL, List.range_succ, List.map_append, List.flatten_append]
    rw [rowsL] at ih
    rw [ih, Nat.add_mul, Nat.one_mul, List.take_add]
    simp
theorem rowsL_mat (l : List UInt8) (r c : Nat) (h : l.length = r * c) : Mat (rowsL l r c) r c ∧ (rowsL l r c).flatten = l := by
  refine ⟨⟨by simp [rowsL], fun x hx => ?_⟩, by rw [rowsL_flat, List.take_of_length_le (by omega)]⟩
  simp only [rowsL, List.mem_map, List.mem_range] at hx
  obtain ⟨i, hi, rfl⟩ := hx
  have := row_in (c := c) hi
  rw [Nat.add_mul, Nat.one_mul] at this
  rw [List.length_take, List.length_drop]
  omega
def rankI (r c : Int) (l : List UInt8) : Nat := if mayB r c l.length = true then (clr r.toNat c.toNat (rowsL l r.toNat c.toNat) c.toNat).2 else 0
theorem mayB_ok {r c : Int} {n : Nat} (h : mayB r c n = true) : ∃ a b : Nat, r = a ∧ c = b ∧ 1 ≤ a ∧ a ≤ 32 ∧ 1 ≤ b ∧ b ≤ 32 ∧ n = a * b := by
  unfold mayB at h
  split at h
  · rename_i h1
    split at h
    · rename_i h2
      have h3 := (sizeB_iff r).1 h1
      have h4 := (sizeB_iff c).1 h2
      obtain ⟨a, rfl⟩ : ∃ a : Nat, r = a := ⟨r.toNat, by omega⟩
      obtain ⟨b, rfl⟩ : ∃ b : Nat, c = b := ⟨c.toNat, by omega⟩
      refine ⟨a, b, rfl, rfl, by omega, by omega, by omega, by omega, ?_⟩
      have := eq_of_beq h
      exact_mod_cast this
    · cases h
  · cases h
set_option maxHeartbeats 1600000 in
set_option maxRecDepth 100000 in
theorem Rank_any (r c : Int) (A : Option Addr) (cp : Nat) (l : List UInt8) (w : World) (hv : RB w (.slice A l.length cp) l) (hl : l.length ≤ 100000) :
    Calls Try.prog 31 #[.agg (mxT.enc (r, c, A, l.length, cp)).toArray] w fun e w' => e = .returned (.int .i64 (rankI r c l : Int)) ∧ Below w.heap.size w w' := by
  have H0 := SH.start Nil w
  have cM := fun W => MMay_any r c A l.length cp W
  cases hm : mayB r c l.length with
  | false =>
    have hr : rankI r c l = 0 := by rw [rankI, hm]; rfl
    rw [hr]
    rw [hm] at cM
    have CM := Lib.hid cM
    clear cM hm hr hv
    go_enter Try.func31, Try.ntmps31
    go_wp2_with (first
      | ((with_reducible refine gBox ?_); refine wBox mxT (r, c, A, l.length, cp) H0 _ rfl rfl rfl ?_; clear H0; intro w1 H1)
      | ((with_reducible refine gLoad ?_); refine wLoad mxT (r, c, A, l.length, cp) H1 0 rfl rfl _ rfl rfl rfl ?_)
      | (go_at_call 37; (with_reducible refine (CM.out _).mono ?_); rintro e w2 ⟨rfl, hb⟩; have H2 := H1.step hb; clear H1 hb))
    go_ret
    exact ⟨rfl, H2.below⟩
  | true =>
    obtain ⟨a, b, rfl, rfl, ha, ha2, hb, hb2, hn⟩ := mayB_ok hm
    obtain ⟨hM, hF⟩ := rowsL_mat l a b hn
    have hr : rankI a b l = (clr a b (rowsL l a b) b).2 := by rw [rankI, hm]; rfl
    rw [hm] at cM
    have cC := Clone_any (.slice A l.length cp) l
    have hp : 0 < l.length := by rw [hn]; exact Nat.mul_pos (by omega) (by omega)
    have cL := fun (W : World) (g cap : Nat) (tail : List Value) (h : VA W g 5 (mcells (rowsL l a b) tail)) (hc : a * b ≤ cap) => clear_any (rowsL l a b) tail a b b g cap 5 W hM h (by omega) (by omega) (by omega) (Nat.le_refl _) hc
    rw [← hn] at cL
    have HR := Lib.hid hr
    have CM := Lib.hid cM
    have CC := Lib.hid cC
    have CL := Lib.hid cL
    have HF := Lib.hid hF
    clear cM cC cL hr hm hn hM hF
    go_enter Try.func31, Try.ntmps31
    go_wp2_with (first
      | ((with_reducible refine gBox ?_); refine wBox mxT ((a : Int), (b : Int), A, l.length, cp) H0 _ rfl rfl rfl ?_; clear H0; intro w1 H1)
      | ((with_reducible refine gLoad ?_); refine wLoad mxT ((a : Int), (b : Int), A, l.length, cp) H1 0 rfl rfl _ rfl rfl rfl ?_)
      | (go_at_call 37; (with_reducible refine (CM.out _).mono ?_); rintro e w2 ⟨rfl, hb⟩; have H2 := H1.step hb; clear H1 hb; have k2 : w2.cell? ⟨w.heap.size, 2, none⟩ = some (.slice A l.length cp) := (H2.va 0 rfl).cell 2)
      | (go_at_call 46; (with_reducible refine (CC.out _ (hv.below H2.below) (by omega)).mono ?_); rintro e w3 ⟨v3, rfl, ho, hb⟩; have H3 := H2.pushRow hb ho; clear H2 hb ho k2; obtain ⟨g, cap, tail, rfl, hcap, H4⟩ := H3.toBlk 0 rfl hp; clear H3)
      | ((with_reducible refine gStore ?_); refine wCell 22 (.slice (some ⟨g, 0, none⟩) l.length cap) (by kernel_rfl) rfl rfl H4 1 (off := 2) rfl (Nat.le_refl 3) (mxC ((a : Int), (b : Int), some ⟨g, 0, none⟩, l.length, cap)) rfl _ _ rfl rfl rfl rfl ?_; clear H4; intro w4 H5; have k1 : w4.cell? ⟨w.heap.size, 1, none⟩ = some (.int .i64 (b : Int)) := (H5.va 1 rfl).cell 1)
      | ((with_reducible refine gLoad ?_); refine wLoad mxT ((a : Int), (b : Int), some ⟨g, 0, none⟩, l.length, cap) H5 1 rfl rfl _ rfl rfl rfl ?_)
      | (go_at_call 60; (with_reducible refine (CL.out _ g cap tail (by rw [mcells, HF.out]; exact H5.va 0 rfl) hcap).mono ?_); rintro e w5 ⟨rfl, k5⟩; have H6 := H5.via 0 rfl k5; clear H5 k5 k1))
    go_ret
    exact ⟨by rw [HR.out]; rfl, H6.below⟩
end Go.Proofs.Ytfnneneaalaagaa
