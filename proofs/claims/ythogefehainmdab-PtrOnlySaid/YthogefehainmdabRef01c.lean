/- The reference's whole number and string, taken. -/
import Derived.Test.YthogefehainmdabRef01b
namespace Go.Proofs.Ythogefehainmdab
open Go.RowKit

theorem ret3u {k : IntKind} {a b : Int} {x y : Value} (h : a = b) : Ending.returned (.tuple #[.int k a, x, y]) = .returned (.tuple #[.int k b, x, y]) := by rw [h]

set_option maxHeartbeats 400000 in
theorem rTake32_any (v : Value) (xs : List UInt8) (w : World) (hv : RB w v xs) :
    Calls Try.prog 24 #[v] w fun e w' => ∃ v', e = .returned (.tuple #[.int .u32 (if 4 ≤ xs.length then (get32 xs : Int) else 0), v', .int .i64 (if 4 ≤ xs.length then 0 else 2)]) ∧
      RB w' v' (if 4 ≤ xs.length then xs.drop 4 else []) ∧ Below w.heap.size w w' := by
  by_cases h4 : 4 ≤ xs.length
  · rw [if_pos h4, if_pos h4, if_pos h4]
    have h4' : (4 : Int) ≤ xs.length := by omega
    have hn : ¬ ((4 : Int) < 0) := by decide
    have hc := rTakeBytes_any v xs 4 w w hv (Below.refl _ _)
    simp only [hn, h4', ↓reduceIte] at hc
    clear hn
    go_enter Try.func24, Try.ntmps24
    go_wp2_with ((go_at_call 31; refine hc.mono ?_; clear hc; rintro e w1 ⟨v1, v2, rfl, ho1, ho2, hb1⟩; replace ho1 := ho1 _ hb1; replace ho2 := ho2 _ hb1))
    have hlen4 : (xs.take (4 : Int).toNat).length = 4 := by simp; omega
    obtain ⟨A1, c1, rfl, hc1, _, hcell1⟩ := ho1
    obtain ⟨ad, rfl, hcc⟩ := hcell1 (by omega)
    have hk : ∀ j (h : j < xs.length), j < 4 → w1.cell? (ad.add j) = some (.int .u8 (((xs.getD j 0).toNat : Nat) : Int)) := fun j h h' => by
      refine hcc j _ ?_
      rw [U8_all, List.getElem?_map, List.getElem?_take, if_pos (by simpa using h'), List.getElem?_eq_getElem h, List.getD_eq_getElem?_getD, List.getElem?_eq_getElem h]
      rfl
    have k0 := hk 0 (by omega) (by omega)
    rw [show ad.add 0 = ad from by simp [Addr.add]] at k0
    have k1 := hk 1 (by omega) (by omega)
    have k2 := hk 2 (by omega) (by omega)
    have k3 := hk 3 (by omega) (by omega)
    rw [show ad.add 1 = ⟨ad.block, ad.off + 1, none⟩ from rfl] at k1
    rw [show ad.add 2 = ⟨ad.block, ad.off + 2, none⟩ from rfl] at k2
    rw [show ad.add 3 = ⟨ad.block, ad.off + 3, none⟩ from rfl] at k3
    clear hk hcc hcell1
    rw [hlen4]
    generalize hb0 : xs.getD 0 0 = b0 at k0
    generalize hb1' : xs.getD 1 0 = b1 at k1
    generalize hb2 : xs.getD 2 0 = b2 at k2
    generalize hb3 : xs.getD 3 0 = b3 at k3
    have hg : get32 xs = b0.toNat + b1.toNat * 256 + b2.toNat * 65536 + b3.toNat * 16777216 := by unfold get32; rw [hb0, hb1', hb2, hb3]
    have HG := Lib.hid hg
    clear hb0 hb1' hb2 hb3 hg
    go_quiet (fail)
    go_wp2
    go_ret3
    have l0 := b0.toNat_lt
    have l1 := b1.toNat_lt
    have l2 := b2.toNat_lt
    have l3 := b3.toNat_lt
    exact ⟨_, by rw [HG.out]; exact ret3u (by omega), ho2.below (pw_below_drewN (Below.refl _ _) _), pw_below_drewN hb1 _⟩
  · rw [if_neg h4, if_neg h4, if_neg h4]
    have h4' : ¬ (4 : Int) ≤ xs.length := by omega
    have hn : ¬ ((4 : Int) < 0) := by decide
    have hc := rTakeBytes_any v xs 4 w w hv (Below.refl _ _)
    simp only [hn, h4', ↓reduceIte] at hc
    clear hn h4'
    go_enter Try.func24, Try.ntmps24
    go_wp2_with ((go_at_call 31; refine hc.mono ?_; clear hc; rintro e w1 ⟨v1, v2, rfl, ho1, ho2, hb1⟩))
    go_ret3
    exact ⟨_, rfl, RR.nil _, hb1⟩

end Go.Proofs.Ythogefehainmdab
