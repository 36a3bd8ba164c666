/- Layer 26: the program's product. -/
import Derived.Test.YtfnneneaalaagaaAuto
import Derived.Test.YtfnneneaalaagaaMx15
namespace Go.Proofs.Ytfnneneaalaagaa
open Go.RowKit
set_option linter.unusedSimpArgs false
set_option linter.unusedVariables false

def sumX : Nat → (Nat → UInt8) → UInt8
  | 0, _ => 0
  | n + 1, f => sumX n f ^^^ f n
theorem sumX_cons (n : Nat) (f : Nat → UInt8) : sumX (n + 1) f = f 0 ^^^ sumX n (fun k => f (k + 1)) := by
  induction n with
  | zero => simp [sumX]
  | succ n ih => rw [sumX, ih, UInt8.xor_assoc]; rfl
theorem dotL_map (n : Nat) : ∀ (f g : Nat → UInt8), dotL ((List.range n).map f) ((List.range n).map g) = sumX n (fun k => fmul (f k) (g k)) := by
  induction n with
  | zero => intro f g; rfl
  | succ n ih =>
    intro f g
    rw [List.range_succ_eq_map, List.map_cons, List.map_cons, dotL, sumX_cons, List.map_map, List.map_map, ih]
    rfl
theorem sumX_congr {n : Nat} {f g : Nat → UInt8} (h : ∀ k, k < n → f k = g k) : sumX n f = sumX n g := by
  induction n with
  | zero => rfl
  | succ n ih => rw [sumX, sumX, ih (fun k hk => h k (by omega)), h n (by omega)]
/-- An element of a product. -/
def mulE (la : List UInt8) (ca : Nat) (lb : List UInt8) (cb i j : Nat) : UInt8 := sumX ca fun k => fmul (la.getD (i * ca + k) 0) (lb.getD (k * cb + j) 0)
set_option maxHeartbeats 1600000 in
set_option maxRecDepth 100000 in
theorem Mul1_any (la lb : List UInt8) (ra c cb i j ba bb : Nat) (Aa Ab : Option Addr) (pa pb : Nat) (w : World)
    (RO : HOLD [.blk ba 32 (mxT.enc ((ra : Int), (c : Int), Aa, la.length, pa)), .blk bb 32 (mxT.enc ((c : Int), (cb : Int), Ab, lb.length, pb))] w)
    (ha : RB w (.slice Aa la.length pa) la) (hb : RB w (.slice Ab lb.length pb) lb) (hla : la.length = ra * c) (hlb : lb.length = c * cb) (hpa : la.length ≤ pa) (hpb : lb.length ≤ pb) (hra : ra ≤ 64) (hc0 : 0 < c) (hc : c ≤ 64) (hcb : cb ≤ 64) (hi : i < ra) (hj : j < cb) :
    Calls Try.prog 64 #[.int .i64 (i : Int), .int .i64 (j : Int), .pointer (some ⟨ba, 0, none⟩), .pointer (some ⟨bb, 0, none⟩)] w fun e w' => e = .returned (.int .u8 ((mulE la c lb cb i j).toNat : Int)) ∧ Below w.heap.size w w' := by
  have H := SH.start Nil w
  have hn : la.length ≤ 64 * 64 := by rw [hla]; exact Nat.mul_le_mul hra hc
  have hn2 : lb.length ≤ 64 * 64 := by rw [hlb]; exact Nat.mul_le_mul hc hcb
  have hin := row_in (c := c) hi
  rw [← hla] at hin
  have hpos : 0 < la.length := by
    have : 1 * c ≤ (i + 1) * c := Nat.mul_le_mul_right c (by omega)
    omega
  have hpos2 : 0 < lb.length := by rw [hlb]; exact Nat.mul_pos hc0 (by omega)
  obtain ⟨ad, rfl, -⟩ := ha.byte hpos
  obtain ⟨ad2, rfl, -⟩ := hb.byte hpos2
  have cR := fun W => row_any (ra : Int) c i ad la.length pa W hc0 (by omega) hpa (by omega)
  have cC := fun W h => column_any lb c cb j ad2 pb W (by rw [← hlb]; exact h) hlb hc hcb hj (by omega)
  rw [← hlb] at cC
  have hrow := ha.rowq hin hc0
  have hdot : dotV (rowq la c i) (colL lb c cb j) = mulE la c lb cb i j := by
    rw [dotV, if_pos (by rw [rowq_len hin, colL_len]), rowq_map hin, colL, dotL_map]; rfl
  have hE : dotE (rowq la c i) (colL lb c cb j) = 0 := by rw [dotE, if_pos (by rw [rowq_len hin, colL_len])]
  have cD := fun W v h1 h2 => FDot_any (.slice (some (ad.add (i * c))) c c) v (rowq la c i) (colL lb c cb j) W h1 h2 (by rw [rowq_len hin]; omega)
  rw [hdot, hE] at cD
  generalize mulE la c lb cb i j = x at *
  have HROW := Lib.hid hrow
  have HB := Lib.hid hb
  clear hdot hE hn hn2 hin hpos hpos2 hrow ha hb hla hlb hi hj hpa hpb
  go_enter Try.func64, Try.ntmps64
  go_wp2
  refine startA (fun i => false) (by kernel_rfl) (fun wS hS => ?_)
  replace H := H.drew
  rw [← hS] at H
  have HH := H.hold
  have HR := H.old RO
  have HS0 : Below wS.heap.size wS wS := Below.refl _ _
  clear hS
  refine takeL 0 HS0 rfl (by kernel_rfl) (by kernel_rfl) (by kernel_rfl) (by kernel_rfl) (by kernel_rfl) (fun _ _ _ h => h) rfl (v := ?_) ?_ ?_
  rotate_left
  · intro w' hw'; first | (refine Eq.trans (xLoad (HR.below hw') _ rfl rfl (by first | exact part_all (by first | rfl | simp []) | (simp only [List.drop_succ_cons, List.drop_zero, List.take_succ_cons, List.take_zero]; rfl) | (simp [List.drop_append, List.take_append]; rfl)) (by first | rfl | simp [])) ?_; with_reducible rfl) | (refine Eq.trans (xLoad (HH.below hw') _ rfl rfl (by first | exact part_all (by first | rfl | simp []) | (simp only [List.drop_succ_cons, List.drop_zero, List.take_succ_cons, List.take_zero]; rfl) | (simp [List.drop_append, List.take_append]; rfl)) (by first | rfl | simp [])) ?_; with_reducible rfl)
  (try simp only [Act.put, List.setIfInBounds_toArray, List.set_cons_zero, List.set_cons_succ])
  refine takeP 1 rfl (by kernel_rfl) (by kernel_rfl) (by kernel_rfl) (by kernel_rfl) (fun _ _ _ h => h) rfl (v := ?_) ?_ ?_
  rotate_left
  · intro w'; go_simp; (try with_reducible rfl)
  (try simp only [Act.put, List.setIfInBounds_toArray, List.set_cons_zero, List.set_cons_succ])
  refine takeL 3 HS0 rfl (by kernel_rfl) (by kernel_rfl) (by kernel_rfl) (by kernel_rfl) (by kernel_rfl) (fun _ _ _ h => h) rfl (v := ?_) ?_ ?_
  rotate_left
  · intro w' hw'; first | (refine Eq.trans (xLoad (HR.below hw') _ rfl rfl (by first | exact part_all (by first | rfl | simp []) | (simp only [List.drop_succ_cons, List.drop_zero, List.take_succ_cons, List.take_zero]; rfl) | (simp [List.drop_append, List.take_append]; rfl)) (by first | rfl | simp [])) ?_; with_reducible rfl) | (refine Eq.trans (xLoad (HH.below hw') _ rfl rfl (by first | exact part_all (by first | rfl | simp []) | (simp only [List.drop_succ_cons, List.drop_zero, List.take_succ_cons, List.take_zero]; rfl) | (simp [List.drop_append, List.take_append]; rfl)) (by first | rfl | simp [])) ?_; with_reducible rfl)
  (try simp only [Act.put, List.setIfInBounds_toArray, List.set_cons_zero, List.set_cons_succ])
  refine takeP 4 rfl (by kernel_rfl) (by kernel_rfl) (by kernel_rfl) (by kernel_rfl) (fun _ _ _ h => h) rfl (v := ?_) ?_ ?_
  rotate_left
  · intro w'; go_simp; (try with_reducible rfl)
  (try simp only [Act.put, List.setIfInBounds_toArray, List.set_cons_zero, List.set_cons_succ])
  refine stepL 2 rfl (by kernel_rfl) rfl (fun K hK => ?_)
  (go_simp; (with_reducible refine (cR _).mono ?_); rintro e w' ⟨rfl, hb⟩; replace H := H.step hb; replace HS0 := below_two HS0 HS0.size hb; clear hb; refine hK.out _ _ (fun _ _ => HS0) ?_; clear K hK)
  (try simp only [Act.put, List.setIfInBounds_toArray, List.set_cons_zero, List.set_cons_succ])
  refine stepL 5 rfl (by kernel_rfl) rfl (fun K hK => ?_)
  (go_simp; (with_reducible refine (cC _ (HB.out.below H.below)).mono ?_); rintro e w' ⟨v5, rfl, ho, hb⟩; replace H := H.pushRow hb ho; clear ho; replace HS0 := below_two HS0 HS0.size hb; clear hb; refine hK.out _ _ (fun _ _ => HS0) ?_; clear K hK)
  (try simp only [Act.put, List.setIfInBounds_toArray, List.set_cons_zero, List.set_cons_succ])
  refine stepL 6 rfl (by kernel_rfl) rfl (fun K hK => ?_)
  (go_simp; (with_reducible refine (cD _ _ (HROW.out.below H.below) (H.hold.rr v5)).mono ?_); rintro e w' ⟨rfl, hb⟩; replace H := H.step hb; replace HS0 := below_two HS0 HS0.size hb; clear hb; refine hK.out _ _ (fun _ _ => HS0) ?_; clear K hK)
  (try simp only [Act.put, List.setIfInBounds_toArray, List.set_cons_zero, List.set_cons_succ])
  refine takeP 7 rfl (by kernel_rfl) (by kernel_rfl) (by kernel_rfl) (by kernel_rfl) (fun _ _ _ h => h) rfl (v := ?_) ?_ ?_
  rotate_left
  · intro w'; go_simp; (try with_reducible rfl)
  (try simp only [Act.put, List.setIfInBounds_toArray, List.set_cons_zero, List.set_cons_succ])
  refine takeP 8 rfl (by kernel_rfl) (by kernel_rfl) (by kernel_rfl) (by kernel_rfl) (fun _ _ _ h => h) rfl (v := ?_) ?_ ?_
  rotate_left
  · intro w'; go_simp; (try with_reducible rfl)
  (try simp only [Act.put, List.setIfInBounds_toArray, List.set_cons_zero, List.set_cons_succ])
  refine takeP 9 rfl (by kernel_rfl) (by kernel_rfl) (by kernel_rfl) (by kernel_rfl) (fun _ _ _ h => h) rfl (v := ?_) ?_ ?_
  rotate_left
  · intro w'; go_simp; (try with_reducible rfl)
  (try simp only [Act.put, List.setIfInBounds_toArray, List.set_cons_zero, List.set_cons_succ])
  refine takeP 10 rfl (by kernel_rfl) (by kernel_rfl) (by kernel_rfl) (by kernel_rfl) (fun _ _ _ h => h) rfl (v := ?_) ?_ ?_
  rotate_left
  · intro w'; go_simp; (try with_reducible rfl)
  (try simp only [Act.put, List.setIfInBounds_toArray, List.set_cons_zero, List.set_cons_succ])
  refine takeP 11 rfl (by kernel_rfl) (by kernel_rfl) (by kernel_rfl) (by kernel_rfl) (fun _ _ _ h => h) rfl (v := ?_) ?_ ?_
  rotate_left
  · intro w'; go_simp; (try with_reducible rfl)
  (try simp only [Act.put, List.setIfInBounds_toArray, List.set_cons_zero, List.set_cons_succ])
  refine doneL (by kernel_rfl) ?_
  go_wp2
  go_ret
  exact ⟨rfl, H.below⟩
end Go.Proofs.Ytfnneneaalaagaa
