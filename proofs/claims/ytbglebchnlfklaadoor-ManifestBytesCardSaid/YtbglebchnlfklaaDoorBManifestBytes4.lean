/- Ground of the statement ManifestBytes, part 4: Sha15, Sha16, Sha19, Man5, Man6, Man9, Man10, Man11. -/
import Derived.Test.YtbglebchnlfklaaDoorBManifestBytes3
namespace Go.Proofs.YtbglebchnlfklaaDoor
set_option maxRecDepth 100000
open Go.RowKit
set_option linter.unusedSimpArgs false
set_option linter.unusedVariables false

def relS15 (s : S8) (blk : List UInt8) (w : World) (b3 b6 b7 : Nat) (v8 : Value) (wr : World) : Prop := ∃ t : Nat, v8 = .int .i64 (t : Int) ∧ t ≤ 64 ∧ SH Nil w wr [.blk b7 36 ((schW blk t).map vw), .blk b6 178 (List.replicate 8 (.int .u32 0)), .blk b3 178 (s.list.map vw)]
def relR15 (s : S8) (blk : List UInt8) (w : World) (b3 b6 b7 b11 : Nat) (v12 : Value) (wr : World) : Prop := ∃ (t : Nat) (q : S8), v12 = .int .i64 (t : Int) ∧ t ≤ 64 ∧ Hid (q = runT blk s t) ∧ SH Nil w wr [.blk b11 178 (q.list.map vw), .blk b7 36 ((schW blk 64).map vw), .blk b6 178 (List.replicate 8 (.int .u32 0)), .blk b3 178 (s.list.map vw)]
theorem kCell {w : World} {v : Value} (h : RR U32T w v kL) : ∃ ad c, v = .slice (some ad) 64 c ∧ ∀ t, t < 64 → w.cell? (ad.add t) = some (vw (kT t)) := by
  obtain ⟨A, c, rfl, -⟩ := h.len
  obtain ⟨ad, rfl, -⟩ := h.at_ 0 (by decide)
  refine ⟨ad, c, rfl, fun t ht => ?_⟩
  obtain ⟨ad', he, h1⟩ := h.at_ t ht
  injection he with he
  subst he
  have h2 := h1 0 _ rfl
  rw [show t * U32T.sz + 0 = t from Nat.mul_one t] at h2
  rw [h2]
  have h3 := kT_get t ht
  rw [List.getElem?_map] at h3
  obtain ⟨y, h4, h5⟩ := Option.map_eq_some_iff.1 h3
  rw [List.getElem?_eq_getElem ht] at h4
  injection h4 with h4
  rw [← h5, ← h4]
/-- The numbers at work, to which those of before are added one by one. -/
def mixR (s t : S8) (i : Nat) : List UInt32 := (s.add t).list.take i ++ t.list.drop i
theorem mixR_step (s t : S8) (i : Nat) (hi : i < 8) : (mixR s t i).set i (s.list.getD i 0 + t.list.getD i 0) = mixR s t (i + 1) ∧ (mixR s t i)[i]? = some (t.list.getD i 0) ∧ s.list[i]? = some (s.list.getD i 0) := by
  rcases i with _ | _ | _ | _ | _ | _ | _ | _ | i
  all_goals first | exact ⟨rfl, rfl, rfl⟩ | omega
theorem mixR_len (s t : S8) (i : Nat) (hi : i ≤ 8) : (mixR s t i).length = 8 := by
  rw [mixR, List.length_append, List.length_take, List.length_drop]
  show min i 8 + (8 - i) = 8
  omega
def relM8 (s q : S8) (blk : List UInt8) (w : World) (b3 b6 b7 b11 : Nat) (v17 : Value) (wr : World) : Prop := ∃ (i : Nat), v17 = .int .i64 (i : Int) ∧ i ≤ 8 ∧ SH Nil w wr [.blk b11 178 ((mixR s q i).map vw), .blk b7 36 ((schW blk 64).map vw), .blk b6 178 (List.replicate 8 (.int .u32 0)), .blk b3 178 (s.list.map vw)]
set_option maxHeartbeats 3200000 in
theorem rblock_any (s : S8) (blk : List UInt8) (v1 v2 : Value) (w : World) (hb : blk.length = 64) (h1 : RB w v1 blk) (h2 : RR U32T w v2 kL) :
    Calls Tryd.prog 110 #[.agg (s.list.map vw).toArray, v1, v2] w fun e w' => e = .returned (.agg ((compB s blk).list.map vw).toArray) ∧ Below w.heap.size w w' := by
  have H := SH.start Nil w
  obtain ⟨ad2, cp2, rfl, hk2⟩ := kCell h2
  have HK2 := Lib.hid hk2
  clear hk2 h2
  obtain ⟨A1, c1, rfl, -⟩ := h1.len
  obtain ⟨ad1, rfl, hby⟩ := h1.byte (by omega)
  rw [hb]
  have HB := Lib.hid hb
  have HBY := Lib.hid hby
  have hsl : (s.list.map vw).length = 8 := S8.len s
  have hso : ((s.list.map vw).all fun u => u.oneCell') = true := one_w _
  have HSL := Lib.hid hsl
  have HSO := Lib.hid hso
  clear hb hby hsl hso h1
  go_enter Tryd.func110, Tryd.ntmps110
  go_wp2_with (first
    | ((with_reducible refine gDst 18 ?_); refine aMakeW 64 (by omega) H _ _ rfl rfl rfl rfl ?_; clear H; intro b7 w7 H; (try dsimp only at H))
    | ((with_reducible refine gDst 3 ?_); refine aBox H _ rfl rfl rfl ?_; clear H; intro b3 w3 H)
    | ((with_reducible refine gDst 6 ?_); refine aAlloc H rfl rfl ?_; clear H; intro b6 w6 H)
    | ((with_reducible refine gDst 11 ?_); refine aAlloc H rfl rfl ?_; clear H; intro b11 w11 H)
    | ((with_reducible refine gLoad ?_); first | (refine aLoad1 H _ rfl rfl (by first | exact (rfl : _ = some (Value.int _ _)) | exact (rfl : _ = some (Value.slice _ _ _)) | exact (rfl : _ = some (Value.bool _)) | exact (rfl : _ = some (Value.string _)) | exact (rfl : _ = some (Value.pointer _)) | rfl | (simp [List.getElem?_append]; done)) rfl ?_) | (refine aLoadC _ rfl rfl (by assumption) rfl ?_) | (refine aLoad H _ rfl rfl (by first | exact part_all (by first | rfl | simp []) | (simp only [List.drop_succ_cons, List.drop_zero, List.take_succ_cons, List.take_zero]; rfl) | (simp [List.drop_append, List.take_append]; rfl)) (by first | rfl | simp []) rfl ?_))
    | ((with_reducible refine gStore ?_); (first | (refine aStore H _ _ rfl rfl rfl (by (first | exact ⟨rfl, rfl⟩ | exact ⟨by decide, rfl⟩ | (simp []; done) | (constructor <;> simp [] <;> omega))) (by first | rfl | simp [List.all_append, one_all]) rfl ?_) | (refine aLay H _ _ rfl rfl rfl (by (first | exact ⟨rfl, rfl⟩ | exact ⟨by decide, rfl⟩ | (simp []; done) | (constructor <;> simp [] <;> omega))) (by first | rfl | simp [List.all_append, one_all]) (by simp only [lay, List.take_succ_cons, List.take_zero, List.drop_succ_cons, List.drop_zero, List.nil_append, List.cons_append, List.length_cons, List.length_nil, Nat.zero_add, Nat.reduceAdd]; rfl) rfl ?_)); clear H; intro w' H; try dsimp only at H))
  rw [← schW_zero blk] at H
  go_loopw [8] (fun v8 wr => relS15 s blk w b3 b6 b7 v8 wr) (fun v _ => 64 - (intOf v).toNat)
  case atStart => exact ⟨0, rfl, by omega, H⟩
  case round =>
    obtain ⟨t, rfl, ht, HS⟩ := hrel
    clear H
    have H := HS
    clear HS
    by_cases h64 : t < 64
    · have hti : (t : Int) < 64 := by omega
      have hset : ((schW blk t).map vw).set t (vw (wT blk t)) = (schW blk (t + 1)).map vw := List.map_set.symm.trans (congrArg (List.map vw) (schW_step blk t h64))
      have hlen := schW_len blk t
      by_cases h16 : t < 16
      · have h16i : (t : Int) < 16 := by omega
        have hlow := wT_low blk t h16
        rw [wordB, be4_or] at hlow
        have hbl := HB.out
        have c0 := cell_below H.below (HBY.out (4 * t) (by omega))
        have c1' := cell_below H.below (HBY.out (4 * t + 1) (by omega))
        have c2 := cell_below H.below (HBY.out (4 * t + 2) (by omega))
        have c3 := cell_below H.below (HBY.out (4 * t + 3) (by omega))
        generalize blk.getD (4 * t) 0 = x0 at *
        generalize blk.getD (4 * t + 1) 0 = x1 at *
        generalize blk.getD (4 * t + 2) 0 = x2 at *
        generalize blk.getD (4 * t + 3) 0 = x3 at *
        have n0 : (UInt32.ofNat x0.toNat).toNat = x0.toNat := ofNat32 _ (by have := x0.toNat_lt; omega)
        have n1 : (UInt32.ofNat x1.toNat).toNat = x1.toNat := ofNat32 _ (by have := x1.toNat_lt; omega)
        have n2 : (UInt32.ofNat x2.toNat).toNat = x2.toNat := ofNat32 _ (by have := x2.toNat_lt; omega)
        have n3 : (UInt32.ofNat x3.toNat).toNat = x3.toNat := ofNat32 _ (by have := x3.toNat_lt; omega)
        have q0 : IntKind.u32.wrap ((x0.toNat : Int)) = (x0.toNat : Int) := by rw [IntKind.wrap_u32]; have := x0.toNat_lt; omega
        have q1 : IntKind.u32.wrap ((x1.toNat : Int)) = (x1.toNat : Int) := by rw [IntKind.wrap_u32]; have := x1.toNat_lt; omega
        have q2 : IntKind.u32.wrap ((x2.toNat : Int)) = (x2.toNat : Int) := by rw [IntKind.wrap_u32]; have := x2.toNat_lt; omega
        have q3 : IntKind.u32.wrap ((x3.toNat : Int)) = (x3.toNat : Int) := by rw [IntKind.wrap_u32]; have := x3.toNat_lt; omega
        have s0 := shl32 (UInt32.ofNat x0.toNat) 24 (by decide)
        have s1 := shl32 (UInt32.ofNat x1.toNat) 16 (by decide)
        have s2 := shl32 (UInt32.ofNat x2.toNat) 8 (by decide)
        have o1 := orW32 (UInt32.ofNat x0.toNat <<< UInt32.ofNat 24) (UInt32.ofNat x1.toNat <<< UInt32.ofNat 16)
        have o2 := orW32 (UInt32.ofNat x0.toNat <<< UInt32.ofNat 24 ||| UInt32.ofNat x1.toNat <<< UInt32.ofNat 16) (UInt32.ofNat x2.toNat <<< UInt32.ofNat 8)
        have o3 := orW32 ((UInt32.ofNat x0.toNat <<< UInt32.ofNat 24 ||| UInt32.ofNat x1.toNat <<< UInt32.ofNat 16) ||| UInt32.ofNat x2.toNat <<< UInt32.ofNat 8) (UInt32.ofNat x3.toNat)
        rw [← hlow] at o3
        rw [n0, show (2 : Int) ^ 24 = 16777216 from rfl] at s0
        rw [n1, show (2 : Int) ^ 16 = 65536 from rfl] at s1
        rw [n2, show (2 : Int) ^ 8 = 256 from rfl] at s2
        rw [n3] at o3
        clear n0 n1 n2 n3 hlow
        generalize wT blk t = r at *
        generalize UInt32.ofNat x0.toNat <<< UInt32.ofNat 24 = y0 at *
        generalize UInt32.ofNat x1.toNat <<< UInt32.ofNat 16 = y1 at *
        generalize UInt32.ofNat x2.toNat <<< UInt32.ofNat 8 = y2 at *
        generalize y0 ||| y1 = y01 at *
        generalize y01 ||| y2 = y012 at *
        generalize hu1 : 4 * t + 1 = u1 at *
        generalize hu2 : 4 * t + 2 = u2 at *
        generalize hu3 : 4 * t + 3 = u3 at *
        obtain ⟨u0, hu0⟩ : ∃ u0, u0 = 4 * t := ⟨_, rfl⟩
        rw [← hu0] at c0 hu1 hu2 hu3
        have m0 : (4 : Int) * (t : Int) = (u0 : Int) := by omega
        have m1 : (u0 : Int) + 1 = (u1 : Int) := by omega
        have m2 : (u0 : Int) + 2 = (u2 : Int) := by omega
        have m3 : (u0 : Int) + 3 = (u3 : Int) := by omega
        have g0 : (u0 : Int) < 64 := by omega
        have g1 : (u1 : Int) < 64 := by omega
        have g2 : (u2 : Int) < 64 := by omega
        have g3 : (u3 : Int) < 64 := by omega
        have k0 : IntKind.i64.wrap (u0 : Int) = (u0 : Int) := i64w _ (by omega) (by omega)
        have k1 : IntKind.i64.wrap (u1 : Int) = (u1 : Int) := i64w _ (by omega) (by omega)
        have k2 : IntKind.i64.wrap (u2 : Int) = (u2 : Int) := i64w _ (by omega) (by omega)
        have k3 : IntKind.i64.wrap (u3 : Int) = (u3 : Int) := i64w _ (by omega) (by omega)
        clear hu0 hu1 hu2 hu3
        have HSET := Lib.hid hset
        have HLEN := Lib.hid hlen
        clear hset hlen
        go_wp2
        refine startA (fun i => i == 36) (by kernel_rfl) (fun wS hS => ?_)
        replace H := H.drew
        rw [← hS] at H
        have HH := H.hold
        have HS0 : Below wS.heap.size wS wS := Below.refl _ _
        replace c0 := cellS hS c0
        replace c1' := cellS hS c1'
        replace c2 := cellS hS c2
        replace c3 := cellS hS c3
        clear hS
        refine takeP 0 rfl (by kernel_rfl) (by kernel_rfl) (by kernel_rfl) (by kernel_rfl) (fun _ _ _ h => h) rfl (v := ?_) ?_ ?_
        rotate_left
        · intro w'; go_simp; (try with_reducible rfl)
        (try simp only [Act.put, List.setIfInBounds_toArray, List.set_cons_zero, List.set_cons_succ])
        refine takeP 1 rfl (by kernel_rfl) (by kernel_rfl) (by kernel_rfl) (by kernel_rfl) (fun _ _ _ h => h) rfl (v := ?_) ?_ ?_
        rotate_left
        · intro w'; go_simp; (try with_reducible rfl)
        (try simp only [Act.put, List.setIfInBounds_toArray, List.set_cons_zero, List.set_cons_succ])
        refine takeP 2 rfl (by kernel_rfl) (by kernel_rfl) (by kernel_rfl) (by kernel_rfl) (fun _ _ _ h => h) rfl (v := ?_) ?_ ?_
        rotate_left
        · intro w'; go_simp; (try with_reducible rfl)
        (try simp only [Act.put, List.setIfInBounds_toArray, List.set_cons_zero, List.set_cons_succ])
        refine takeP 3 rfl (by kernel_rfl) (by kernel_rfl) (by kernel_rfl) (by kernel_rfl) (fun _ _ _ h => h) rfl (v := ?_) ?_ ?_
        rotate_left
        · intro w'; go_simp; (try with_reducible rfl)
        (try simp only [Act.put, List.setIfInBounds_toArray, List.set_cons_zero, List.set_cons_succ])
        refine takeP 4 rfl (by kernel_rfl) (by kernel_rfl) (by kernel_rfl) (by kernel_rfl) (fun _ _ _ h => h) rfl (v := ?_) ?_ ?_
        rotate_left
        · intro w'; go_simp; (try with_reducible rfl)
        (try simp only [Act.put, List.setIfInBounds_toArray, List.set_cons_zero, List.set_cons_succ])
        refine takeP 5 rfl (by kernel_rfl) (by kernel_rfl) (by kernel_rfl) (by kernel_rfl) (fun _ _ _ h => h) rfl (v := ?_) ?_ ?_
        rotate_left
        · intro w'; go_simp; (try with_reducible rfl)
        (try simp only [Act.put, List.setIfInBounds_toArray, List.set_cons_zero, List.set_cons_succ])
        refine takeL 6 HS0 rfl (by kernel_rfl) (by kernel_rfl) (by kernel_rfl) (by kernel_rfl) (by kernel_rfl) (fun _ _ _ h => h) rfl (v := ?_) ?_ ?_
        rotate_left
        · intro w' hw'; first | (refine Eq.trans (xLoad1 (HH.below hw') _ rfl rfl (by first | exact (rfl : _ = some (Value.int _ _)) | exact (rfl : _ = some (Value.slice _ _ _)) | exact (rfl : _ = some (Value.bool _)) | exact (rfl : _ = some (Value.string _)) | exact (rfl : _ = some (Value.pointer _)) | rfl | (simp [List.getElem?_append]; done))) ?_; with_reducible rfl) | (refine Eq.trans (xLoadC _ rfl rfl (cell_below hw' (by assumption))) ?_; with_reducible rfl)
        (try simp only [Act.put, List.setIfInBounds_toArray, List.set_cons_zero, List.set_cons_succ])
        refine takeP 7 rfl (by kernel_rfl) (by kernel_rfl) (by kernel_rfl) (by kernel_rfl) (fun _ _ _ h => h) rfl (v := ?_) ?_ ?_
        rotate_left
        · intro w'; go_simp; (try with_reducible rfl)
        (try simp only [Act.put, List.setIfInBounds_toArray, List.set_cons_zero, List.set_cons_succ])
        refine takeP 8 rfl (by kernel_rfl) (by kernel_rfl) (by kernel_rfl) (by kernel_rfl) (fun _ _ _ h => h) rfl (v := ?_) ?_ ?_
        rotate_left
        · intro w'; go_simp; (try with_reducible rfl)
        (try simp only [Act.put, List.setIfInBounds_toArray, List.set_cons_zero, List.set_cons_succ])
        refine takeP 9 rfl (by kernel_rfl) (by kernel_rfl) (by kernel_rfl) (by kernel_rfl) (fun _ _ _ h => h) rfl (v := ?_) ?_ ?_
        rotate_left
        · intro w'; go_simp; (try with_reducible rfl)
        (try simp only [Act.put, List.setIfInBounds_toArray, List.set_cons_zero, List.set_cons_succ])
        refine takeP 10 rfl (by kernel_rfl) (by kernel_rfl) (by kernel_rfl) (by kernel_rfl) (fun _ _ _ h => h) rfl (v := ?_) ?_ ?_
        rotate_left
        · intro w'; go_simp; (try with_reducible rfl)
        (try simp only [Act.put, List.setIfInBounds_toArray, List.set_cons_zero, List.set_cons_succ])
        refine takeP 11 rfl (by kernel_rfl) (by kernel_rfl) (by kernel_rfl) (by kernel_rfl) (fun _ _ _ h => h) rfl (v := ?_) ?_ ?_
        rotate_left
        · intro w'; go_simp; (try with_reducible rfl)
        (try simp only [Act.put, List.setIfInBounds_toArray, List.set_cons_zero, List.set_cons_succ])
        refine takeP 12 rfl (by kernel_rfl) (by kernel_rfl) (by kernel_rfl) (by kernel_rfl) (fun _ _ _ h => h) rfl (v := ?_) ?_ ?_
        rotate_left
        · intro w'; go_simp; (try with_reducible rfl)
        (try simp only [Act.put, List.setIfInBounds_toArray, List.set_cons_zero, List.set_cons_succ])
        refine takeP 13 rfl (by kernel_rfl) (by kernel_rfl) (by kernel_rfl) (by kernel_rfl) (fun _ _ _ h => h) rfl (v := ?_) ?_ ?_
        rotate_left
        · intro w'; go_simp; (try with_reducible rfl)
        (try simp only [Act.put, List.setIfInBounds_toArray, List.set_cons_zero, List.set_cons_succ])
        refine takeL 14 HS0 rfl (by kernel_rfl) (by kernel_rfl) (by kernel_rfl) (by kernel_rfl) (by kernel_rfl) (fun _ _ _ h => h) rfl (v := ?_) ?_ ?_
        rotate_left
        · intro w' hw'; first | (refine Eq.trans (xLoad1 (HH.below hw') _ rfl rfl (by first | exact (rfl : _ = some (Value.int _ _)) | exact (rfl : _ = some (Value.slice _ _ _)) | exact (rfl : _ = some (Value.bool _)) | exact (rfl : _ = some (Value.string _)) | exact (rfl : _ = some (Value.pointer _)) | rfl | (simp [List.getElem?_append]; done))) ?_; with_reducible rfl) | (refine Eq.trans (xLoadC _ rfl rfl (cell_below hw' (by assumption))) ?_; with_reducible rfl)
        (try simp only [Act.put, List.setIfInBounds_toArray, List.set_cons_zero, List.set_cons_succ])
        refine takeP 15 rfl (by kernel_rfl) (by kernel_rfl) (by kernel_rfl) (by kernel_rfl) (fun _ _ _ h => h) rfl (v := ?_) ?_ ?_
        rotate_left
        · intro w'; go_simp; (try with_reducible rfl)
        (try simp only [Act.put, List.setIfInBounds_toArray, List.set_cons_zero, List.set_cons_succ])
        refine takeP 16 rfl (by kernel_rfl) (by kernel_rfl) (by kernel_rfl) (by kernel_rfl) (fun _ _ _ h => h) rfl (v := ?_) ?_ ?_
        rotate_left
        · intro w'; go_simp; (try with_reducible rfl)
        (try simp only [Act.put, List.setIfInBounds_toArray, List.set_cons_zero, List.set_cons_succ])
        refine takeP 17 rfl (by kernel_rfl) (by kernel_rfl) (by kernel_rfl) (by kernel_rfl) (fun _ _ _ h => h) rfl (v := ?_) ?_ ?_
        rotate_left
        · intro w'; go_simp; (try with_reducible rfl)
        (try simp only [Act.put, List.setIfInBounds_toArray, List.set_cons_zero, List.set_cons_succ])
        refine takeP 18 rfl (by kernel_rfl) (by kernel_rfl) (by kernel_rfl) (by kernel_rfl) (fun _ _ _ h => h) rfl (v := ?_) ?_ ?_
        rotate_left
        · intro w'; go_simp; (try with_reducible rfl)
        (try simp only [Act.put, List.setIfInBounds_toArray, List.set_cons_zero, List.set_cons_succ])
        refine takeP 19 rfl (by kernel_rfl) (by kernel_rfl) (by kernel_rfl) (by kernel_rfl) (fun _ _ _ h => h) rfl (v := ?_) ?_ ?_
        rotate_left
        · intro w'; go_simp; (try with_reducible rfl)
        (try simp only [Act.put, List.setIfInBounds_toArray, List.set_cons_zero, List.set_cons_succ])
        refine takeP 20 rfl (by kernel_rfl) (by kernel_rfl) (by kernel_rfl) (by kernel_rfl) (fun _ _ _ h => h) rfl (v := ?_) ?_ ?_
        rotate_left
        · intro w'; go_simp; (try with_reducible rfl)
        (try simp only [Act.put, List.setIfInBounds_toArray, List.set_cons_zero, List.set_cons_succ])
        refine takeP 21 rfl (by kernel_rfl) (by kernel_rfl) (by kernel_rfl) (by kernel_rfl) (fun _ _ _ h => h) rfl (v := ?_) ?_ ?_
        rotate_left
        · intro w'; go_simp; (try with_reducible rfl)
        (try simp only [Act.put, List.setIfInBounds_toArray, List.set_cons_zero, List.set_cons_succ])
        refine takeP 22 rfl (by kernel_rfl) (by kernel_rfl) (by kernel_rfl) (by kernel_rfl) (fun _ _ _ h => h) rfl (v := ?_) ?_ ?_
        rotate_left
        · intro w'; go_simp; (try with_reducible rfl)
        (try simp only [Act.put, List.setIfInBounds_toArray, List.set_cons_zero, List.set_cons_succ])
        refine takeL 23 HS0 rfl (by kernel_rfl) (by kernel_rfl) (by kernel_rfl) (by kernel_rfl) (by kernel_rfl) (fun _ _ _ h => h) rfl (v := ?_) ?_ ?_
        rotate_left
        · intro w' hw'; first | (refine Eq.trans (xLoad1 (HH.below hw') _ rfl rfl (by first | exact (rfl : _ = some (Value.int _ _)) | exact (rfl : _ = some (Value.slice _ _ _)) | exact (rfl : _ = some (Value.bool _)) | exact (rfl : _ = some (Value.string _)) | exact (rfl : _ = some (Value.pointer _)) | rfl | (simp [List.getElem?_append]; done))) ?_; with_reducible rfl) | (refine Eq.trans (xLoadC _ rfl rfl (cell_below hw' (by assumption))) ?_; with_reducible rfl)
        (try simp only [Act.put, List.setIfInBounds_toArray, List.set_cons_zero, List.set_cons_succ])
        refine takeP 24 rfl (by kernel_rfl) (by kernel_rfl) (by kernel_rfl) (by kernel_rfl) (fun _ _ _ h => h) rfl (v := ?_) ?_ ?_
        rotate_left
        · intro w'; go_simp; (try with_reducible rfl)
        (try simp only [Act.put, List.setIfInBounds_toArray, List.set_cons_zero, List.set_cons_succ])
        refine takeP 25 rfl (by kernel_rfl) (by kernel_rfl) (by kernel_rfl) (by kernel_rfl) (fun _ _ _ h => h) rfl (v := ?_) ?_ ?_
        rotate_left
        · intro w'; go_simp; (try with_reducible rfl)
        (try simp only [Act.put, List.setIfInBounds_toArray, List.set_cons_zero, List.set_cons_succ])
        refine takeP 26 rfl (by kernel_rfl) (by kernel_rfl) (by kernel_rfl) (by kernel_rfl) (fun _ _ _ h => h) rfl (v := ?_) ?_ ?_
        rotate_left
        · intro w'; go_simp; (try with_reducible rfl)
        (try simp only [Act.put, List.setIfInBounds_toArray, List.set_cons_zero, List.set_cons_succ])
        refine takeP 27 rfl (by kernel_rfl) (by kernel_rfl) (by kernel_rfl) (by kernel_rfl) (fun _ _ _ h => h) rfl (v := ?_) ?_ ?_
        rotate_left
        · intro w'; go_simp; (try with_reducible rfl)
        (try simp only [Act.put, List.setIfInBounds_toArray, List.set_cons_zero, List.set_cons_succ])
        refine takeP 28 rfl (by kernel_rfl) (by kernel_rfl) (by kernel_rfl) (by kernel_rfl) (fun _ _ _ h => h) rfl (v := ?_) ?_ ?_
        rotate_left
        · intro w'; go_simp; (try with_reducible rfl)
        (try simp only [Act.put, List.setIfInBounds_toArray, List.set_cons_zero, List.set_cons_succ])
        refine takeP 29 rfl (by kernel_rfl) (by kernel_rfl) (by kernel_rfl) (by kernel_rfl) (fun _ _ _ h => h) rfl (v := ?_) ?_ ?_
        rotate_left
        · intro w'; go_simp; (try with_reducible rfl)
        (try simp only [Act.put, List.setIfInBounds_toArray, List.set_cons_zero, List.set_cons_succ])
        refine takeP 30 rfl (by kernel_rfl) (by kernel_rfl) (by kernel_rfl) (by kernel_rfl) (fun _ _ _ h => h) rfl (v := ?_) ?_ ?_
        rotate_left
        · intro w'; go_simp; (try with_reducible rfl)
        (try simp only [Act.put, List.setIfInBounds_toArray, List.set_cons_zero, List.set_cons_succ])
        refine takeP 31 rfl (by kernel_rfl) (by kernel_rfl) (by kernel_rfl) (by kernel_rfl) (fun _ _ _ h => h) rfl (v := ?_) ?_ ?_
        rotate_left
        · intro w'; go_simp; (try with_reducible rfl)
        (try simp only [Act.put, List.setIfInBounds_toArray, List.set_cons_zero, List.set_cons_succ])
        refine takeL 32 HS0 rfl (by kernel_rfl) (by kernel_rfl) (by kernel_rfl) (by kernel_rfl) (by kernel_rfl) (fun _ _ _ h => h) rfl (v := ?_) ?_ ?_
        rotate_left
        · intro w' hw'; first | (refine Eq.trans (xLoad1 (HH.below hw') _ rfl rfl (by first | exact (rfl : _ = some (Value.int _ _)) | exact (rfl : _ = some (Value.slice _ _ _)) | exact (rfl : _ = some (Value.bool _)) | exact (rfl : _ = some (Value.string _)) | exact (rfl : _ = some (Value.pointer _)) | rfl | (simp [List.getElem?_append]; done))) ?_; with_reducible rfl) | (refine Eq.trans (xLoadC _ rfl rfl (cell_below hw' (by assumption))) ?_; with_reducible rfl)
        (try simp only [Act.put, List.setIfInBounds_toArray, List.set_cons_zero, List.set_cons_succ])
        refine takeP 33 rfl (by kernel_rfl) (by kernel_rfl) (by kernel_rfl) (by kernel_rfl) (fun _ _ _ h => h) rfl (v := ?_) ?_ ?_
        rotate_left
        · intro w'; go_simp; (try with_reducible rfl)
        (try simp only [Act.put, List.setIfInBounds_toArray, List.set_cons_zero, List.set_cons_succ])
        refine takeP 34 rfl (by kernel_rfl) (by kernel_rfl) (by kernel_rfl) (by kernel_rfl) (fun _ _ _ h => h) rfl (v := ?_) ?_ ?_
        rotate_left
        · intro w'; go_simp; (try with_reducible rfl)
        (try simp only [Act.put, List.setIfInBounds_toArray, List.set_cons_zero, List.set_cons_succ])
        refine takeP 35 rfl (by kernel_rfl) (by kernel_rfl) (by kernel_rfl) (by kernel_rfl) (fun _ _ _ h => h) rfl (v := ?_) ?_ ?_
        rotate_left
        · intro w'; go_simp; (try with_reducible rfl)
        (try simp only [Act.put, List.setIfInBounds_toArray, List.set_cons_zero, List.set_cons_succ])
        refine stepL 36 rfl (by kernel_rfl) rfl (fun K hK => ?_)
        (refine oCellA (v := vw r) (new := (schW blk (t + 1)).map vw) H _ _ rfl rfl rfl rfl rfl (by rw [List.length_map, HLEN.out]; exact h64) HSET.out ?_; clear H; intro w' H; (try dsimp only at H); refine hK.out _ _ (fun h => by cases h) ?_; clear K hK HS0)
        (try simp only [Act.put, List.setIfInBounds_toArray, List.set_cons_zero, List.set_cons_succ])
        refine doneL (by kernel_rfl) ?_
        go_wp2
        go_roundw
        case rel => first | exact ⟨t + 1, by go_num, by omega, H⟩ | exact ⟨_, ⟨t + 1, by go_num, by omega, H⟩, rfl⟩ | exact ⟨_, _, ⟨t + 1, by go_num, by omega, H⟩, rfl, rfl⟩ | exact ⟨_, _, _, ⟨t + 1, by go_num, by omega, H⟩, rfl, rfl, rfl⟩ | exact ⟨_, _, _, _, ⟨t + 1, by go_num, by omega, H⟩, rfl, rfl, rfl, rfl⟩ | exact ⟨_, _, _, _, _, ⟨t + 1, by go_num, by omega, H⟩, rfl, rfl, rfl, rfl, rfl⟩ | ((repeat (apply Exists.intro)); exact ⟨⟨t + 1, by go_num, by omega, H⟩, rfl⟩)
        case measure => simp [intOf] <;> omega
      · have h16i : ((t : Int) < 16) = False := eq_false (by omega)
        have hhi := wT_high blk t (by omega)
        have c0 := ((H.hold.va (b := b7)).cell (t - 15)).trans (map_vw_get _ _ _ (schW_get blk t (t - 15) (by omega) (by omega)))
        have c1' := ((H.hold.va (b := b7)).cell (t - 2)).trans (map_vw_get _ _ _ (schW_get blk t (t - 2) (by omega) (by omega)))
        have c2 := ((H.hold.va (b := b7)).cell (t - 7)).trans (map_vw_get _ _ _ (schW_get blk t (t - 7) (by omega) (by omega)))
        have c3 := ((H.hold.va (b := b7)).cell (t - 16)).trans (map_vw_get _ _ _ (schW_get blk t (t - 16) (by omega) (by omega)))
        have G2 := map_vw_get _ _ _ (schW_get blk t (t - 7) (by omega) (by omega))
        have G3 := map_vw_get _ _ _ (schW_get blk t (t - 16) (by omega) (by omega))
        clear c2 c3
        generalize wT blk (t - 15) = x at *
        generalize wT blk (t - 2) = y at *
        generalize wT blk (t - 7) = x7 at *
        generalize wT blk (t - 16) = x16 at *
        have m1 : (t : Int) - 15 = ((t - 15 : Nat) : Int) := by omega
        have m2 : (t : Int) - 2 = ((t - 2 : Nat) : Int) := by omega
        have m3 : (t : Int) - 7 = ((t - 7 : Nat) : Int) := by omega
        have m4 : (t : Int) - 16 = ((t - 16 : Nat) : Int) := by omega
        generalize hu1 : t - 15 = u1 at *
        generalize hu2 : t - 2 = u2 at *
        generalize hu3 : t - 7 = u3 at *
        generalize hu4 : t - 16 = u4 at *
        have g1 : (u1 : Int) < 64 := by omega
        have g2 : (u2 : Int) < 64 := by omega
        have g3 : (u3 : Int) < 64 := by omega
        have g4 : (u4 : Int) < 64 := by omega
        have k1 : IntKind.i64.wrap (u1 : Int) = (u1 : Int) := i64w _ (by omega) (by omega)
        have k2 : IntKind.i64.wrap (u2 : Int) = (u2 : Int) := i64w _ (by omega) (by omega)
        have k3 : IntKind.i64.wrap (u3 : Int) = (u3 : Int) := i64w _ (by omega) (by omega)
        have k4 : IntKind.i64.wrap (u4 : Int) = (u4 : Int) := i64w _ (by omega) (by omega)
        clear hu1 hu2 hu3 hu4
        have cT7 : ∀ W, Calls Tryd.prog 128 #[vw x, .int .u64 7] W fun e w' => e = .returned (vw (rotr x 7)) ∧ Below W.heap.size W w' := fun W => (turn_any x 7 W (by decide) (by decide)).mono fun e w' h => ⟨h.1, h.2 ▸ Below.refl _ _⟩
        have cT18 : ∀ W, Calls Tryd.prog 128 #[vw x, .int .u64 18] W fun e w' => e = .returned (vw (rotr x 18)) ∧ Below W.heap.size W w' := fun W => (turn_any x 18 W (by decide) (by decide)).mono fun e w' h => ⟨h.1, h.2 ▸ Below.refl _ _⟩
        have cT17 : ∀ W, Calls Tryd.prog 128 #[vw y, .int .u64 17] W fun e w' => e = .returned (vw (rotr y 17)) ∧ Below W.heap.size W w' := fun W => (turn_any y 17 W (by decide) (by decide)).mono fun e w' h => ⟨h.1, h.2 ▸ Below.refl _ _⟩
        have cT19 : ∀ W, Calls Tryd.prog 128 #[vw y, .int .u64 19] W fun e w' => e = .returned (vw (rotr y 19)) ∧ Below W.heap.size W w' := fun W => (turn_any y 19 W (by decide) (by decide)).mono fun e w' h => ⟨h.1, h.2 ▸ Below.refl _ _⟩
        have p1 := xor32 (rotr x 7) (rotr x 18)
        have p2 := shr32 x 3 (by decide)
        have p3 := xor32 (rotr x 7 ^^^ rotr x 18) (x >>> UInt32.ofNat 3)
        have p4 := xor32 (rotr y 17) (rotr y 19)
        have p5 := shr32 y 10 (by decide)
        have p6 := xor32 (rotr y 17 ^^^ rotr y 19) (y >>> UInt32.ofNat 10)
        change _ = ((sm0 x).toNat : Int) at p3
        change _ = ((sm1 y).toNat : Int) at p6
        rw [show (2 : Int) ^ 3 = 8 by decide] at p2
        rw [show (2 : Int) ^ 10 = 1024 by decide] at p5
        have a1 := add32 (sm1 y) x7
        have a2 := add32 (sm1 y + x7) (sm0 x)
        have a3 := add32 (sm1 y + x7 + sm0 x) x16
        have har : sm1 y + x7 + sm0 x + x16 = wT blk t := by
          rw [hhi, UInt32.add_comm x16, UInt32.add_comm (sm1 y) x7, UInt32.add_assoc x7, UInt32.add_comm x7, UInt32.add_comm (sm0 x) x7, UInt32.add_assoc x7, UInt32.add_comm x7 (sm0 x + sm1 y), UInt32.add_comm (sm0 x) (sm1 y), UInt32.add_assoc, UInt32.add_assoc]
        rw [har] at a3
        clear hhi har
        generalize wT blk t = r at *
        generalize sm0 x = z0 at *
        generalize sm1 y = z1 at *
        generalize rotr x 7 = x1 at *
        generalize rotr x 18 = x2 at *
        generalize rotr y 17 = y1 at *
        generalize rotr y 19 = y2 at *
        generalize x >>> UInt32.ofNat 3 = x3 at *
        generalize y >>> UInt32.ofNat 10 = y3 at *
        generalize x1 ^^^ x2 = x12 at *
        generalize y1 ^^^ y2 = y12 at *
        generalize z1 + x7 + z0 = z3 at *
        generalize z1 + x7 = z2 at *
        have HG2 := Lib.hid G2
        have HG3 := Lib.hid G3
        have HSET := Lib.hid hset
        have HLEN := Lib.hid hlen
        clear hset hlen G2 G3
        go_wp2
        refine startA (fun i => false) (by kernel_rfl) (fun wS hS => ?_)
        replace H := H.drew
        rw [← hS] at H
        have HH := H.hold
        have HS0 : Below wS.heap.size wS wS := Below.refl _ _
        replace c0 := cellS hS c0
        replace c1' := cellS hS c1'
        clear hS
        refine takeP 0 rfl (by kernel_rfl) (by kernel_rfl) (by kernel_rfl) (by kernel_rfl) (fun _ _ _ h => h) rfl (v := ?_) ?_ ?_
        rotate_left
        · intro w'; go_simp; (try with_reducible rfl)
        (try simp only [Act.put, List.setIfInBounds_toArray, List.set_cons_zero, List.set_cons_succ])
        refine takeP 1 rfl (by kernel_rfl) (by kernel_rfl) (by kernel_rfl) (by kernel_rfl) (fun _ _ _ h => h) rfl (v := ?_) ?_ ?_
        rotate_left
        · intro w'; go_simp; (try with_reducible rfl)
        (try simp only [Act.put, List.setIfInBounds_toArray, List.set_cons_zero, List.set_cons_succ])
        refine takeP 2 rfl (by kernel_rfl) (by kernel_rfl) (by kernel_rfl) (by kernel_rfl) (fun _ _ _ h => h) rfl (v := ?_) ?_ ?_
        rotate_left
        · intro w'; go_simp; (try with_reducible rfl)
        (try simp only [Act.put, List.setIfInBounds_toArray, List.set_cons_zero, List.set_cons_succ])
        refine takeP 3 rfl (by kernel_rfl) (by kernel_rfl) (by kernel_rfl) (by kernel_rfl) (fun _ _ _ h => h) rfl (v := ?_) ?_ ?_
        rotate_left
        · intro w'; go_simp; (try with_reducible rfl)
        (try simp only [Act.put, List.setIfInBounds_toArray, List.set_cons_zero, List.set_cons_succ])
        refine takeL 4 HS0 rfl (by kernel_rfl) (by kernel_rfl) (by kernel_rfl) (by kernel_rfl) (by kernel_rfl) (fun _ _ _ h => h) rfl (v := ?_) ?_ ?_
        rotate_left
        · intro w' hw'; first | (refine Eq.trans (xLoad1 (HH.below hw') _ rfl rfl (by first | exact (rfl : _ = some (Value.int _ _)) | exact (rfl : _ = some (Value.slice _ _ _)) | exact (rfl : _ = some (Value.bool _)) | exact (rfl : _ = some (Value.string _)) | exact (rfl : _ = some (Value.pointer _)) | rfl | (simp [List.getElem?_append]; done))) ?_; with_reducible rfl) | (refine Eq.trans (xLoadC _ rfl rfl (cell_below hw' (by assumption))) ?_; with_reducible rfl)
        (try simp only [Act.put, List.setIfInBounds_toArray, List.set_cons_zero, List.set_cons_succ])
        refine takeP 5 rfl (by kernel_rfl) (by kernel_rfl) (by kernel_rfl) (by kernel_rfl) (fun _ _ _ h => h) rfl (v := ?_) ?_ ?_
        rotate_left
        · intro w'; go_simp; (try with_reducible rfl)
        (try simp only [Act.put, List.setIfInBounds_toArray, List.set_cons_zero, List.set_cons_succ])
        refine takeP 6 rfl (by kernel_rfl) (by kernel_rfl) (by kernel_rfl) (by kernel_rfl) (fun _ _ _ h => h) rfl (v := ?_) ?_ ?_
        rotate_left
        · intro w'; go_simp; (try with_reducible rfl)
        (try simp only [Act.put, List.setIfInBounds_toArray, List.set_cons_zero, List.set_cons_succ])
        refine takeP 7 rfl (by kernel_rfl) (by kernel_rfl) (by kernel_rfl) (by kernel_rfl) (fun _ _ _ h => h) rfl (v := ?_) ?_ ?_
        rotate_left
        · intro w'; go_simp; (try with_reducible rfl)
        (try simp only [Act.put, List.setIfInBounds_toArray, List.set_cons_zero, List.set_cons_succ])
        refine takeP 8 rfl (by kernel_rfl) (by kernel_rfl) (by kernel_rfl) (by kernel_rfl) (fun _ _ _ h => h) rfl (v := ?_) ?_ ?_
        rotate_left
        · intro w'; go_simp; (try with_reducible rfl)
        (try simp only [Act.put, List.setIfInBounds_toArray, List.set_cons_zero, List.set_cons_succ])
        refine takeL 9 HS0 rfl (by kernel_rfl) (by kernel_rfl) (by kernel_rfl) (by kernel_rfl) (by kernel_rfl) (fun _ _ _ h => h) rfl (v := ?_) ?_ ?_
        rotate_left
        · intro w' hw'; first | (refine Eq.trans (xLoad1 (HH.below hw') _ rfl rfl (by first | exact (rfl : _ = some (Value.int _ _)) | exact (rfl : _ = some (Value.slice _ _ _)) | exact (rfl : _ = some (Value.bool _)) | exact (rfl : _ = some (Value.string _)) | exact (rfl : _ = some (Value.pointer _)) | rfl | (simp [List.getElem?_append]; done))) ?_; with_reducible rfl) | (refine Eq.trans (xLoadC _ rfl rfl (cell_below hw' (by assumption))) ?_; with_reducible rfl)
        (try simp only [Act.put, List.setIfInBounds_toArray, List.set_cons_zero, List.set_cons_succ])
        refine takeP 10 rfl (by kernel_rfl) (by kernel_rfl) (by kernel_rfl) (by kernel_rfl) (fun _ _ _ h => h) rfl (v := ?_) ?_ ?_
        rotate_left
        · intro w'; go_simp; (try with_reducible rfl)
        (try simp only [Act.put, List.setIfInBounds_toArray, List.set_cons_zero, List.set_cons_succ])
        refine takeP 11 rfl (by kernel_rfl) (by kernel_rfl) (by kernel_rfl) (by kernel_rfl) (fun _ _ _ h => h) rfl (v := ?_) ?_ ?_
        rotate_left
        · intro w'; go_simp; (try with_reducible rfl)
        (try simp only [Act.put, List.setIfInBounds_toArray, List.set_cons_zero, List.set_cons_succ])
        refine doneL (by kernel_rfl) ?_
        clear c0 c1'
        have c2 := ((H.hold.va (b := b7)).cell u3).trans HG2.out
        have c3 := ((H.hold.va (b := b7)).cell u4).trans HG3.out
        go_wp2
        refine startA (fun i => i == 32) (by kernel_rfl) (fun wS hS => ?_)
        replace H := H.drew
        rw [← hS] at H
        have HH := H.hold
        have HS0 : Below wS.heap.size wS wS := Below.refl _ _
        replace c2 := cellS hS c2
        replace c3 := cellS hS c3
        clear hS
        refine takeP 0 rfl (by kernel_rfl) (by kernel_rfl) (by kernel_rfl) (by kernel_rfl) (fun _ _ _ h => h) rfl (v := ?_) ?_ ?_
        rotate_left
        · intro w'; go_simp; (try with_reducible rfl)
        (try simp only [Act.put, List.setIfInBounds_toArray, List.set_cons_zero, List.set_cons_succ])
        refine takeP 1 rfl (by kernel_rfl) (by kernel_rfl) (by kernel_rfl) (by kernel_rfl) (fun _ _ _ h => h) rfl (v := ?_) ?_ ?_
        rotate_left
        · intro w'; go_simp; (try with_reducible rfl)
        (try simp only [Act.put, List.setIfInBounds_toArray, List.set_cons_zero, List.set_cons_succ])
        refine takeP 2 rfl (by kernel_rfl) (by kernel_rfl) (by kernel_rfl) (by kernel_rfl) (fun _ _ _ h => h) rfl (v := ?_) ?_ ?_
        rotate_left
        · intro w'; go_simp; (try with_reducible rfl)
        (try simp only [Act.put, List.setIfInBounds_toArray, List.set_cons_zero, List.set_cons_succ])
        refine takeP 4 rfl (by kernel_rfl) (by kernel_rfl) (by kernel_rfl) (by kernel_rfl) (fun _ _ _ h => h) rfl (v := ?_) ?_ ?_
        rotate_left
        · intro w'; go_simp; (try with_reducible rfl)
        (try simp only [Act.put, List.setIfInBounds_toArray, List.set_cons_zero, List.set_cons_succ])
        refine takeP 7 rfl (by kernel_rfl) (by kernel_rfl) (by kernel_rfl) (by kernel_rfl) (fun _ _ _ h => h) rfl (v := ?_) ?_ ?_
        rotate_left
        · intro w'; go_simp; (try with_reducible rfl)
        (try simp only [Act.put, List.setIfInBounds_toArray, List.set_cons_zero, List.set_cons_succ])
        refine takeP 8 rfl (by kernel_rfl) (by kernel_rfl) (by kernel_rfl) (by kernel_rfl) (fun _ _ _ h => h) rfl (v := ?_) ?_ ?_
        rotate_left
        · intro w'; go_simp; (try with_reducible rfl)
        (try simp only [Act.put, List.setIfInBounds_toArray, List.set_cons_zero, List.set_cons_succ])
        refine takeP 10 rfl (by kernel_rfl) (by kernel_rfl) (by kernel_rfl) (by kernel_rfl) (fun _ _ _ h => h) rfl (v := ?_) ?_ ?_
        rotate_left
        · intro w'; go_simp; (try with_reducible rfl)
        (try simp only [Act.put, List.setIfInBounds_toArray, List.set_cons_zero, List.set_cons_succ])
        refine takeP 11 rfl (by kernel_rfl) (by kernel_rfl) (by kernel_rfl) (by kernel_rfl) (fun _ _ _ h => h) rfl (v := ?_) ?_ ?_
        rotate_left
        · intro w'; go_simp; (try with_reducible rfl)
        (try simp only [Act.put, List.setIfInBounds_toArray, List.set_cons_zero, List.set_cons_succ])
        refine takeP 12 rfl (by kernel_rfl) (by kernel_rfl) (by kernel_rfl) (by kernel_rfl) (fun _ _ _ h => h) rfl (v := ?_) ?_ ?_
        rotate_left
        · intro w'; go_simp; (try with_reducible rfl)
        (try simp only [Act.put, List.setIfInBounds_toArray, List.set_cons_zero, List.set_cons_succ])
        refine takeP 13 rfl (by kernel_rfl) (by kernel_rfl) (by kernel_rfl) (by kernel_rfl) (fun _ _ _ h => h) rfl (v := ?_) ?_ ?_
        rotate_left
        · intro w'; go_simp; (try with_reducible rfl)
        (try simp only [Act.put, List.setIfInBounds_toArray, List.set_cons_zero, List.set_cons_succ])
        refine takeL 14 HS0 rfl (by kernel_rfl) (by kernel_rfl) (by kernel_rfl) (by kernel_rfl) (by kernel_rfl) (fun _ _ _ h => h) rfl (v := ?_) ?_ ?_
        rotate_left
        · intro w' hw'; first | (refine Eq.trans (xLoad1 (HH.below hw') _ rfl rfl (by first | exact (rfl : _ = some (Value.int _ _)) | exact (rfl : _ = some (Value.slice _ _ _)) | exact (rfl : _ = some (Value.bool _)) | exact (rfl : _ = some (Value.string _)) | exact (rfl : _ = some (Value.pointer _)) | rfl | (simp [List.getElem?_append]; done))) ?_; with_reducible rfl) | (refine Eq.trans (xLoadC _ rfl rfl (cell_below hw' (by assumption))) ?_; with_reducible rfl)
        (try simp only [Act.put, List.setIfInBounds_toArray, List.set_cons_zero, List.set_cons_succ])
        refine takeP 16 rfl (by kernel_rfl) (by kernel_rfl) (by kernel_rfl) (by kernel_rfl) (fun _ _ _ h => h) rfl (v := ?_) ?_ ?_
        rotate_left
        · intro w'; go_simp; (try with_reducible rfl)
        (try simp only [Act.put, List.setIfInBounds_toArray, List.set_cons_zero, List.set_cons_succ])
        refine takeP 18 rfl (by kernel_rfl) (by kernel_rfl) (by kernel_rfl) (by kernel_rfl) (fun _ _ _ h => h) rfl (v := ?_) ?_ ?_
        rotate_left
        · intro w'; go_simp; (try with_reducible rfl)
        (try simp only [Act.put, List.setIfInBounds_toArray, List.set_cons_zero, List.set_cons_succ])
        refine takeP 21 rfl (by kernel_rfl) (by kernel_rfl) (by kernel_rfl) (by kernel_rfl) (fun _ _ _ h => h) rfl (v := ?_) ?_ ?_
        rotate_left
        · intro w'; go_simp; (try with_reducible rfl)
        (try simp only [Act.put, List.setIfInBounds_toArray, List.set_cons_zero, List.set_cons_succ])
        refine takeP 22 rfl (by kernel_rfl) (by kernel_rfl) (by kernel_rfl) (by kernel_rfl) (fun _ _ _ h => h) rfl (v := ?_) ?_ ?_
        rotate_left
        · intro w'; go_simp; (try with_reducible rfl)
        (try simp only [Act.put, List.setIfInBounds_toArray, List.set_cons_zero, List.set_cons_succ])
        refine takeP 25 rfl (by kernel_rfl) (by kernel_rfl) (by kernel_rfl) (by kernel_rfl) (fun _ _ _ h => h) rfl (v := ?_) ?_ ?_
        rotate_left
        · intro w'; go_simp; (try with_reducible rfl)
        (try simp only [Act.put, List.setIfInBounds_toArray, List.set_cons_zero, List.set_cons_succ])
        refine takeP 26 rfl (by kernel_rfl) (by kernel_rfl) (by kernel_rfl) (by kernel_rfl) (fun _ _ _ h => h) rfl (v := ?_) ?_ ?_
        rotate_left
        · intro w'; go_simp; (try with_reducible rfl)
        (try simp only [Act.put, List.setIfInBounds_toArray, List.set_cons_zero, List.set_cons_succ])
        refine takeP 27 rfl (by kernel_rfl) (by kernel_rfl) (by kernel_rfl) (by kernel_rfl) (fun _ _ _ h => h) rfl (v := ?_) ?_ ?_
        rotate_left
        · intro w'; go_simp; (try with_reducible rfl)
        (try simp only [Act.put, List.setIfInBounds_toArray, List.set_cons_zero, List.set_cons_succ])
        refine takeP 28 rfl (by kernel_rfl) (by kernel_rfl) (by kernel_rfl) (by kernel_rfl) (fun _ _ _ h => h) rfl (v := ?_) ?_ ?_
        rotate_left
        · intro w'; go_simp; (try with_reducible rfl)
        (try simp only [Act.put, List.setIfInBounds_toArray, List.set_cons_zero, List.set_cons_succ])
        refine takeL 29 HS0 rfl (by kernel_rfl) (by kernel_rfl) (by kernel_rfl) (by kernel_rfl) (by kernel_rfl) (fun _ _ _ h => h) rfl (v := ?_) ?_ ?_
        rotate_left
        · intro w' hw'; first | (refine Eq.trans (xLoad1 (HH.below hw') _ rfl rfl (by first | exact (rfl : _ = some (Value.int _ _)) | exact (rfl : _ = some (Value.slice _ _ _)) | exact (rfl : _ = some (Value.bool _)) | exact (rfl : _ = some (Value.string _)) | exact (rfl : _ = some (Value.pointer _)) | rfl | (simp [List.getElem?_append]; done))) ?_; with_reducible rfl) | (refine Eq.trans (xLoadC _ rfl rfl (cell_below hw' (by assumption))) ?_; with_reducible rfl)
        (try simp only [Act.put, List.setIfInBounds_toArray, List.set_cons_zero, List.set_cons_succ])
        refine stepL 3 rfl (by kernel_rfl) rfl (fun K hK => ?_)
        (go_simp; (with_reducible refine (cT17 _).mono ?_); rintro e w' ⟨rfl, hb⟩; replace H := H.step hb; replace HS0 := below_two HS0 HS0.size hb; clear hb; refine hK.out _ _ (fun _ _ => HS0) ?_; clear K hK)
        (try simp only [Act.put, List.setIfInBounds_toArray, List.set_cons_zero, List.set_cons_succ])
        refine stepL 5 rfl (by kernel_rfl) rfl (fun K hK => ?_)
        (go_simp; (with_reducible refine (cT19 _).mono ?_); rintro e w' ⟨rfl, hb⟩; replace H := H.step hb; replace HS0 := below_two HS0 HS0.size hb; clear hb; refine hK.out _ _ (fun _ _ => HS0) ?_; clear K hK)
        (try simp only [Act.put, List.setIfInBounds_toArray, List.set_cons_zero, List.set_cons_succ])
        refine takeP 6 rfl (by kernel_rfl) (by kernel_rfl) (by kernel_rfl) (by kernel_rfl) (fun _ _ _ h => h) rfl (v := ?_) ?_ ?_
        rotate_left
        · intro w'; go_simp; (try with_reducible rfl)
        (try simp only [Act.put, List.setIfInBounds_toArray, List.set_cons_zero, List.set_cons_succ])
        refine takeP 9 rfl (by kernel_rfl) (by kernel_rfl) (by kernel_rfl) (by kernel_rfl) (fun _ _ _ h => h) rfl (v := ?_) ?_ ?_
        rotate_left
        · intro w'; go_simp; (try with_reducible rfl)
        (try simp only [Act.put, List.setIfInBounds_toArray, List.set_cons_zero, List.set_cons_succ])
        refine takeP 15 rfl (by kernel_rfl) (by kernel_rfl) (by kernel_rfl) (by kernel_rfl) (fun _ _ _ h => h) rfl (v := ?_) ?_ ?_
        rotate_left
        · intro w'; go_simp; (try with_reducible rfl)
        (try simp only [Act.put, List.setIfInBounds_toArray, List.set_cons_zero, List.set_cons_succ])
        refine stepL 17 rfl (by kernel_rfl) rfl (fun K hK => ?_)
        (go_simp; (with_reducible refine (cT7 _).mono ?_); rintro e w' ⟨rfl, hb⟩; replace H := H.step hb; replace HS0 := below_two HS0 HS0.size hb; clear hb; refine hK.out _ _ (fun _ _ => HS0) ?_; clear K hK)
        (try simp only [Act.put, List.setIfInBounds_toArray, List.set_cons_zero, List.set_cons_succ])
        refine stepL 19 rfl (by kernel_rfl) rfl (fun K hK => ?_)
        (go_simp; (with_reducible refine (cT18 _).mono ?_); rintro e w' ⟨rfl, hb⟩; replace H := H.step hb; replace HS0 := below_two HS0 HS0.size hb; clear hb; refine hK.out _ _ (fun _ _ => HS0) ?_; clear K hK)
        (try simp only [Act.put, List.setIfInBounds_toArray, List.set_cons_zero, List.set_cons_succ])
        refine takeP 20 rfl (by kernel_rfl) (by kernel_rfl) (by kernel_rfl) (by kernel_rfl) (fun _ _ _ h => h) rfl (v := ?_) ?_ ?_
        rotate_left
        · intro w'; go_simp; (try with_reducible rfl)
        (try simp only [Act.put, List.setIfInBounds_toArray, List.set_cons_zero, List.set_cons_succ])
        refine takeP 23 rfl (by kernel_rfl) (by kernel_rfl) (by kernel_rfl) (by kernel_rfl) (fun _ _ _ h => h) rfl (v := ?_) ?_ ?_
        rotate_left
        · intro w'; go_simp; (try with_reducible rfl)
        (try simp only [Act.put, List.setIfInBounds_toArray, List.set_cons_zero, List.set_cons_succ])
        refine takeP 24 rfl (by kernel_rfl) (by kernel_rfl) (by kernel_rfl) (by kernel_rfl) (fun _ _ _ h => h) rfl (v := ?_) ?_ ?_
        rotate_left
        · intro w'; go_simp; (try with_reducible rfl)
        (try simp only [Act.put, List.setIfInBounds_toArray, List.set_cons_zero, List.set_cons_succ])
        refine takeP 30 rfl (by kernel_rfl) (by kernel_rfl) (by kernel_rfl) (by kernel_rfl) (fun _ _ _ h => h) rfl (v := ?_) ?_ ?_
        rotate_left
        · intro w'; go_simp; (try with_reducible rfl)
        (try simp only [Act.put, List.setIfInBounds_toArray, List.set_cons_zero, List.set_cons_succ])
        refine takeP 31 rfl (by kernel_rfl) (by kernel_rfl) (by kernel_rfl) (by kernel_rfl) (fun _ _ _ h => h) rfl (v := ?_) ?_ ?_
        rotate_left
        · intro w'; go_simp; (try with_reducible rfl)
        (try simp only [Act.put, List.setIfInBounds_toArray, List.set_cons_zero, List.set_cons_succ])
        refine stepL 32 rfl (by kernel_rfl) rfl (fun K hK => ?_)
        (refine oCellA (v := vw r) (new := (schW blk (t + 1)).map vw) H _ _ rfl rfl rfl rfl rfl (by rw [List.length_map, HLEN.out]; exact h64) HSET.out ?_; clear H; intro w' H; (try dsimp only at H); refine hK.out _ _ (fun h => by cases h) ?_; clear K hK HS0)
        (try simp only [Act.put, List.setIfInBounds_toArray, List.set_cons_zero, List.set_cons_succ])
        refine doneL (by kernel_rfl) ?_
        go_wp2
        go_roundw
        case rel => first | exact ⟨t + 1, by go_num, by omega, H⟩ | exact ⟨_, ⟨t + 1, by go_num, by omega, H⟩, rfl⟩ | exact ⟨_, _, ⟨t + 1, by go_num, by omega, H⟩, rfl, rfl⟩ | exact ⟨_, _, _, ⟨t + 1, by go_num, by omega, H⟩, rfl, rfl, rfl⟩ | exact ⟨_, _, _, _, ⟨t + 1, by go_num, by omega, H⟩, rfl, rfl, rfl, rfl⟩ | exact ⟨_, _, _, _, _, ⟨t + 1, by go_num, by omega, H⟩, rfl, rfl, rfl, rfl, rfl⟩ | ((repeat (apply Exists.intro)); exact ⟨⟨t + 1, by go_num, by omega, H⟩, rfl⟩)
        case measure => simp [intOf] <;> omega
    · obtain rfl : t = 64 := by omega
      go_wp2_with (first
        | ((with_reducible refine gDst 103 ?_); refine aLoad H _ rfl rfl (part_all HSL.out) HSL.out rfl ?_)
        | ((with_reducible refine gSto (.tmp 11) (.tmp 103) ?_); refine aStore H _ _ rfl rfl rfl ⟨by rfl, HSL.out⟩ HSO.out rfl ?_; clear H; intro w' H; (try dsimp only at H))
        | ((with_reducible refine gDst 3 ?_); refine aBox H _ rfl rfl rfl ?_; clear H; intro b3 w3 H)
        | ((with_reducible refine gDst 6 ?_); refine aAlloc H rfl rfl ?_; clear H; intro b6 w6 H)
        | ((with_reducible refine gDst 11 ?_); refine aAlloc H rfl rfl ?_; clear H; intro b11 w11 H)
        | ((with_reducible refine gLoad ?_); first | (refine aLoad1 H _ rfl rfl (by first | exact (rfl : _ = some (Value.int _ _)) | exact (rfl : _ = some (Value.slice _ _ _)) | exact (rfl : _ = some (Value.bool _)) | exact (rfl : _ = some (Value.string _)) | exact (rfl : _ = some (Value.pointer _)) | rfl | (simp [List.getElem?_append]; done)) rfl ?_) | (refine aLoadC _ rfl rfl (by assumption) rfl ?_) | (refine aLoad H _ rfl rfl (by first | exact part_all (by first | rfl | simp []) | (simp only [List.drop_succ_cons, List.drop_zero, List.take_succ_cons, List.take_zero]; rfl) | (simp [List.drop_append, List.take_append]; rfl)) (by first | rfl | simp []) rfl ?_))
        | ((with_reducible refine gStore ?_); (first | (refine aStore H _ _ rfl rfl rfl (by (first | exact ⟨rfl, rfl⟩ | exact ⟨by decide, rfl⟩ | (simp []; done) | (constructor <;> simp [] <;> omega))) (by first | rfl | simp [List.all_append, one_all]) rfl ?_) | (refine aLay H _ _ rfl rfl rfl (by (first | exact ⟨rfl, rfl⟩ | exact ⟨by decide, rfl⟩ | (simp []; done) | (constructor <;> simp [] <;> omega))) (by first | rfl | simp [List.all_append, one_all]) (by simp only [lay, List.take_succ_cons, List.take_zero, List.drop_succ_cons, List.drop_zero, List.nil_append, List.cons_append, List.length_cons, List.length_nil, Nat.zero_add, Nat.reduceAdd]; rfl) rfl ?_)); clear H; intro w' H; try dsimp only at H))
      go_loopw [12] (fun v12 wr => relR15 s blk w b3 b6 b7 b11 v12 wr) (fun v _ => 64 - (intOf v).toNat)
      case atStart => exact ⟨0, s, rfl, by omega, rfl, H⟩
      case round =>
        obtain ⟨t, ⟨qa, qb, qc, qd, qe, qf, qg, qh⟩, rfl, ht, HQ, HS⟩ := hrel
        clear H
        have H : SH Nil w wr [.blk b11 178 [vw qa, vw qb, vw qc, vw qd, vw qe, vw qf, vw qg, vw qh], .blk b7 36 ((schW blk 64).map vw), .blk b6 178 (List.replicate 8 (.int .u32 0)), .blk b3 178 (s.list.map vw)] := HS
        clear HS
        by_cases ht64 : t < 64
        · have hti : (t : Int) < 64 := by omega
          have hnext : runT blk s (t + 1) = stepT (runT blk s t) (kT t) (wT blk t) := rfl
          rw [← HQ.out] at hnext
          have hone : oneT ⟨qa, qb, qc, qd, qe, qf, qg, qh⟩ (kT t) (wT blk t) = (((qh + bS1 qe) + chF qe qf qg) + kT t) + wT blk t := rfl
          have htwo : twoT ⟨qa, qb, qc, qd, qe, qf, qg, qh⟩ = bS0 qa + majF qa qb qc := rfl
          rw [stepT, hone, htwo] at hnext
          simp only at hnext
          have hkc := HK2.out t ht64
          have HWT := Lib.hid (map_vw_get _ _ _ (schW_get blk 64 t ht64 (by omega)))
          have x1 := and32 qe qf
          have x2 : bits .xor .u32 (qe.toNat : Int) 4294967295 = ((qe ^^^ 4294967295).toNat : Int) := xor32 qe 4294967295
          have x3 := and32 (qe ^^^ 4294967295) qg
          have x4 := xor32 (qe &&& qf) ((qe ^^^ 4294967295) &&& qg)
          rw [ch_eq] at x4
          have y1 := and32 qa qb
          have y2 := and32 qa qc
          have y3 := xor32 (qa &&& qb) (qa &&& qc)
          have y4 := and32 qb qc
          have y5 := xor32 ((qa &&& qb) ^^^ (qa &&& qc)) (qb &&& qc)
          rw [maj_eq] at y5
          generalize (qe ^^^ 4294967295) &&& qg = m3 at *
          generalize qe ^^^ 4294967295 = m2 at *
          generalize qe &&& qf = m1 at *
          generalize (qa &&& qb) ^^^ (qa &&& qc) = m6 at *
          generalize qa &&& qb = m4 at *
          generalize qa &&& qc = m5 at *
          generalize qb &&& qc = m7 at *
          have cT6 : ∀ W, Calls Tryd.prog 128 #[vw qe, .int .u64 6] W fun e w' => e = .returned (vw (rotr qe 6)) ∧ Below W.heap.size W w' := fun W => (turn_any qe 6 W (by decide) (by decide)).mono fun e w' h => ⟨h.1, h.2 ▸ Below.refl _ _⟩
          have cT11 : ∀ W, Calls Tryd.prog 128 #[vw qe, .int .u64 11] W fun e w' => e = .returned (vw (rotr qe 11)) ∧ Below W.heap.size W w' := fun W => (turn_any qe 11 W (by decide) (by decide)).mono fun e w' h => ⟨h.1, h.2 ▸ Below.refl _ _⟩
          have cT25 : ∀ W, Calls Tryd.prog 128 #[vw qe, .int .u64 25] W fun e w' => e = .returned (vw (rotr qe 25)) ∧ Below W.heap.size W w' := fun W => (turn_any qe 25 W (by decide) (by decide)).mono fun e w' h => ⟨h.1, h.2 ▸ Below.refl _ _⟩
          have cT2 : ∀ W, Calls Tryd.prog 128 #[vw qa, .int .u64 2] W fun e w' => e = .returned (vw (rotr qa 2)) ∧ Below W.heap.size W w' := fun W => (turn_any qa 2 W (by decide) (by decide)).mono fun e w' h => ⟨h.1, h.2 ▸ Below.refl _ _⟩
          have cT13 : ∀ W, Calls Tryd.prog 128 #[vw qa, .int .u64 13] W fun e w' => e = .returned (vw (rotr qa 13)) ∧ Below W.heap.size W w' := fun W => (turn_any qa 13 W (by decide) (by decide)).mono fun e w' h => ⟨h.1, h.2 ▸ Below.refl _ _⟩
          have cT22 : ∀ W, Calls Tryd.prog 128 #[vw qa, .int .u64 22] W fun e w' => e = .returned (vw (rotr qa 22)) ∧ Below W.heap.size W w' := fun W => (turn_any qa 22 W (by decide) (by decide)).mono fun e w' h => ⟨h.1, h.2 ▸ Below.refl _ _⟩
          have s1 := xor32 (rotr qe 6) (rotr qe 11)
          have s2 := xor32 (rotr qe 6 ^^^ rotr qe 11) (rotr qe 25)
          change _ = ((bS1 qe).toNat : Int) at s2
          have s3 := xor32 (rotr qa 2) (rotr qa 13)
          have s4 := xor32 (rotr qa 2 ^^^ rotr qa 13) (rotr qa 22)
          change _ = ((bS0 qa).toNat : Int) at s4
          generalize rotr qe 6 ^^^ rotr qe 11 = n6 at *
          generalize rotr qa 2 ^^^ rotr qa 13 = n7 at *
          generalize rotr qe 6 = r6 at *
          generalize rotr qe 11 = r11 at *
          generalize rotr qe 25 = r25 at *
          generalize rotr qa 2 = r2 at *
          generalize rotr qa 13 = r13 at *
          generalize rotr qa 22 = r22 at *
          have a1 := add32 qh (bS1 qe)
          have a2 := add32 (qh + bS1 qe) (chF qe qf qg)
          have a3 := add32 (qh + bS1 qe + chF qe qf qg) (kT t)
          have a4 := add32 (qh + bS1 qe + chF qe qf qg + kT t) (wT blk t)
          have a5 := add32 (bS0 qa) (majF qa qb qc)
          generalize chF qe qf qg = gch at *
          generalize majF qa qb qc = gmj at *
          generalize bS1 qe = gs1 at *
          generalize bS0 qa = gs0 at *
          generalize kT t = gk at *
          generalize wT blk t = gw at *
          generalize qh + gs1 + gch + gk + gw = z4 at *
          generalize qh + gs1 + gch + gk = z3 at *
          generalize qh + gs1 + gch = z2 at *
          generalize qh + gs1 = z1 at *
          generalize gs0 + gmj = z5 at *
          have a6 := add32 z4 z5
          have a7 := add32 qd z4
          generalize z4 + z5 = z6 at *
          generalize qd + z4 = z7 at *
          have HN := Lib.hid hnext
          have HKC := Lib.hid hkc
          have htb : (t : Int) ≤ 64 := by omega
          clear hnext hone htwo hkc
          go_wp2
          have e0 : wr.cell? ⟨b11, 0, none⟩ = some (vw qa) := (H.hold.va (b := b11)).cell 0
          have e4 : wr.cell? ⟨b11, 4, none⟩ = some (vw qe) := (H.hold.va (b := b11)).cell 4
          refine startA (fun i => false) (by kernel_rfl) (fun wS hS => ?_)
          replace H := H.drew
          rw [← hS] at H
          have HH := H.hold
          have HS0 : Below wS.heap.size wS wS := Below.refl _ _
          replace e0 := cellS hS e0
          replace e4 := cellS hS e4
          clear hS
          refine takeP 0 rfl (by kernel_rfl) (by kernel_rfl) (by kernel_rfl) (by kernel_rfl) (fun _ _ _ h => h) rfl (v := ?_) ?_ ?_
          rotate_left
          · intro w'; go_simp; (try with_reducible rfl)
          (try simp only [Act.put, List.setIfInBounds_toArray, List.set_cons_zero, List.set_cons_succ])
          refine takeL 1 HS0 rfl (by kernel_rfl) (by kernel_rfl) (by kernel_rfl) (by kernel_rfl) (by kernel_rfl) (fun _ _ _ h => h) rfl (v := ?_) ?_ ?_
          rotate_left
          · intro w' hw'; first | (refine Eq.trans (xLoad1 (HH.below hw') _ rfl rfl (by first | exact (rfl : _ = some (Value.int _ _)) | exact (rfl : _ = some (Value.slice _ _ _)) | exact (rfl : _ = some (Value.bool _)) | exact (rfl : _ = some (Value.string _)) | exact (rfl : _ = some (Value.pointer _)) | rfl | (simp [List.getElem?_append]; done))) ?_; with_reducible rfl) | (refine Eq.trans (xLoadC _ rfl rfl (cell_below hw' (by assumption))) ?_; with_reducible rfl)
          (try simp only [Act.put, List.setIfInBounds_toArray, List.set_cons_zero, List.set_cons_succ])
          refine takeP 2 rfl (by kernel_rfl) (by kernel_rfl) (by kernel_rfl) (by kernel_rfl) (fun _ _ _ h => h) rfl (v := ?_) ?_ ?_
          rotate_left
          · intro w'; go_simp; (try with_reducible rfl)
          (try simp only [Act.put, List.setIfInBounds_toArray, List.set_cons_zero, List.set_cons_succ])
          refine takeL 3 HS0 rfl (by kernel_rfl) (by kernel_rfl) (by kernel_rfl) (by kernel_rfl) (by kernel_rfl) (fun _ _ _ h => h) rfl (v := ?_) ?_ ?_
          rotate_left
          · intro w' hw'; first | (refine Eq.trans (xLoad1 (HH.below hw') _ rfl rfl (by first | exact (rfl : _ = some (Value.int _ _)) | exact (rfl : _ = some (Value.slice _ _ _)) | exact (rfl : _ = some (Value.bool _)) | exact (rfl : _ = some (Value.string _)) | exact (rfl : _ = some (Value.pointer _)) | rfl | (simp [List.getElem?_append]; done))) ?_; with_reducible rfl) | (refine Eq.trans (xLoadC _ rfl rfl (cell_below hw' (by assumption))) ?_; with_reducible rfl)
          (try simp only [Act.put, List.setIfInBounds_toArray, List.set_cons_zero, List.set_cons_succ])
          refine takeP 4 rfl (by kernel_rfl) (by kernel_rfl) (by kernel_rfl) (by kernel_rfl) (fun _ _ _ h => h) rfl (v := ?_) ?_ ?_
          rotate_left
          · intro w'; go_simp; (try with_reducible rfl)
          (try simp only [Act.put, List.setIfInBounds_toArray, List.set_cons_zero, List.set_cons_succ])
          refine takeP 5 rfl (by kernel_rfl) (by kernel_rfl) (by kernel_rfl) (by kernel_rfl) (fun _ _ _ h => h) rfl (v := ?_) ?_ ?_
          rotate_left
          · intro w'; go_simp; (try with_reducible rfl)
          (try simp only [Act.put, List.setIfInBounds_toArray, List.set_cons_zero, List.set_cons_succ])
          refine doneL (by kernel_rfl) ?_
          clear e0 e4
          go_wp2
          have e7 := (H.hold.va (b := b11)).cell 7
          have e5 := (H.hold.va (b := b11)).cell 5
          have e6 := (H.hold.va (b := b11)).cell 6
          have ek := cell_below H.below HKC.out
          have ew := ((H.hold.va (b := b7)).cell t).trans HWT.out
          change _ = some (vw qh) at e7
          change _ = some (vw qf) at e5
          change _ = some (vw qg) at e6
          go_wp2
          refine startA (fun i => false) (by kernel_rfl) (fun wS hS => ?_)
          replace H := H.drew
          rw [← hS] at H
          have HH := H.hold
          have HS0 : Below wS.heap.size wS wS := Below.refl _ _
          replace e7 := cellS hS e7
          replace e5 := cellS hS e5
          replace e6 := cellS hS e6
          replace ek := cellS hS ek
          replace ew := cellS hS ew
          clear hS
          refine takeP 0 rfl (by kernel_rfl) (by kernel_rfl) (by kernel_rfl) (by kernel_rfl) (fun _ _ _ h => h) rfl (v := ?_) ?_ ?_
          rotate_left
          · intro w'; go_simp; (try with_reducible rfl)
          (try simp only [Act.put, List.setIfInBounds_toArray, List.set_cons_zero, List.set_cons_succ])
          refine takeL 1 HS0 rfl (by kernel_rfl) (by kernel_rfl) (by kernel_rfl) (by kernel_rfl) (by kernel_rfl) (fun _ _ _ h => h) rfl (v := ?_) ?_ ?_
          rotate_left
          · intro w' hw'; first | (refine Eq.trans (xLoad1 (HH.below hw') _ rfl rfl (by first | exact (rfl : _ = some (Value.int _ _)) | exact (rfl : _ = some (Value.slice _ _ _)) | exact (rfl : _ = some (Value.bool _)) | exact (rfl : _ = some (Value.string _)) | exact (rfl : _ = some (Value.pointer _)) | rfl | (simp [List.getElem?_append]; done))) ?_; with_reducible rfl) | (refine Eq.trans (xLoadC _ rfl rfl (cell_below hw' (by assumption))) ?_; with_reducible rfl)
          (try simp only [Act.put, List.setIfInBounds_toArray, List.set_cons_zero, List.set_cons_succ])
          refine takeP 2 rfl (by kernel_rfl) (by kernel_rfl) (by kernel_rfl) (by kernel_rfl) (fun _ _ _ h => h) rfl (v := ?_) ?_ ?_
          rotate_left
          · intro w'; go_simp; (try with_reducible rfl)
          (try simp only [Act.put, List.setIfInBounds_toArray, List.set_cons_zero, List.set_cons_succ])
          refine takeP 4 rfl (by kernel_rfl) (by kernel_rfl) (by kernel_rfl) (by kernel_rfl) (fun _ _ _ h => h) rfl (v := ?_) ?_ ?_
          rotate_left
          · intro w'; go_simp; (try with_reducible rfl)
          (try simp only [Act.put, List.setIfInBounds_toArray, List.set_cons_zero, List.set_cons_succ])
          refine takeP 7 rfl (by kernel_rfl) (by kernel_rfl) (by kernel_rfl) (by kernel_rfl) (fun _ _ _ h => h) rfl (v := ?_) ?_ ?_
          rotate_left
          · intro w'; go_simp; (try with_reducible rfl)
          (try simp only [Act.put, List.setIfInBounds_toArray, List.set_cons_zero, List.set_cons_succ])
          refine takeP 11 rfl (by kernel_rfl) (by kernel_rfl) (by kernel_rfl) (by kernel_rfl) (fun _ _ _ h => h) rfl (v := ?_) ?_ ?_
          rotate_left
          · intro w'; go_simp; (try with_reducible rfl)
          (try simp only [Act.put, List.setIfInBounds_toArray, List.set_cons_zero, List.set_cons_succ])
          refine takeP 12 rfl (by kernel_rfl) (by kernel_rfl) (by kernel_rfl) (by kernel_rfl) (fun _ _ _ h => h) rfl (v := ?_) ?_ ?_
          rotate_left
          · intro w'; go_simp; (try with_reducible rfl)
          (try simp only [Act.put, List.setIfInBounds_toArray, List.set_cons_zero, List.set_cons_succ])
          refine takeL 13 HS0 rfl (by kernel_rfl) (by kernel_rfl) (by kernel_rfl) (by kernel_rfl) (by kernel_rfl) (fun _ _ _ h => h) rfl (v := ?_) ?_ ?_
          rotate_left
          · intro w' hw'; first | (refine Eq.trans (xLoad1 (HH.below hw') _ rfl rfl (by first | exact (rfl : _ = some (Value.int _ _)) | exact (rfl : _ = some (Value.slice _ _ _)) | exact (rfl : _ = some (Value.bool _)) | exact (rfl : _ = some (Value.string _)) | exact (rfl : _ = some (Value.pointer _)) | rfl | (simp [List.getElem?_append]; done))) ?_; with_reducible rfl) | (refine Eq.trans (xLoadC _ rfl rfl (cell_below hw' (by assumption))) ?_; with_reducible rfl)
          (try simp only [Act.put, List.setIfInBounds_toArray, List.set_cons_zero, List.set_cons_succ])
          refine takeP 14 rfl (by kernel_rfl) (by kernel_rfl) (by kernel_rfl) (by kernel_rfl) (fun _ _ _ h => h) rfl (v := ?_) ?_ ?_
          rotate_left
          · intro w'; go_simp; (try with_reducible rfl)
          (try simp only [Act.put, List.setIfInBounds_toArray, List.set_cons_zero, List.set_cons_succ])
          refine takeP 15 rfl (by kernel_rfl) (by kernel_rfl) (by kernel_rfl) (by kernel_rfl) (fun _ _ _ h => h) rfl (v := ?_) ?_ ?_
          rotate_left
          · intro w'; go_simp; (try with_reducible rfl)
          (try simp only [Act.put, List.setIfInBounds_toArray, List.set_cons_zero, List.set_cons_succ])
          refine takeP 16 rfl (by kernel_rfl) (by kernel_rfl) (by kernel_rfl) (by kernel_rfl) (fun _ _ _ h => h) rfl (v := ?_) ?_ ?_
          rotate_left
          · intro w'; go_simp; (try with_reducible rfl)
          (try simp only [Act.put, List.setIfInBounds_toArray, List.set_cons_zero, List.set_cons_succ])
          refine takeP 17 rfl (by kernel_rfl) (by kernel_rfl) (by kernel_rfl) (by kernel_rfl) (fun _ _ _ h => h) rfl (v := ?_) ?_ ?_
          rotate_left
          · intro w'; go_simp; (try with_reducible rfl)
          (try simp only [Act.put, List.setIfInBounds_toArray, List.set_cons_zero, List.set_cons_succ])
          refine takeL 18 HS0 rfl (by kernel_rfl) (by kernel_rfl) (by kernel_rfl) (by kernel_rfl) (by kernel_rfl) (fun _ _ _ h => h) rfl (v := ?_) ?_ ?_
          rotate_left
          · intro w' hw'; first | (refine Eq.trans (xLoad1 (HH.below hw') _ rfl rfl (by first | exact (rfl : _ = some (Value.int _ _)) | exact (rfl : _ = some (Value.slice _ _ _)) | exact (rfl : _ = some (Value.bool _)) | exact (rfl : _ = some (Value.string _)) | exact (rfl : _ = some (Value.pointer _)) | rfl | (simp [List.getElem?_append]; done))) ?_; with_reducible rfl) | (refine Eq.trans (xLoadC _ rfl rfl (cell_below hw' (by assumption))) ?_; with_reducible rfl)
          (try simp only [Act.put, List.setIfInBounds_toArray, List.set_cons_zero, List.set_cons_succ])
          refine takeP 19 rfl (by kernel_rfl) (by kernel_rfl) (by kernel_rfl) (by kernel_rfl) (fun _ _ _ h => h) rfl (v := ?_) ?_ ?_
          rotate_left
          · intro w'; go_simp; (try with_reducible rfl)
          (try simp only [Act.put, List.setIfInBounds_toArray, List.set_cons_zero, List.set_cons_succ])
          refine takeP 20 rfl (by kernel_rfl) (by kernel_rfl) (by kernel_rfl) (by kernel_rfl) (fun _ _ _ h => h) rfl (v := ?_) ?_ ?_
          rotate_left
          · intro w'; go_simp; (try with_reducible rfl)
          (try simp only [Act.put, List.setIfInBounds_toArray, List.set_cons_zero, List.set_cons_succ])
          refine takeP 22 rfl (by kernel_rfl) (by kernel_rfl) (by kernel_rfl) (by kernel_rfl) (fun _ _ _ h => h) rfl (v := ?_) ?_ ?_
          rotate_left
          · intro w'; go_simp; (try with_reducible rfl)
          (try simp only [Act.put, List.setIfInBounds_toArray, List.set_cons_zero, List.set_cons_succ])
          refine takeP 23 rfl (by kernel_rfl) (by kernel_rfl) (by kernel_rfl) (by kernel_rfl) (fun _ _ _ h => h) rfl (v := ?_) ?_ ?_
          rotate_left
          · intro w'; go_simp; (try with_reducible rfl)
          (try simp only [Act.put, List.setIfInBounds_toArray, List.set_cons_zero, List.set_cons_succ])
          refine takeP 24 rfl (by kernel_rfl) (by kernel_rfl) (by kernel_rfl) (by kernel_rfl) (fun _ _ _ h => h) rfl (v := ?_) ?_ ?_
          rotate_left
          · intro w'; go_simp; (try with_reducible rfl)
          (try simp only [Act.put, List.setIfInBounds_toArray, List.set_cons_zero, List.set_cons_succ])
          refine takeL 25 HS0 rfl (by kernel_rfl) (by kernel_rfl) (by kernel_rfl) (by kernel_rfl) (by kernel_rfl) (fun _ _ _ h => h) rfl (v := ?_) ?_ ?_
          rotate_left
          · intro w' hw'; first | (refine Eq.trans (xLoad1 (HH.below hw') _ rfl rfl (by first | exact (rfl : _ = some (Value.int _ _)) | exact (rfl : _ = some (Value.slice _ _ _)) | exact (rfl : _ = some (Value.bool _)) | exact (rfl : _ = some (Value.string _)) | exact (rfl : _ = some (Value.pointer _)) | rfl | (simp [List.getElem?_append]; done))) ?_; with_reducible rfl) | (refine Eq.trans (xLoadC _ rfl rfl (cell_below hw' (by assumption))) ?_; with_reducible rfl)
          (try simp only [Act.put, List.setIfInBounds_toArray, List.set_cons_zero, List.set_cons_succ])
          refine takeP 27 rfl (by kernel_rfl) (by kernel_rfl) (by kernel_rfl) (by kernel_rfl) (fun _ _ _ h => h) rfl (v := ?_) ?_ ?_
          rotate_left
          · intro w'; go_simp; (try with_reducible rfl)
          (try simp only [Act.put, List.setIfInBounds_toArray, List.set_cons_zero, List.set_cons_succ])
          refine takeP 28 rfl (by kernel_rfl) (by kernel_rfl) (by kernel_rfl) (by kernel_rfl) (fun _ _ _ h => h) rfl (v := ?_) ?_ ?_
          rotate_left
          · intro w'; go_simp; (try with_reducible rfl)
          (try simp only [Act.put, List.setIfInBounds_toArray, List.set_cons_zero, List.set_cons_succ])
          refine takeP 29 rfl (by kernel_rfl) (by kernel_rfl) (by kernel_rfl) (by kernel_rfl) (fun _ _ _ h => h) rfl (v := ?_) ?_ ?_
          rotate_left
          · intro w'; go_simp; (try with_reducible rfl)
          (try simp only [Act.put, List.setIfInBounds_toArray, List.set_cons_zero, List.set_cons_succ])
          refine takeL 30 HS0 rfl (by kernel_rfl) (by kernel_rfl) (by kernel_rfl) (by kernel_rfl) (by kernel_rfl) (fun _ _ _ h => h) rfl (v := ?_) ?_ ?_
          rotate_left
          · intro w' hw'; first | (refine Eq.trans (xLoad1 (HH.below hw') _ rfl rfl (by first | exact (rfl : _ = some (Value.int _ _)) | exact (rfl : _ = some (Value.slice _ _ _)) | exact (rfl : _ = some (Value.bool _)) | exact (rfl : _ = some (Value.string _)) | exact (rfl : _ = some (Value.pointer _)) | rfl | (simp [List.getElem?_append]; done))) ?_; with_reducible rfl) | (refine Eq.trans (xLoadC _ rfl rfl (cell_below hw' (by assumption))) ?_; with_reducible rfl)
          (try simp only [Act.put, List.setIfInBounds_toArray, List.set_cons_zero, List.set_cons_succ])
          refine stepL 3 rfl (by kernel_rfl) rfl (fun K hK => ?_)
          (go_simp; (with_reducible refine (cT6 _).mono ?_); rintro e w' ⟨rfl, hb⟩; replace H := H.step hb; replace HS0 := below_two HS0 HS0.size hb; clear hb; refine hK.out _ _ (fun _ _ => HS0) ?_; clear K hK)
          (try simp only [Act.put, List.setIfInBounds_toArray, List.set_cons_zero, List.set_cons_succ])
          refine stepL 5 rfl (by kernel_rfl) rfl (fun K hK => ?_)
          (go_simp; (with_reducible refine (cT11 _).mono ?_); rintro e w' ⟨rfl, hb⟩; replace H := H.step hb; replace HS0 := below_two HS0 HS0.size hb; clear hb; refine hK.out _ _ (fun _ _ => HS0) ?_; clear K hK)
          (try simp only [Act.put, List.setIfInBounds_toArray, List.set_cons_zero, List.set_cons_succ])
          refine takeP 6 rfl (by kernel_rfl) (by kernel_rfl) (by kernel_rfl) (by kernel_rfl) (fun _ _ _ h => h) rfl (v := ?_) ?_ ?_
          rotate_left
          · intro w'; go_simp; (try with_reducible rfl)
          (try simp only [Act.put, List.setIfInBounds_toArray, List.set_cons_zero, List.set_cons_succ])
          refine stepL 8 rfl (by kernel_rfl) rfl (fun K hK => ?_)
          (go_simp; (with_reducible refine (cT25 _).mono ?_); rintro e w' ⟨rfl, hb⟩; replace H := H.step hb; replace HS0 := below_two HS0 HS0.size hb; clear hb; refine hK.out _ _ (fun _ _ => HS0) ?_; clear K hK)
          (try simp only [Act.put, List.setIfInBounds_toArray, List.set_cons_zero, List.set_cons_succ])
          refine takeP 9 rfl (by kernel_rfl) (by kernel_rfl) (by kernel_rfl) (by kernel_rfl) (fun _ _ _ h => h) rfl (v := ?_) ?_ ?_
          rotate_left
          · intro w'; go_simp; (try with_reducible rfl)
          (try simp only [Act.put, List.setIfInBounds_toArray, List.set_cons_zero, List.set_cons_succ])
          refine takeP 10 rfl (by kernel_rfl) (by kernel_rfl) (by kernel_rfl) (by kernel_rfl) (fun _ _ _ h => h) rfl (v := ?_) ?_ ?_
          rotate_left
          · intro w'; go_simp; (try with_reducible rfl)
          (try simp only [Act.put, List.setIfInBounds_toArray, List.set_cons_zero, List.set_cons_succ])
          refine takeP 21 rfl (by kernel_rfl) (by kernel_rfl) (by kernel_rfl) (by kernel_rfl) (fun _ _ _ h => h) rfl (v := ?_) ?_ ?_
          rotate_left
          · intro w'; go_simp; (try with_reducible rfl)
          (try simp only [Act.put, List.setIfInBounds_toArray, List.set_cons_zero, List.set_cons_succ])
          refine takeP 26 rfl (by kernel_rfl) (by kernel_rfl) (by kernel_rfl) (by kernel_rfl) (fun _ _ _ h => h) rfl (v := ?_) ?_ ?_
          rotate_left
          · intro w'; go_simp; (try with_reducible rfl)
          (try simp only [Act.put, List.setIfInBounds_toArray, List.set_cons_zero, List.set_cons_succ])
          refine takeP 31 rfl (by kernel_rfl) (by kernel_rfl) (by kernel_rfl) (by kernel_rfl) (fun _ _ _ h => h) rfl (v := ?_) ?_ ?_
          rotate_left
          · intro w'; go_simp; (try with_reducible rfl)
          (try simp only [Act.put, List.setIfInBounds_toArray, List.set_cons_zero, List.set_cons_succ])
          refine takeP 32 rfl (by kernel_rfl) (by kernel_rfl) (by kernel_rfl) (by kernel_rfl) (fun _ _ _ h => h) rfl (v := ?_) ?_ ?_
          rotate_left
          · intro w'; go_simp; (try with_reducible rfl)
          (try simp only [Act.put, List.setIfInBounds_toArray, List.set_cons_zero, List.set_cons_succ])
          refine doneL (by kernel_rfl) ?_
          clear e7 e5 e6 ek ew
          go_wp2
          have e1 := (H.hold.va (b := b11)).cell 1
          have e2 := (H.hold.va (b := b11)).cell 2
          change _ = some (vw qb) at e1
          change _ = some (vw qc) at e2
          refine startA (fun i => false) (by kernel_rfl) (fun wS hS => ?_)
          replace H := H.drew
          rw [← hS] at H
          have HH := H.hold
          have HS0 : Below wS.heap.size wS wS := Below.refl _ _
          replace e1 := cellS hS e1
          replace e2 := cellS hS e2
          clear hS
          refine takeP 0 rfl (by kernel_rfl) (by kernel_rfl) (by kernel_rfl) (by kernel_rfl) (fun _ _ _ h => h) rfl (v := ?_) ?_ ?_
          rotate_left
          · intro w'; go_simp; (try with_reducible rfl)
          (try simp only [Act.put, List.setIfInBounds_toArray, List.set_cons_zero, List.set_cons_succ])
          refine takeP 2 rfl (by kernel_rfl) (by kernel_rfl) (by kernel_rfl) (by kernel_rfl) (fun _ _ _ h => h) rfl (v := ?_) ?_ ?_
          rotate_left
          · intro w'; go_simp; (try with_reducible rfl)
          (try simp only [Act.put, List.setIfInBounds_toArray, List.set_cons_zero, List.set_cons_succ])
          refine takeP 5 rfl (by kernel_rfl) (by kernel_rfl) (by kernel_rfl) (by kernel_rfl) (fun _ _ _ h => h) rfl (v := ?_) ?_ ?_
          rotate_left
          · intro w'; go_simp; (try with_reducible rfl)
          (try simp only [Act.put, List.setIfInBounds_toArray, List.set_cons_zero, List.set_cons_succ])
          refine takeP 8 rfl (by kernel_rfl) (by kernel_rfl) (by kernel_rfl) (by kernel_rfl) (fun _ _ _ h => h) rfl (v := ?_) ?_ ?_
          rotate_left
          · intro w'; go_simp; (try with_reducible rfl)
          (try simp only [Act.put, List.setIfInBounds_toArray, List.set_cons_zero, List.set_cons_succ])
          refine takeP 9 rfl (by kernel_rfl) (by kernel_rfl) (by kernel_rfl) (by kernel_rfl) (fun _ _ _ h => h) rfl (v := ?_) ?_ ?_
          rotate_left
          · intro w'; go_simp; (try with_reducible rfl)
          (try simp only [Act.put, List.setIfInBounds_toArray, List.set_cons_zero, List.set_cons_succ])
          refine takeL 10 HS0 rfl (by kernel_rfl) (by kernel_rfl) (by kernel_rfl) (by kernel_rfl) (by kernel_rfl) (fun _ _ _ h => h) rfl (v := ?_) ?_ ?_
          rotate_left
          · intro w' hw'; first | (refine Eq.trans (xLoad1 (HH.below hw') _ rfl rfl (by first | exact (rfl : _ = some (Value.int _ _)) | exact (rfl : _ = some (Value.slice _ _ _)) | exact (rfl : _ = some (Value.bool _)) | exact (rfl : _ = some (Value.string _)) | exact (rfl : _ = some (Value.pointer _)) | rfl | (simp [List.getElem?_append]; done))) ?_; with_reducible rfl) | (refine Eq.trans (xLoadC _ rfl rfl (cell_below hw' (by assumption))) ?_; with_reducible rfl)
          (try simp only [Act.put, List.setIfInBounds_toArray, List.set_cons_zero, List.set_cons_succ])
          refine takeP 11 rfl (by kernel_rfl) (by kernel_rfl) (by kernel_rfl) (by kernel_rfl) (fun _ _ _ h => h) rfl (v := ?_) ?_ ?_
          rotate_left
          · intro w'; go_simp; (try with_reducible rfl)
          (try simp only [Act.put, List.setIfInBounds_toArray, List.set_cons_zero, List.set_cons_succ])
          refine takeP 12 rfl (by kernel_rfl) (by kernel_rfl) (by kernel_rfl) (by kernel_rfl) (fun _ _ _ h => h) rfl (v := ?_) ?_ ?_
          rotate_left
          · intro w'; go_simp; (try with_reducible rfl)
          (try simp only [Act.put, List.setIfInBounds_toArray, List.set_cons_zero, List.set_cons_succ])
          refine takeP 13 rfl (by kernel_rfl) (by kernel_rfl) (by kernel_rfl) (by kernel_rfl) (fun _ _ _ h => h) rfl (v := ?_) ?_ ?_
          rotate_left
          · intro w'; go_simp; (try with_reducible rfl)
          (try simp only [Act.put, List.setIfInBounds_toArray, List.set_cons_zero, List.set_cons_succ])
          refine takeL 14 HS0 rfl (by kernel_rfl) (by kernel_rfl) (by kernel_rfl) (by kernel_rfl) (by kernel_rfl) (fun _ _ _ h => h) rfl (v := ?_) ?_ ?_
          rotate_left
          · intro w' hw'; first | (refine Eq.trans (xLoad1 (HH.below hw') _ rfl rfl (by first | exact (rfl : _ = some (Value.int _ _)) | exact (rfl : _ = some (Value.slice _ _ _)) | exact (rfl : _ = some (Value.bool _)) | exact (rfl : _ = some (Value.string _)) | exact (rfl : _ = some (Value.pointer _)) | rfl | (simp [List.getElem?_append]; done))) ?_; with_reducible rfl) | (refine Eq.trans (xLoadC _ rfl rfl (cell_below hw' (by assumption))) ?_; with_reducible rfl)
          (try simp only [Act.put, List.setIfInBounds_toArray, List.set_cons_zero, List.set_cons_succ])
          refine takeP 15 rfl (by kernel_rfl) (by kernel_rfl) (by kernel_rfl) (by kernel_rfl) (fun _ _ _ h => h) rfl (v := ?_) ?_ ?_
          rotate_left
          · intro w'; go_simp; (try with_reducible rfl)
          (try simp only [Act.put, List.setIfInBounds_toArray, List.set_cons_zero, List.set_cons_succ])
          refine takeP 16 rfl (by kernel_rfl) (by kernel_rfl) (by kernel_rfl) (by kernel_rfl) (fun _ _ _ h => h) rfl (v := ?_) ?_ ?_
          rotate_left
          · intro w'; go_simp; (try with_reducible rfl)
          (try simp only [Act.put, List.setIfInBounds_toArray, List.set_cons_zero, List.set_cons_succ])
          refine takeP 17 rfl (by kernel_rfl) (by kernel_rfl) (by kernel_rfl) (by kernel_rfl) (fun _ _ _ h => h) rfl (v := ?_) ?_ ?_
          rotate_left
          · intro w'; go_simp; (try with_reducible rfl)
          (try simp only [Act.put, List.setIfInBounds_toArray, List.set_cons_zero, List.set_cons_succ])
          refine takeL 18 HS0 rfl (by kernel_rfl) (by kernel_rfl) (by kernel_rfl) (by kernel_rfl) (by kernel_rfl) (fun _ _ _ h => h) rfl (v := ?_) ?_ ?_
          rotate_left
          · intro w' hw'; first | (refine Eq.trans (xLoad1 (HH.below hw') _ rfl rfl (by first | exact (rfl : _ = some (Value.int _ _)) | exact (rfl : _ = some (Value.slice _ _ _)) | exact (rfl : _ = some (Value.bool _)) | exact (rfl : _ = some (Value.string _)) | exact (rfl : _ = some (Value.pointer _)) | rfl | (simp [List.getElem?_append]; done))) ?_; with_reducible rfl) | (refine Eq.trans (xLoadC _ rfl rfl (cell_below hw' (by assumption))) ?_; with_reducible rfl)
          (try simp only [Act.put, List.setIfInBounds_toArray, List.set_cons_zero, List.set_cons_succ])
          refine takeP 19 rfl (by kernel_rfl) (by kernel_rfl) (by kernel_rfl) (by kernel_rfl) (fun _ _ _ h => h) rfl (v := ?_) ?_ ?_
          rotate_left
          · intro w'; go_simp; (try with_reducible rfl)
          (try simp only [Act.put, List.setIfInBounds_toArray, List.set_cons_zero, List.set_cons_succ])
          refine takeL 20 HS0 rfl (by kernel_rfl) (by kernel_rfl) (by kernel_rfl) (by kernel_rfl) (by kernel_rfl) (fun _ _ _ h => h) rfl (v := ?_) ?_ ?_
          rotate_left
          · intro w' hw'; first | (refine Eq.trans (xLoad1 (HH.below hw') _ rfl rfl (by first | exact (rfl : _ = some (Value.int _ _)) | exact (rfl : _ = some (Value.slice _ _ _)) | exact (rfl : _ = some (Value.bool _)) | exact (rfl : _ = some (Value.string _)) | exact (rfl : _ = some (Value.pointer _)) | rfl | (simp [List.getElem?_append]; done))) ?_; with_reducible rfl) | (refine Eq.trans (xLoadC _ rfl rfl (cell_below hw' (by assumption))) ?_; with_reducible rfl)
          (try simp only [Act.put, List.setIfInBounds_toArray, List.set_cons_zero, List.set_cons_succ])
          refine takeP 21 rfl (by kernel_rfl) (by kernel_rfl) (by kernel_rfl) (by kernel_rfl) (fun _ _ _ h => h) rfl (v := ?_) ?_ ?_
          rotate_left
          · intro w'; go_simp; (try with_reducible rfl)
          (try simp only [Act.put, List.setIfInBounds_toArray, List.set_cons_zero, List.set_cons_succ])
          refine takeP 22 rfl (by kernel_rfl) (by kernel_rfl) (by kernel_rfl) (by kernel_rfl) (fun _ _ _ h => h) rfl (v := ?_) ?_ ?_
          rotate_left
          · intro w'; go_simp; (try with_reducible rfl)
          (try simp only [Act.put, List.setIfInBounds_toArray, List.set_cons_zero, List.set_cons_succ])
          refine stepL 1 rfl (by kernel_rfl) rfl (fun K hK => ?_)
          (go_simp; (with_reducible refine (cT2 _).mono ?_); rintro e w' ⟨rfl, hb⟩; replace H := H.step hb; replace HS0 := below_two HS0 HS0.size hb; clear hb; refine hK.out _ _ (fun _ _ => HS0) ?_; clear K hK)
          (try simp only [Act.put, List.setIfInBounds_toArray, List.set_cons_zero, List.set_cons_succ])
          refine stepL 3 rfl (by kernel_rfl) rfl (fun K hK => ?_)
          (go_simp; (with_reducible refine (cT13 _).mono ?_); rintro e w' ⟨rfl, hb⟩; replace H := H.step hb; replace HS0 := below_two HS0 HS0.size hb; clear hb; refine hK.out _ _ (fun _ _ => HS0) ?_; clear K hK)
          (try simp only [Act.put, List.setIfInBounds_toArray, List.set_cons_zero, List.set_cons_succ])
          refine takeP 4 rfl (by kernel_rfl) (by kernel_rfl) (by kernel_rfl) (by kernel_rfl) (fun _ _ _ h => h) rfl (v := ?_) ?_ ?_
          rotate_left
          · intro w'; go_simp; (try with_reducible rfl)
          (try simp only [Act.put, List.setIfInBounds_toArray, List.set_cons_zero, List.set_cons_succ])
          refine stepL 6 rfl (by kernel_rfl) rfl (fun K hK => ?_)
          (go_simp; (with_reducible refine (cT22 _).mono ?_); rintro e w' ⟨rfl, hb⟩; replace H := H.step hb; replace HS0 := below_two HS0 HS0.size hb; clear hb; refine hK.out _ _ (fun _ _ => HS0) ?_; clear K hK)
          (try simp only [Act.put, List.setIfInBounds_toArray, List.set_cons_zero, List.set_cons_succ])
          refine takeP 7 rfl (by kernel_rfl) (by kernel_rfl) (by kernel_rfl) (by kernel_rfl) (fun _ _ _ h => h) rfl (v := ?_) ?_ ?_
          rotate_left
          · intro w'; go_simp; (try with_reducible rfl)
          (try simp only [Act.put, List.setIfInBounds_toArray, List.set_cons_zero, List.set_cons_succ])
          refine takeP 23 rfl (by kernel_rfl) (by kernel_rfl) (by kernel_rfl) (by kernel_rfl) (fun _ _ _ h => h) rfl (v := ?_) ?_ ?_
          rotate_left
          · intro w'; go_simp; (try with_reducible rfl)
          (try simp only [Act.put, List.setIfInBounds_toArray, List.set_cons_zero, List.set_cons_succ])
          refine takeP 24 rfl (by kernel_rfl) (by kernel_rfl) (by kernel_rfl) (by kernel_rfl) (fun _ _ _ h => h) rfl (v := ?_) ?_ ?_
          rotate_left
          · intro w'; go_simp; (try with_reducible rfl)
          (try simp only [Act.put, List.setIfInBounds_toArray, List.set_cons_zero, List.set_cons_succ])
          refine doneL (by kernel_rfl) ?_
          clear e1 e2
          go_wp2_with (first
            | ((with_reducible refine gDst 187 ?_); refine aBuildC _ _ rfl ((S8.list ⟨z6, qa, qb, qc, z7, qe, qf, qg⟩).map vw) rfl rfl ?_)
            | ((with_reducible refine gSto (.tmp 11) (.tmp 187) ?_); refine aStore H _ _ rfl rfl rfl ⟨by rfl, by rfl⟩ (one_w _) rfl ?_; clear H; intro w' H; (try dsimp only at H))
            | ((with_reducible refine gDst 3 ?_); refine aBox H _ rfl rfl rfl ?_; clear H; intro b3 w3 H)
            | ((with_reducible refine gDst 6 ?_); refine aAlloc H rfl rfl ?_; clear H; intro b6 w6 H)
            | ((with_reducible refine gDst 11 ?_); refine aAlloc H rfl rfl ?_; clear H; intro b11 w11 H)
            | ((with_reducible refine gLoad ?_); first | (refine aLoad1 H _ rfl rfl (by first | exact (rfl : _ = some (Value.int _ _)) | exact (rfl : _ = some (Value.slice _ _ _)) | exact (rfl : _ = some (Value.bool _)) | exact (rfl : _ = some (Value.string _)) | exact (rfl : _ = some (Value.pointer _)) | rfl | (simp [List.getElem?_append]; done)) rfl ?_) | (refine aLoadC _ rfl rfl (by assumption) rfl ?_) | (refine aLoad H _ rfl rfl (by first | exact part_all (by first | rfl | simp []) | (simp only [List.drop_succ_cons, List.drop_zero, List.take_succ_cons, List.take_zero]; rfl) | (simp [List.drop_append, List.take_append]; rfl)) (by first | rfl | simp []) rfl ?_))
            | ((with_reducible refine gStore ?_); (first | (refine aStore H _ _ rfl rfl rfl (by (first | exact ⟨rfl, rfl⟩ | exact ⟨by decide, rfl⟩ | (simp []; done) | (constructor <;> simp [] <;> omega))) (by first | rfl | simp [List.all_append, one_all]) rfl ?_) | (refine aLay H _ _ rfl rfl rfl (by (first | exact ⟨rfl, rfl⟩ | exact ⟨by decide, rfl⟩ | (simp []; done) | (constructor <;> simp [] <;> omega))) (by first | rfl | simp [List.all_append, one_all]) (by simp only [lay, List.take_succ_cons, List.take_zero, List.drop_succ_cons, List.drop_zero, List.nil_append, List.cons_append, List.length_cons, List.length_nil, Nat.zero_add, Nat.reduceAdd]; rfl) rfl ?_)); clear H; intro w' H; try dsimp only at H))
          go_roundw
          case rel => first | exact ⟨t + 1, _, by go_num, by omega, HN.out.symm, H⟩ | exact ⟨_, ⟨t + 1, _, by go_num, by omega, HN.out.symm, H⟩, rfl⟩ | exact ⟨_, _, ⟨t + 1, _, by go_num, by omega, HN.out.symm, H⟩, rfl, rfl⟩ | exact ⟨_, _, _, ⟨t + 1, _, by go_num, by omega, HN.out.symm, H⟩, rfl, rfl, rfl⟩ | exact ⟨_, _, _, _, ⟨t + 1, _, by go_num, by omega, HN.out.symm, H⟩, rfl, rfl, rfl, rfl⟩ | exact ⟨_, _, _, _, _, ⟨t + 1, _, by go_num, by omega, HN.out.symm, H⟩, rfl, rfl, rfl, rfl, rfl⟩ | ((repeat (apply Exists.intro)); exact ⟨⟨t + 1, _, by go_num, by omega, HN.out.symm, H⟩, rfl⟩)
          case measure => simp [intOf] <;> omega
        · obtain rfl : t = 64 := by omega
          go_wp2
          go_loopw [17] (fun v17 wr => relM8 s ⟨qa, qb, qc, qd, qe, qf, qg, qh⟩ blk w b3 b6 b7 b11 v17 wr) (fun v _ => 8 - (intOf v).toNat)
          case atStart => exact ⟨0, rfl, by omega, H⟩
          case round =>
            obtain ⟨i, rfl, hi, HS⟩ := hrel
            clear H
            have H := HS
            clear HS
            by_cases hi8 : i < 8
            · have hii : (i : Int) < 8 := by omega
              obtain ⟨m1, m2, m3⟩ := mixR_step s ⟨qa, qb, qc, qd, qe, qf, qg, qh⟩ i hi8
              have m0 := mixR_len s ⟨qa, qb, qc, qd, qe, qf, qg, qh⟩ i hi
              have c1' := ((H.hold.va (b := b11)).cell i).trans (map_vw_get _ _ _ m2)
              have c2 := ((H.hold.va (b := b3)).cell i).trans (map_vw_get _ _ _ m3)
              have a1 := add32 ((S8.list ⟨qa, qb, qc, qd, qe, qf, qg, qh⟩).getD i 0) (s.list.getD i 0)
              rw [UInt32.add_comm] at a1
              generalize (S8.list ⟨qa, qb, qc, qd, qe, qf, qg, qh⟩).getD i 0 = x at *
              generalize s.list.getD i 0 = y at *
              generalize y + x = z at *
              have hset : ((mixR s ⟨qa, qb, qc, qd, qe, qf, qg, qh⟩ i).map vw).set i (vw z) = (mixR s ⟨qa, qb, qc, qd, qe, qf, qg, qh⟩ (i + 1)).map vw := List.map_set.symm.trans (congrArg (List.map vw) m1)
              have HSET := Lib.hid hset
              have HLEN := Lib.hid m0
              clear hset m0 m1 m2 m3
              go_wp2
              refine startA (fun i => i == 9) (by kernel_rfl) (fun wS hS => ?_)
              replace H := H.drew
              rw [← hS] at H
              have HH := H.hold
              have HS0 : Below wS.heap.size wS wS := Below.refl _ _
              replace c1' := cellS hS c1'
              replace c2 := cellS hS c2
              clear hS
              refine takeP 0 rfl (by kernel_rfl) (by kernel_rfl) (by kernel_rfl) (by kernel_rfl) (fun _ _ _ h => h) rfl (v := ?_) ?_ ?_
              rotate_left
              · intro w'; go_simp; (try with_reducible rfl)
              (try simp only [Act.put, List.setIfInBounds_toArray, List.set_cons_zero, List.set_cons_succ])
              refine takeP 1 rfl (by kernel_rfl) (by kernel_rfl) (by kernel_rfl) (by kernel_rfl) (fun _ _ _ h => h) rfl (v := ?_) ?_ ?_
              rotate_left
              · intro w'; go_simp; (try with_reducible rfl)
              (try simp only [Act.put, List.setIfInBounds_toArray, List.set_cons_zero, List.set_cons_succ])
              refine takeP 2 rfl (by kernel_rfl) (by kernel_rfl) (by kernel_rfl) (by kernel_rfl) (fun _ _ _ h => h) rfl (v := ?_) ?_ ?_
              rotate_left
              · intro w'; go_simp; (try with_reducible rfl)
              (try simp only [Act.put, List.setIfInBounds_toArray, List.set_cons_zero, List.set_cons_succ])
              refine takeL 3 HS0 rfl (by kernel_rfl) (by kernel_rfl) (by kernel_rfl) (by kernel_rfl) (by kernel_rfl) (fun _ _ _ h => h) rfl (v := ?_) ?_ ?_
              rotate_left
              · intro w' hw'; first | (refine Eq.trans (xLoad1 (HH.below hw') _ rfl rfl (by first | exact (rfl : _ = some (Value.int _ _)) | exact (rfl : _ = some (Value.slice _ _ _)) | exact (rfl : _ = some (Value.bool _)) | exact (rfl : _ = some (Value.string _)) | exact (rfl : _ = some (Value.pointer _)) | rfl | (simp [List.getElem?_append]; done))) ?_; with_reducible rfl) | (refine Eq.trans (xLoadC _ rfl rfl (cell_below hw' (by assumption))) ?_; with_reducible rfl)
              (try simp only [Act.put, List.setIfInBounds_toArray, List.set_cons_zero, List.set_cons_succ])
              refine takeP 4 rfl (by kernel_rfl) (by kernel_rfl) (by kernel_rfl) (by kernel_rfl) (fun _ _ _ h => h) rfl (v := ?_) ?_ ?_
              rotate_left
              · intro w'; go_simp; (try with_reducible rfl)
              (try simp only [Act.put, List.setIfInBounds_toArray, List.set_cons_zero, List.set_cons_succ])
              refine takeP 5 rfl (by kernel_rfl) (by kernel_rfl) (by kernel_rfl) (by kernel_rfl) (fun _ _ _ h => h) rfl (v := ?_) ?_ ?_
              rotate_left
              · intro w'; go_simp; (try with_reducible rfl)
              (try simp only [Act.put, List.setIfInBounds_toArray, List.set_cons_zero, List.set_cons_succ])
              refine takeL 6 HS0 rfl (by kernel_rfl) (by kernel_rfl) (by kernel_rfl) (by kernel_rfl) (by kernel_rfl) (fun _ _ _ h => h) rfl (v := ?_) ?_ ?_
              rotate_left
              · intro w' hw'; first | (refine Eq.trans (xLoad1 (HH.below hw') _ rfl rfl (by first | exact (rfl : _ = some (Value.int _ _)) | exact (rfl : _ = some (Value.slice _ _ _)) | exact (rfl : _ = some (Value.bool _)) | exact (rfl : _ = some (Value.string _)) | exact (rfl : _ = some (Value.pointer _)) | rfl | (simp [List.getElem?_append]; done))) ?_; with_reducible rfl) | (refine Eq.trans (xLoadC _ rfl rfl (cell_below hw' (by assumption))) ?_; with_reducible rfl)
              (try simp only [Act.put, List.setIfInBounds_toArray, List.set_cons_zero, List.set_cons_succ])
              refine takeP 7 rfl (by kernel_rfl) (by kernel_rfl) (by kernel_rfl) (by kernel_rfl) (fun _ _ _ h => h) rfl (v := ?_) ?_ ?_
              rotate_left
              · intro w'; go_simp; (try with_reducible rfl)
              (try simp only [Act.put, List.setIfInBounds_toArray, List.set_cons_zero, List.set_cons_succ])
              refine takeP 8 rfl (by kernel_rfl) (by kernel_rfl) (by kernel_rfl) (by kernel_rfl) (fun _ _ _ h => h) rfl (v := ?_) ?_ ?_
              rotate_left
              · intro w'; go_simp; (try with_reducible rfl)
              (try simp only [Act.put, List.setIfInBounds_toArray, List.set_cons_zero, List.set_cons_succ])
              refine stepL 9 rfl (by kernel_rfl) rfl (fun K hK => ?_)
              (refine oCellA (v := vw z) (new := (mixR s ⟨qa, qb, qc, qd, qe, qf, qg, qh⟩ (i + 1)).map vw) H _ _ rfl rfl rfl rfl rfl (by rw [List.length_map, HLEN.out]; exact hi8) HSET.out ?_; clear H; intro w' H; (try dsimp only at H); refine hK.out _ _ (fun h => by cases h) ?_; clear K hK HS0)
              (try simp only [Act.put, List.setIfInBounds_toArray, List.set_cons_zero, List.set_cons_succ])
              refine doneL (by kernel_rfl) ?_
              go_wp2
              go_roundw
              case rel => first | exact ⟨i + 1, by go_num, by omega, H⟩ | exact ⟨_, ⟨i + 1, by go_num, by omega, H⟩, rfl⟩ | exact ⟨_, _, ⟨i + 1, by go_num, by omega, H⟩, rfl, rfl⟩ | exact ⟨_, _, _, ⟨i + 1, by go_num, by omega, H⟩, rfl, rfl, rfl⟩ | exact ⟨_, _, _, _, ⟨i + 1, by go_num, by omega, H⟩, rfl, rfl, rfl, rfl⟩ | exact ⟨_, _, _, _, _, ⟨i + 1, by go_num, by omega, H⟩, rfl, rfl, rfl, rfl, rfl⟩ | ((repeat (apply Exists.intro)); exact ⟨⟨i + 1, by go_num, by omega, H⟩, rfl⟩)
              case measure => simp [intOf] <;> omega
            · obtain rfl : i = 8 := by omega
              have hcomp : mixR s ⟨qa, qb, qc, qd, qe, qf, qg, qh⟩ 8 = (compB s blk).list := by rw [compB, ← HQ.out]; rfl
              rw [hcomp] at H
              go_wp2_with (first
                | ((with_reducible refine gDst 201 ?_); refine aLoad H _ rfl rfl (part_all (S8.len _)) (S8.len _) rfl ?_)
                | ((with_reducible refine gSto (.tmp 6) (.tmp 201) ?_); refine aStore H _ _ rfl rfl rfl ⟨by rfl, S8.len _⟩ (one_w _) rfl ?_; clear H; intro w' H; (try dsimp only at H)))
              refine bodyPost_ret (res_cell rfl _ H.hold rfl (by exact S8.len _)) rfl ?_
              exact ⟨rfl, H.below⟩
end Go.Proofs.YtbglebchnlfklaaDoor

namespace Go.Proofs.YtbglebchnlfklaaDoor
set_option maxRecDepth 100000
open Go.RowKit
set_option linter.unusedSimpArgs false
set_option linter.unusedVariables false

theorem S8.word (s : S8) (p : Nat) (h : p < 8) : (s.list.map vw)[p]? = some (vw (s.list.getD p 0)) := by
  rcases p with _ | _ | _ | _ | _ | _ | _ | _ | p
  all_goals first | rfl | omega
def relRS (xs : List UInt8) (vk vp : Value) (w : World) (b2 b3 : Nat) (v6 : Value) (wr : World) : Prop := ∃ (i u : Nat), v6 = .int .i64 (u : Int) ∧ Hid (u = 64 * i) ∧ u ≤ (padL xs).length ∧ SH Nil w wr [.row B8 vp (padL xs), .row U32T vk kL, .blk b3 178 ((foldB (padL xs) i).list.map vw), .blk b2 22 (List.replicate 32 (.int .u8 0))]
def relRO (xs : List UInt8) (s : S8) (vk vp : Value) (w : World) (b2 b3 b7 : Nat) (v8 : Value) (wr : World) : Prop := ∃ (i : Nat), v8 = .int .i64 (i : Int) ∧ i ≤ 32 ∧ SH Nil w wr [.blk b7 22 (outC s i), .row B8 vp (padL xs), .row U32T vk kL, .blk b3 178 (s.list.map vw), .blk b2 22 (List.replicate 32 (.int .u8 0))]
set_option maxHeartbeats 3200000 in
theorem rSum_any (v : Value) (xs : List UInt8) (w : World) (hv : RB w v xs) (hl : xs.length ≤ 500000000) :
    Calls Tryd.prog 82 #[v] w fun e w' => e = .returned (.agg ((shaL xs).map cb).toArray) ∧ Below w.heap.size w w' := by
  have H := SH.start Nil w
  have RO := HOLD.rdOne hv
  have HSL := Lib.hid (fun s => S8.len s)
  have HSO := Lib.hid (fun s : S8 => (one_w s.list : ((s.list.map vw).all fun u => u.oneCell') = true))
  have hpad := fun W (h : RB W v xs) => padded_any v xs W h hl
  obtain ⟨A0, c0, rfl, -⟩ := hv.len
  have hpl : (padL xs).length ≤ 500000200 ∧ (padL xs).length % 64 = 0 := ⟨by simp only [padL, be8, List.length_append, List.length_replicate, List.length_map, List.length_range, List.length_singleton]; omega, padL_len xs⟩
  obtain ⟨hp1, hp2⟩ := hpl
  obtain ⟨n, hn⟩ : ∃ n, n = (padL xs).length := ⟨_, rfl⟩
  rw [← hn] at hp1 hp2 hpad
  have HPAD := Lib.hid hpad
  have HN := Lib.hid hn
  clear hn hv hpad
  go_enter Tryd.func82, Tryd.ntmps82
  go_wp2_with (first
    | (go_at_call 107; refine (start_any _).mono ?_; rintro e w' ⟨rfl, hb⟩; replace H := H.step hb; clear hb)
    | (go_at_call 108; refine (rsteps_any _).mono ?_; rintro e w' ⟨Ak, ck, rfl, ho, hb⟩; replace H := H.pushRow hb ho; clear hb ho)
    | (go_at_call 109; refine (HPAD.out _ ((H.old RO).rd (.slice A0 xs.length c0))).mono ?_; rintro e w' ⟨Ap, cp, rfl, ho, hb⟩; replace H := H.pushRow hb ho; clear hb ho)
    | ((with_reducible refine gSto (.tmp 3) (.tmp 9) ?_); refine aStore H _ _ rfl rfl rfl ⟨by rfl, HSL.out _⟩ (HSO.out _) rfl ?_; clear H; intro w' H; (try dsimp only at H))
    | ((with_reducible refine gDst 2 ?_); refine aAlloc H rfl rfl ?_; clear H; intro b2 w2 H)
    | ((with_reducible refine gDst 3 ?_); refine aAlloc H rfl rfl ?_; clear H; intro b3 w3 H)
    | ((with_reducible refine gDst 7 ?_); refine aAlloc H rfl rfl ?_; clear H; intro b7 w7 H)
    | ((with_reducible refine gLoad ?_); first | (refine aLoad1 H _ rfl rfl (by first | exact (rfl : _ = some (Value.int _ _)) | exact (rfl : _ = some (Value.slice _ _ _)) | exact (rfl : _ = some (Value.bool _)) | exact (rfl : _ = some (Value.string _)) | exact (rfl : _ = some (Value.pointer _)) | rfl | (simp [List.getElem?_append]; done)) rfl ?_) | (refine aLoadC _ rfl rfl (by assumption) rfl ?_) | (refine aLoad H _ rfl rfl (by first | exact part_all (by first | rfl | simp []) | (simp only [List.drop_succ_cons, List.drop_zero, List.take_succ_cons, List.take_zero]; rfl) | (simp [List.drop_append, List.take_append]; rfl)) (by first | rfl | simp []) rfl ?_))
    | ((with_reducible refine gBuild ?_); refine aZero rfl rfl ?_)
    | ((with_reducible refine gStore ?_); (first | (refine aCell H _ _ rfl rfl (by first | exact (rfl : _ = Value.int _ _) | exact (rfl : _ = Value.bool _) | exact (rfl : _ = Value.slice _ _ _) | exact (rfl : _ = Value.string _) | exact (rfl : _ = Value.pointer _) | exact (rfl : _ = Value.func _ _ _) | rfl) (by rfl) (by rfl) (by first | exact of_decide_eq_true rfl | (simp []; done) | (simp []; omega)) (by first | (simp only [List.set_cons_zero, List.set_cons_succ]; rfl) | (simp [List.set_append]; rfl)) rfl ?_) | (refine aStore H _ _ rfl rfl rfl (by (first | exact ⟨rfl, rfl⟩ | exact ⟨by decide, rfl⟩ | (simp []; done) | (constructor <;> simp [] <;> omega))) (by first | rfl | simp [List.all_append, one_all]) rfl ?_) | (refine aLay H _ _ rfl rfl rfl (by (first | exact ⟨rfl, rfl⟩ | exact ⟨by decide, rfl⟩ | (simp []; done) | (constructor <;> simp [] <;> omega))) (by first | rfl | simp [List.all_append, one_all]) (by simp only [lay, List.take_succ_cons, List.take_zero, List.drop_succ_cons, List.drop_zero, List.nil_append, List.cons_append, List.length_cons, List.length_nil, Nat.zero_add, Nat.reduceAdd]; rfl) rfl ?_)); clear H; intro w' H; try dsimp only at H))
  go_loopw [6] (fun v6 wr => relRS xs (.slice Ak 64 ck) (.slice Ap n cp) w b2 b3 v6 wr) (fun v _ => n - (intOf v).toNat)
  case atStart => exact ⟨0, 0, rfl, rfl, by omega, H⟩
  case round =>
    obtain ⟨i, u, rfl, HU, hu, HS⟩ := hrel
    clear H
    have H := HS
    clear HS
    rw [← HN.out] at hu
    have hmod := HU.out
    by_cases hlt : u < n
    · have hui : (u : Int) < (n : Int) := by omega
      obtain ⟨e, he⟩ : ∃ e, e = u + 64 := ⟨_, rfl⟩
      have hen : e ≤ n := by omega
      have hcp : n ≤ cp := by obtain ⟨_, _, hx, h⟩ := (H.hold.rr (.slice Ap n cp)).len; injection hx with _ _ h3; have := HN.out; omega
      obtain ⟨A1, s1, -, -, s4⟩ := cutB Ap cp (padL xs) u e (by omega) (by rw [← HN.out]; exact hen) (by rw [← HN.out]; exact hcp)
      rw [← HN.out] at s1 s4
      have heu : e - u = 64 := by omega
      rw [heu] at s1 s4
      have hue : (u : Int) + 64 = (e : Int) := by omega
      have hew : IntKind.i64.wrap (e : Int) = (e : Int) := i64w _ (by omega) (by omega)
      have hcut : ((padL xs).take e).drop u = ((padL xs).drop (64 * i)).take 64 := by rw [List.drop_take, heu, hmod]
      rw [hcut] at s4
      have hlb : (((padL xs).drop (64 * i)).take 64).length = 64 := by rw [List.length_take, List.length_drop, ← HN.out]; omega
      have cB := fun W (h1 : RB W (.slice A1 64 (cp - u)) (((padL xs).drop (64 * i)).take 64)) (h2 : RR U32T W (.slice Ak 64 ck) kL) => rblock_any (foldB (padL xs) i) _ (.slice A1 64 (cp - u)) (.slice Ak 64 ck) W hlb h1 h2
      have hnx : compB (foldB (padL xs) i) (((padL xs).drop (64 * i)).take 64) = foldB (padL xs) (i + 1) := rfl
      rw [hnx] at cB
      have HB2 := Lib.hid cB
      have S4 := Lib.hid s4
      have hue2 : e = 64 * (i + 1) := by omega
      have HE := Lib.hid hue2
      clear cB s4 hnx hlb hcut heu hmod hue2 he
      generalize foldB (padL xs) i = q at *
      generalize hq2 : foldB (padL xs) (i + 1) = q2 at *
      have HQ2 := Lib.hid hq2
      clear hq2
      go_wp2
      refine startA (fun i => i == 8) (by kernel_rfl) (fun wS hS => ?_)
      replace H := H.drew
      rw [← hS] at H
      have HH := H.hold
      have HS0 : Below wS.heap.size wS wS := Below.refl _ _
      clear hS
      refine takeL 0 HS0 rfl (by kernel_rfl) (by kernel_rfl) (by kernel_rfl) (by kernel_rfl) (by kernel_rfl) (fun _ _ _ h => h) rfl (v := ?_) ?_ ?_
      rotate_left
      · intro w' hw'; refine Eq.trans (xLoad (HH.below hw') _ rfl rfl (part_all (HSL.out _)) (HSL.out _)) ?_; with_reducible rfl
      (try simp only [Act.put, List.setIfInBounds_toArray, List.set_cons_zero, List.set_cons_succ])
      refine takeP 1 rfl (by kernel_rfl) (by kernel_rfl) (by kernel_rfl) (by kernel_rfl) (fun _ _ _ h => h) rfl (v := ?_) ?_ ?_
      rotate_left
      · intro w'; go_simp; (try with_reducible rfl)
      (try simp only [Act.put, List.setIfInBounds_toArray, List.set_cons_zero, List.set_cons_succ])
      refine takeP 2 rfl (by kernel_rfl) (by kernel_rfl) (by kernel_rfl) (by kernel_rfl) (fun _ _ _ h => h) rfl (v := ?_) ?_ ?_
      rotate_left
      · intro w'; go_simp; (try with_reducible rfl)
      (try simp only [Act.put, List.setIfInBounds_toArray, List.set_cons_zero, List.set_cons_succ])
      refine takeP 3 rfl (by kernel_rfl) (by kernel_rfl) (by kernel_rfl) (by kernel_rfl) (fun _ _ _ h => h) rfl (v := ?_) ?_ ?_
      rotate_left
      · intro w'; go_simp; (try with_reducible rfl)
      (try simp only [Act.put, List.setIfInBounds_toArray, List.set_cons_zero, List.set_cons_succ])
      refine takeP 4 rfl (by kernel_rfl) (by kernel_rfl) (by kernel_rfl) (by kernel_rfl) (fun _ _ _ h => h) rfl (v := ?_) ?_ ?_
      rotate_left
      · intro w'; go_simp; (try with_reducible rfl)
      (try simp only [Act.put, List.setIfInBounds_toArray, List.set_cons_zero, List.set_cons_succ])
      refine takeP 5 rfl (by kernel_rfl) (by kernel_rfl) (by kernel_rfl) (by kernel_rfl) (fun _ _ _ h => h) rfl (v := ?_) ?_ ?_
      rotate_left
      · intro w'; go_simp; (try with_reducible rfl)
      (try simp only [Act.put, List.setIfInBounds_toArray, List.set_cons_zero, List.set_cons_succ])
      refine takeP 6 rfl (by kernel_rfl) (by kernel_rfl) (by kernel_rfl) (by kernel_rfl) (fun _ _ _ h => h) rfl (v := ?_) ?_ ?_
      rotate_left
      · intro w'; go_simp; (try with_reducible rfl)
      (try simp only [Act.put, List.setIfInBounds_toArray, List.set_cons_zero, List.set_cons_succ])
      refine stepL 7 rfl (by kernel_rfl) rfl (fun K hK => ?_)
      (go_simp; (with_reducible refine ((HB2.out _ (S4.out _ (H.hold.rr _)) (H.hold.rr _))).mono ?_); rintro e w' ⟨rfl, hb⟩; replace H := H.step hb; replace HS0 := below_two HS0 HS0.size hb; clear hb; refine hK.out _ _ (fun _ _ => HS0) ?_; clear K hK)
      (try simp only [Act.put, List.setIfInBounds_toArray, List.set_cons_zero, List.set_cons_succ])
      refine stepL 8 rfl (by kernel_rfl) rfl (fun K hK => ?_)
      (refine oStore H _ _ rfl rfl rfl ⟨by rfl, HSL.out _⟩ (HSO.out _) ?_; clear H; intro w' H; (try dsimp only at H); refine hK.out _ _ (fun h => by cases h) ?_; clear K hK HS0)
      (try simp only [Act.put, List.setIfInBounds_toArray, List.set_cons_zero, List.set_cons_succ])
      refine doneL (by kernel_rfl) ?_
      go_wp2
      go_roundw
      rw [← HQ2.out] at H
      case rel => first | exact ⟨i + 1, e, by first | rfl | go_num, HE.out, by rw [← HN.out]; exact hen, H⟩ | exact ⟨_, ⟨i + 1, e, by first | rfl | go_num, HE.out, by rw [← HN.out]; exact hen, H⟩, rfl⟩ | exact ⟨_, _, ⟨i + 1, e, by first | rfl | go_num, HE.out, by rw [← HN.out]; exact hen, H⟩, rfl, rfl⟩ | exact ⟨_, _, _, ⟨i + 1, e, by first | rfl | go_num, HE.out, by rw [← HN.out]; exact hen, H⟩, rfl, rfl, rfl⟩ | exact ⟨_, _, _, _, ⟨i + 1, e, by first | rfl | go_num, HE.out, by rw [← HN.out]; exact hen, H⟩, rfl, rfl, rfl, rfl⟩ | exact ⟨_, _, _, _, _, ⟨i + 1, e, by first | rfl | go_num, HE.out, by rw [← HN.out]; exact hen, H⟩, rfl, rfl, rfl, rfl, rfl⟩ | ((repeat (apply Exists.intro)); exact ⟨⟨i + 1, e, by first | rfl | go_num, HE.out, by rw [← HN.out]; exact hen, H⟩, rfl⟩)
      case measure => simp [intOf] <;> omega
    · obtain rfl : u = n := by omega
      have hsha : shaL xs = outB (foldB (padL xs) i) := by rw [shaL, ← HN.out, show u / 64 = i by omega]
      have HSHA := Lib.hid hsha
      clear hsha
      generalize foldB (padL xs) i = q2 at *
      go_wp2_with (first
        | ((with_reducible refine gDst 2 ?_); refine aAlloc H rfl rfl ?_; clear H; intro b2 w2 H)
        | ((with_reducible refine gDst 3 ?_); refine aAlloc H rfl rfl ?_; clear H; intro b3 w3 H)
        | ((with_reducible refine gDst 7 ?_); refine aAlloc H rfl rfl ?_; clear H; intro b7 w7 H)
        | ((with_reducible refine gLoad ?_); first | (refine aLoad1 H _ rfl rfl (by first | exact (rfl : _ = some (Value.int _ _)) | exact (rfl : _ = some (Value.slice _ _ _)) | exact (rfl : _ = some (Value.bool _)) | exact (rfl : _ = some (Value.string _)) | exact (rfl : _ = some (Value.pointer _)) | rfl | (simp [List.getElem?_append]; done)) rfl ?_) | (refine aLoadC _ rfl rfl (by assumption) rfl ?_) | (refine aLoad H _ rfl rfl (by first | exact part_all (by first | rfl | simp []) | (simp only [List.drop_succ_cons, List.drop_zero, List.take_succ_cons, List.take_zero]; rfl) | (simp [List.drop_append, List.take_append]; rfl)) (by first | rfl | simp []) rfl ?_))
        | ((with_reducible refine gBuild ?_); refine aZero rfl rfl ?_)
        | ((with_reducible refine gStore ?_); (first | (refine aCell H _ _ rfl rfl (by first | exact (rfl : _ = Value.int _ _) | exact (rfl : _ = Value.bool _) | exact (rfl : _ = Value.slice _ _ _) | exact (rfl : _ = Value.string _) | exact (rfl : _ = Value.pointer _) | exact (rfl : _ = Value.func _ _ _) | rfl) (by rfl) (by rfl) (by first | exact of_decide_eq_true rfl | (simp []; done) | (simp []; omega)) (by first | (simp only [List.set_cons_zero, List.set_cons_succ]; rfl) | (simp [List.set_append]; rfl)) rfl ?_) | (refine aStore H _ _ rfl rfl rfl (by (first | exact ⟨rfl, rfl⟩ | exact ⟨by decide, rfl⟩ | (simp []; done) | (constructor <;> simp [] <;> omega))) (by first | rfl | simp [List.all_append, one_all]) rfl ?_) | (refine aLay H _ _ rfl rfl rfl (by (first | exact ⟨rfl, rfl⟩ | exact ⟨by decide, rfl⟩ | (simp []; done) | (constructor <;> simp [] <;> omega))) (by first | rfl | simp [List.all_append, one_all]) (by simp only [lay, List.take_succ_cons, List.take_zero, List.drop_succ_cons, List.drop_zero, List.nil_append, List.cons_append, List.length_cons, List.length_nil, Nat.zero_add, Nat.reduceAdd]; rfl) rfl ?_)); clear H; intro w' H; try dsimp only at H))
      go_loopw [8] (fun v8 wr => relRO xs q2 (.slice Ak 64 ck) (.slice Ap u cp) w b2 b3 b7 v8 wr) (fun v _ => 32 - (intOf v).toNat)
      case atStart => exact ⟨0, rfl, by omega, by rw [outC_zero]; exact H⟩
      case round =>
        obtain ⟨i, rfl, hi, HS⟩ := hrel
        clear H
        have H := HS
        clear HS
        by_cases hi32 : i < 32
        · have hii : (i : Int) < 32 := by omega
          have hw := ((H.hold.va (b := b3)).cell (i / 4)).trans (q2.word (i / 4) (by omega))
          have hstep := outC_step q2 i hi32
          have hlen := outC_len q2 i hi
          have hq : (i : Int).tdiv 4 = ((i / 4 : Nat) : Int) := by rw [Int.tdiv_eq_ediv_of_nonneg (by omega)]; push_cast; rfl
          have hm : (i : Int).tmod 4 = ((i % 4 : Nat) : Int) := by rw [Int.tmod_eq_emod_of_nonneg (by omega)]; push_cast; rfl
          have hql : i / 4 < 8 := by omega
          have hrl : i % 4 < 4 := by omega
          have hrj : (24 : Int) - 8 * ((i % 4 : Nat) : Int) = ((24 - 8 * (i % 4) : Nat) : Int) := by omega
          have hje : 24 - 8 * (i % 4) = 8 * (3 - i % 4) := by omega
          have hr : ((q2.list.getD (i / 4) 0).toNat : Int) / 2 ^ (24 - 8 * (i % 4)) = (((q2.list.getD (i / 4) 0).toNat / 256 ^ (3 - i % 4) : Nat) : Int) := by rw [hje, ← pow8]; push_cast; rfl
          have hjl : 24 - 8 * (i % 4) ≤ 24 := by omega
          generalize 24 - 8 * (i % 4) = j at *
          have hx : IntKind.u8.wrap (((q2.list.getD (i / 4) 0).toNat / 256 ^ (3 - i % 4) : Nat) : Int) = ((UInt8.ofNat ((q2.list.getD (i / 4) 0).toNat / 256 ^ (3 - i % 4))).toNat : Int) := by rw [IntKind.wrap_u8, UInt8.toNat_ofNat']; omega
          generalize (q2.list.getD (i / 4) 0).toNat / 256 ^ (3 - i % 4) = q at *
          generalize UInt8.ofNat q = x at *
          have hxq : (q : Int) % 256 = (x.toNat : Int) := by rw [← hx, IntKind.wrap_u8]
          generalize q2.list.getD (i / 4) 0 = y at *
          generalize i / 4 = p at *
          generalize i % 4 = r at *
          have hjb : (j : Int) ≤ 24 := by omega
          have hpb : (p : Int) < 8 := by omega
          have hrb : (r : Int) < 4 := by omega
          have hpw : IntKind.i64.wrap (p : Int) = (p : Int) := i64w _ (by omega) (by omega)
          have hrw : IntKind.i64.wrap (8 * (r : Int)) = 8 * (r : Int) := i64w _ (by omega) (by omega)
          have hju : IntKind.u64.wrap (j : Int) = (j : Int) := by rw [IntKind.wrap_u64]; omega
          have HSTEP := Lib.hid hstep
          have HLEN := Lib.hid hlen
          clear hstep hlen hje
          go_wp2_with (first
            | ((with_reducible refine gDst 36 ?_); refine aLoadC _ rfl rfl hw rfl ?_)
            | ((with_reducible refine gSto (.tmp 44) (.tmp 43) ?_); refine aCell (v := cb x) (new := outC q2 (i + 1)) H _ _ rfl rfl rfl rfl rfl (by rw [HLEN.out]; omega) HSTEP.out rfl ?_; clear H hw; intro w' H; (try dsimp only at H)))
          go_roundw
          case rel => first | exact ⟨i + 1, by go_num, by omega, H⟩ | exact ⟨_, ⟨i + 1, by go_num, by omega, H⟩, rfl⟩ | exact ⟨_, _, ⟨i + 1, by go_num, by omega, H⟩, rfl, rfl⟩ | exact ⟨_, _, _, ⟨i + 1, by go_num, by omega, H⟩, rfl, rfl, rfl⟩ | exact ⟨_, _, _, _, ⟨i + 1, by go_num, by omega, H⟩, rfl, rfl, rfl, rfl⟩ | exact ⟨_, _, _, _, _, ⟨i + 1, by go_num, by omega, H⟩, rfl, rfl, rfl, rfl, rfl⟩ | ((repeat (apply Exists.intro)); exact ⟨⟨i + 1, by go_num, by omega, H⟩, rfl⟩)
          case measure => simp [intOf] <;> omega
        · obtain rfl : i = 32 := by omega
          rw [outC_full] at H
          have hl32 : ((outB q2).map cb).length = 32 := by rw [List.length_map, outB_len]
          go_wp2_with (first
            | ((with_reducible refine gDst 45 ?_); refine aLoad H _ rfl rfl (part_all hl32) hl32 rfl ?_)
            | ((with_reducible refine gSto (.tmp 2) (.tmp 45) ?_); refine aStore H _ _ rfl rfl rfl ⟨by rfl, hl32⟩ (one_all _) rfl ?_; clear H; intro w' H; (try dsimp only at H)))
          refine bodyPost_ret (res_cell rfl _ H.hold rfl (by exact hl32)) rfl ?_
          exact ⟨by rw [HSHA.out], H.below⟩
end Go.Proofs.YtbglebchnlfklaaDoor

namespace Go.Proofs.YtbglebchnlfklaaDoor
set_option maxRecDepth 100000
open Go.RowKit
set_option linter.unusedSimpArgs false
set_option linter.unusedVariables false

theorem OR.low {α : Type} {T : Ty α} {w : World} {b b' : Nat} {v : Value} {xs : List α} (h : OR T w b v xs) (hb : b' ≤ b) : OR T w b' v xs := by
  obtain ⟨h1, h2⟩ := h
  refine ⟨h1, ?_⟩
  rcases h2 with h2 | ⟨g, cap, cur, e, h3, h4⟩
  · exact .inl h2
  · exact .inr ⟨g, cap, cur, e, Nat.le_trans hb h3, h4⟩
def relHN (n : Nat) (w : World) (b2 : Nat) (v3 : Value) (wr : World) : Prop := ∃ (k u : Nat), v3 = .int .i64 (u : Int) ∧ Hid (u = 2 ^ k) ∧ u < n ∧ SH Nil w wr [.blk b2 22 (List.replicate 32 (.int .u8 0))]
end Go.Proofs.YtbglebchnlfklaaDoor

namespace Go.Proofs.YtbglebchnlfklaaDoor
set_option maxRecDepth 100000
open Go.RowKit
set_option linter.unusedSimpArgs false
set_option linter.unusedVariables false

theorem h32_guard : Tryd.prog.eqGuardType Tryd.prog.depth 22 = false := by kernel_rfl
theorem h32_eql (x y : List UInt8) (hx : x.length = 32) (hy : y.length = 32) (w : World) : (binOp .eql 22 (.agg (x.map cb).toArray) (.agg (y.map cb).toArray)).run Tryd.prog w = .ok (.bool (x == y)) w := by
  rw [run_eql_struct]
  have h := eqHash.eqs 9998 w ⟨x, hx⟩ ⟨y, hy⟩
  simp only [zip_u8 x y (by rw [hx, hy])] at h
  rw [flatMap_one, flatMap_one] at h
  rw [h]
  rfl
def blankL : List UInt8 := shaL (List.replicate 256 0)
theorem blankL_len : blankL.length = 32 := shaL_len _
set_option maxHeartbeats 1600000 in
theorem Blank_any (w : World) : Calls Tryd.prog 44 #[] w fun e w' => e = .returned (.agg (blankL.map cb).toArray) ∧ Below w.heap.size w w' := by
  have H := SH.start Nil w
  have HS := Lib.hid (fun v W (h : RB W v (List.replicate 256 0)) => Sum_any v _ W h (by simp))
  rw [← blankL] at HS
  have HL := Lib.hid (show (blankL.map cb).length = 32 by rw [List.length_map, blankL_len])
  go_enter Tryd.func44, Tryd.ntmps44
  go_wp2_with (first
    | ((with_reducible refine gDst 1 ?_); refine aMakeB 256 (by decide) H _ _ rfl rfl rfl rfl ?_; clear H; intro b1 w1 H; (try dsimp only at H))
    | (go_at_call 24; refine (HS.out _ _ (H.hold.rr (.slice (some ⟨b1, 0, none⟩) 256 256))).mono ?_; rintro e w' ⟨rfl, hb⟩; replace H := H.step hb; clear hb)
    | ((with_reducible refine gSto (.tmp 0) (.tmp 2) ?_); refine aStore H _ _ rfl rfl rfl ⟨by rfl, HL.out⟩ (one_all _) rfl ?_; clear H; intro w' H; (try dsimp only at H))
    | ((with_reducible refine gDst 0 ?_); refine aAlloc H rfl rfl ?_; clear H; intro b0 w0 H)
    | ((with_reducible refine gStore ?_); (first | (refine aStore H _ _ rfl rfl rfl (by (first | exact ⟨rfl, rfl⟩ | exact ⟨by decide, rfl⟩ | (simp []; done) | (constructor <;> simp [] <;> omega))) (by first | rfl | simp [List.all_append, one_all]) rfl ?_) | (refine aLay H _ _ rfl rfl rfl (by (first | exact ⟨rfl, rfl⟩ | exact ⟨by decide, rfl⟩ | (simp []; done) | (constructor <;> simp [] <;> omega))) (by first | rfl | simp [List.all_append, one_all]) (by simp only [lay, List.take_succ_cons, List.take_zero, List.drop_succ_cons, List.drop_zero, List.nil_append, List.cons_append, List.length_cons, List.length_nil, Nat.zero_add, Nat.reduceAdd]; rfl) rfl ?_)); clear H; intro w' H; try dsimp only at H))
  refine bodyPost_ret (res_cell rfl _ H.hold rfl (by exact HL.out)) rfl ?_
  exact ⟨rfl, H.below⟩
/-- A manifest as it is filled. -/
def mkL (bl : List UInt8) (i : Nat) : List Value := ((List.replicate i bl).flatten ++ List.replicate ((16 - i) * 32) 0).map cb
theorem repl_len (bl : List UInt8) (hb : bl.length = 32) (i : Nat) : (List.replicate i bl).flatten.length = i * 32 := by
  induction i with
  | zero => rfl
  | succ i ih => rw [List.replicate_succ, List.flatten_cons, List.length_append, ih, hb]; omega
theorem mkL_len (bl : List UInt8) (hb : bl.length = 32) (i : Nat) (hi : i ≤ 16) : (mkL bl i).length = 512 := by
  rw [mkL, List.length_map, List.length_append, repl_len bl hb, List.length_replicate]; omega
theorem mkL_lay (bl v : List UInt8) (hb : bl.length = 32) (hv : v.length = 32) (i : Nat) (hi : i < 16) : lay (mkL bl i) (i * 32) (v.map cb) = ((List.replicate i bl).flatten ++ v ++ List.replicate ((16 - (i + 1)) * 32) 0).map cb := by
  have h1 := repl_len bl hb i
  rw [lay, mkL, ← List.map_take, ← List.map_drop, List.take_left' h1, ← List.map_append, List.length_map, hv, ← List.drop_drop, List.drop_left' h1, List.drop_replicate, ← List.map_append]
  congr 4
  omega
theorem mkL_same (bl : List UInt8) (hb : bl.length = 32) (i : Nat) (hi : i < 16) : lay (mkL bl i) (i * 32) ((List.replicate 32 (0 : UInt8)).map cb) = mkL bl i := by
  rw [mkL_lay bl _ hb (by simp) i hi, mkL, List.append_assoc, List.replicate_append_replicate]
  congr 3
  omega
theorem mkL_next (bl : List UInt8) (hb : bl.length = 32) (i : Nat) (hi : i < 16) : lay (mkL bl i) (i * 32) (bl.map cb) = mkL bl (i + 1) := by
  rw [mkL_lay bl _ hb hb i hi, mkL, List.replicate_succ', List.flatten_append]
  simp
section
variable {bk bd : Nat} {ad : Addr} {n : Nat} {mp : Value} {txg : Int} {on : List UInt8}
def relMk (w : World) (b3 b4 b6 b7 : Nat) (v12 : Value) (wr : World) : Prop := ∃ i : Nat, v12 = .int .i64 (i : Int) ∧ i ≤ 16 ∧ SH Nil w wr [.blk b7 22 (blankL.map cb), .blk b6 23 (mkL blankL i), .blk b4 23 (List.replicate 512 (.int .u8 0)), .blk b3 39 PT.hole.cells]
set_option maxHeartbeats 1600000 in
theorem Make_hole (w : World) (h : DBk w bk bd ad n mp txg on) : Calls Tryd.prog 42 #[.pointer (some ⟨bk, 0, none⟩), .agg PT.hole.cells.toArray] w fun e w' => e = .returned (.tuple #[.agg (mkL blankL 16).toArray, .int .i64 0]) ∧ Below w.heap.size w w' := by
  have H := SH.start Nil w
  have HP := Lib.hid (fun W i hi (k : DBk W bk bd ad n mp txg on) => Find_hole W i hi k)
  have HD := Lib.hid h
  have HL := Lib.hid (show (blankL.map cb).length = 32 by rw [List.length_map, blankL_len])
  have hz : (List.replicate 512 (Value.int .u8 0)) = mkL blankL 0 := by simp [mkL, cb]
  have HZ := Lib.hid hz
  clear h hz
  go_enter Tryd.func42, Tryd.ntmps42
  go_wp2_with (first
    | (go_at_call 44; refine (Blank_any _).mono ?_; rintro e w' ⟨rfl, hb⟩; replace H := H.step hb; clear hb)
    | ((with_reducible refine gSto (.tmp 7) (.tmp 11) ?_); refine aStore H _ _ rfl rfl rfl ⟨by rfl, HL.out⟩ (one_all _) rfl ?_; clear H; intro w' H; (try dsimp only at H))
    | ((with_reducible refine gDst 3 ?_); refine aBox H _ rfl rfl rfl ?_; clear H; intro b3 w3 H)
    | ((with_reducible refine gDst 4 ?_); refine aAlloc H rfl rfl ?_; clear H; intro b4 w4 H)
    | ((with_reducible refine gDst 6 ?_); refine aAlloc H rfl rfl ?_; clear H; intro b6 w6 H)
    | ((with_reducible refine gDst 7 ?_); refine aAlloc H rfl rfl ?_; clear H; intro b7 w7 H)
    | ((with_reducible refine gDst 9 ?_); refine aAlloc H rfl rfl ?_; clear H; intro b9 w9 H)
    | ((with_reducible refine gLoad ?_); first | (refine aLoad H _ rfl rfl (by first | exact part_all (by first | rfl | simp []) | (simp only [List.drop_succ_cons, List.drop_zero, List.take_succ_cons, List.take_zero]; rfl) | (simp [List.drop_append, List.take_append]; rfl)) (by first | rfl | simp []) rfl ?_))
    | ((with_reducible refine gBuild ?_); refine aZero rfl rfl ?_)
    | ((with_reducible refine gStore ?_); (first | (refine aStore H _ _ rfl rfl rfl (by (first | exact ⟨rfl, rfl⟩ | exact ⟨by decide, rfl⟩ | (simp []; done) | (constructor <;> simp [] <;> omega))) (by first | rfl | simp [List.all_append, one_all]) rfl ?_) | (refine aLay H _ _ rfl rfl rfl (by (first | exact ⟨rfl, rfl⟩ | exact ⟨by decide, rfl⟩ | (simp []; done) | (constructor <;> simp [] <;> omega))) (by first | rfl | simp [List.all_append, one_all]) (by simp only [lay, List.take_succ_cons, List.take_zero, List.drop_succ_cons, List.drop_zero, List.nil_append, List.cons_append, List.length_cons, List.length_nil, Nat.zero_add, Nat.reduceAdd]; rfl) rfl ?_)); clear H; intro w' H; try dsimp only at H))
  go_loopw [12] (fun v12 wr => relMk w b3 b4 b6 b7 v12 wr) (fun v _ => 16 - (intOf v).toNat)
  case atStart => exact ⟨0, rfl, by omega, by rw [← HZ.out]; exact H⟩
  case round =>
    obtain ⟨i, rfl, hi, HS⟩ := hrel
    clear H
    have H := HS
    clear HS
    have HML := Lib.hid (mkL_len blankL blankL_len i hi)
    by_cases h : i < 16
    · have hii : (i : Int) < 16 := by omega
      have HSA := Lib.hid (mkL_same blankL blankL_len i h)
      have HNE := Lib.hid (mkL_next blankL blankL_len i h)
      have h512 : i * 32 + 32 ≤ 512 := by omega
      go_wp2_with (first
        | (go_at_call 84; refine (HP.out _ i h (HD.out.below H.below)).mono ?_; rintro e w' ⟨rfl, hb⟩; replace H := H.step hb; clear hb)
        | (go_at_call 52; refine (isHole_hole _).mono ?_; rintro e w' ⟨rfl, hb⟩; replace H := H.step hb; clear hb)
        | ((with_reducible refine gDst 28 ?_); refine aLoad H _ rfl rfl (PT.take32 PT.hole) rfl rfl ?_)
        | ((with_reducible refine gDst 33 ?_); refine aLoad H _ rfl rfl (part_all HL.out) HL.out rfl ?_)
        | ((with_reducible refine gSto (.tmp 29) (.tmp 28) ?_); refine aLay H _ _ rfl rfl rfl ⟨by rw [HML.out]; exact h512, rfl⟩ rfl HSA.out rfl ?_; clear H; intro w' H; (try dsimp only at H))
        | ((with_reducible refine gSto (.tmp 34) (.tmp 33) ?_); refine aLay H _ _ rfl rfl rfl ⟨by rw [HML.out]; exact h512, HL.out⟩ (one_all _) HNE.out rfl ?_; clear H; intro w' H; (try dsimp only at H))
        | ((with_reducible refine gDst 3 ?_); refine aBox H _ rfl rfl rfl ?_; clear H; intro b3 w3 H)
        | ((with_reducible refine gDst 4 ?_); refine aAlloc H rfl rfl ?_; clear H; intro b4 w4 H)
        | ((with_reducible refine gDst 6 ?_); refine aAlloc H rfl rfl ?_; clear H; intro b6 w6 H)
        | ((with_reducible refine gDst 7 ?_); refine aAlloc H rfl rfl ?_; clear H; intro b7 w7 H)
        | ((with_reducible refine gDst 9 ?_); refine aAlloc H rfl rfl ?_; clear H; intro b9 w9 H)
        | ((with_reducible refine gLoad ?_); first | (refine aLoad H _ rfl rfl (by first | exact part_all (by first | rfl | simp []) | (simp only [List.drop_succ_cons, List.drop_zero, List.take_succ_cons, List.take_zero]; rfl) | (simp [List.drop_append, List.take_append]; rfl)) (by first | rfl | simp []) rfl ?_))
        | ((with_reducible refine gBuild ?_); refine aZero rfl rfl ?_)
        | ((with_reducible refine gStore ?_); (first | (refine aStore H _ _ rfl rfl rfl (by (first | exact ⟨rfl, rfl⟩ | exact ⟨by decide, rfl⟩ | (simp []; done) | (constructor <;> simp [] <;> omega))) (by first | rfl | simp [List.all_append, one_all]) rfl ?_) | (refine aLay H _ _ rfl rfl rfl (by (first | exact ⟨rfl, rfl⟩ | exact ⟨by decide, rfl⟩ | (simp []; done) | (constructor <;> simp [] <;> omega))) (by first | rfl | simp [List.all_append, one_all]) (by simp only [lay, List.take_succ_cons, List.take_zero, List.drop_succ_cons, List.drop_zero, List.nil_append, List.cons_append, List.length_cons, List.length_nil, Nat.zero_add, Nat.reduceAdd]; rfl) rfl ?_)); clear H; intro w' H; try dsimp only at H))
      replace H := H.tail
      go_roundw
      case rel => first | exact ⟨i + 1, by go_num, by omega, H⟩ | exact ⟨_, ⟨i + 1, by go_num, by omega, H⟩, rfl⟩ | exact ⟨_, _, ⟨i + 1, by go_num, by omega, H⟩, rfl, rfl⟩ | exact ⟨_, _, _, ⟨i + 1, by go_num, by omega, H⟩, rfl, rfl, rfl⟩ | exact ⟨_, _, _, _, ⟨i + 1, by go_num, by omega, H⟩, rfl, rfl, rfl, rfl⟩ | exact ⟨_, _, _, _, _, ⟨i + 1, by go_num, by omega, H⟩, rfl, rfl, rfl, rfl, rfl⟩ | ((repeat (apply Exists.intro)); exact ⟨⟨i + 1, by go_num, by omega, H⟩, rfl⟩)
      case measure => simp [intOf] <;> omega
    · obtain rfl : i = 16 := by omega
      go_wp2_with (first
        | ((with_reducible refine gDst 36 ?_); refine aLoad H _ rfl rfl (part_all HML.out) HML.out rfl ?_)
        | ((with_reducible refine gSto (.tmp 4) (.tmp 36) ?_); refine aStore H _ _ rfl rfl rfl ⟨by rfl, HML.out⟩ (one_all _) rfl ?_; clear H; intro w' H; (try dsimp only at H)))
      refine bodyPost_ret (res_cell_tmp rfl _ H.hold rfl HML.out) rfl ?_
      exact ⟨rfl, H.below⟩
end
set_option maxHeartbeats 1600000 in
theorem Decode_nil (w : World) : Calls Tryd.prog 10 #[.slice none 0 0] w fun e w' => e = .returned (.tuple #[.agg (List.replicate 512 (.int .u8 0)).toArray, .int .i64 3]) ∧ Below w.heap.size w w' := by
  have H := SH.start Nil w
  go_enter Tryd.func10, Tryd.ntmps10
  go_wp2_with (first
    | ((with_reducible refine gDst 2 ?_); refine aAlloc H rfl rfl ?_; clear H; intro b2 w2 H)
    | ((with_reducible refine gDst 4 ?_); refine aAlloc H rfl rfl ?_; clear H; intro b4 w4 H)
    | ((with_reducible refine gLoad ?_); first | (refine aLoad H _ rfl rfl (by first | exact part_all (by first | rfl | simp []) | (simp only [List.drop_succ_cons, List.drop_zero, List.take_succ_cons, List.take_zero]; rfl) | (simp [List.drop_append, List.take_append]; rfl)) (by first | rfl | simp []) rfl ?_))
    | ((with_reducible refine gBuild ?_); refine aZero rfl rfl ?_)
    | ((with_reducible refine gStore ?_); (first | (refine aStore H _ _ rfl rfl rfl (by (first | exact ⟨rfl, rfl⟩ | exact ⟨by decide, rfl⟩ | (simp []; done) | (constructor <;> simp [] <;> omega))) (by first | rfl | simp [List.all_append, one_all]) rfl ?_) | (refine aLay H _ _ rfl rfl rfl (by (first | exact ⟨rfl, rfl⟩ | exact ⟨by decide, rfl⟩ | (simp []; done) | (constructor <;> simp [] <;> omega))) (by first | rfl | simp [List.all_append, one_all]) (by simp only [lay, List.take_succ_cons, List.take_zero, List.drop_succ_cons, List.drop_zero, List.nil_append, List.cons_append, List.length_cons, List.length_nil, Nat.zero_add, Nat.reduceAdd]; rfl) rfl ?_)); clear H; intro w' H; try dsimp only at H))
  refine bodyPost_ret (res_cell_tmp rfl _ H.hold rfl rfl) rfl ?_
  exact ⟨rfl, H.below⟩
end Go.Proofs.YtbglebchnlfklaaDoor

namespace Go.Proofs.YtbglebchnlfklaaDoor
set_option maxRecDepth 100000
open Go.RowKit
set_option linter.unusedSimpArgs false
set_option linter.unusedVariables false

theorem oMakeB {o : Oper} {a : Act} {Q : Exit → Act → World → Prop} {F : Nat → Prop} {w0 w : World} {L : List Own} {K : Act → World → Prop} (n : Nat) (hn : n ≤ 1000000) (H : SH F w0 w L) (l c : Operand) (ho : o.op = .makeSlice 24 l c) (hl : a.eval l = .int .i64 (n : Int)) (hc : a.eval c = .int .i64 (n : Int))
    (h : ∀ b w', Below w.heap.size w w' → SH F w0 w' (.row B8 (.slice (some ⟨b, 0, none⟩) n n) (List.replicate n 0) :: L) → K (a.put o.dst (.slice (some ⟨b, 0, none⟩) n n)) w') : o.wp Tryd.prog a w K Q :=
  opV (exec_makeB n hn l c ho hl hc) (h _ _ (alloc_belowAt w _) (madeB H n hn))
theorem mk_third : ((mkL blankL 16).drop 96).take 32 = blankL.map cb := by
  have hb := blankL_len
  rw [mkL, ← List.map_drop, ← List.map_take]
  rw [show (List.replicate 16 blankL).flatten = (List.replicate 3 blankL).flatten ++ (blankL ++ (List.replicate 12 blankL).flatten) by simp only [List.replicate_succ, List.flatten_cons, List.replicate_zero, List.flatten_nil, List.append_nil, List.append_assoc]]
  rw [show (16 - 16) * 32 = 0 from rfl, List.replicate_zero, List.append_nil, List.drop_left' (by rw [repl_len _ hb]), List.take_left' hb]
set_option maxHeartbeats 3200000 in
theorem alive11_any (w : World) : Calls Tryd.prog 9 #[] w fun e w' => e = .returned (.bool true) ∧ Below w.heap.size w w' := by
  have H := SH.start Nil w
  have HML := Lib.hid (mkL_len blankL blankL_len 16 (by omega))
  have H3 := Lib.hid mk_third
  have HBL := Lib.hid (show (blankL.map cb).length = 32 by rw [List.length_map, blankL_len])
  have HQ := Lib.hid (fun W => (show (binOp .eql 22 (.agg (blankL.map cb).toArray) (.agg (blankL.map cb).toArray)).run Tryd.prog W = .ok (.bool true) W by rw [h32_eql _ _ blankL_len blankL_len W, beq_self_eq_true]))
  have HSum := Lib.hid (fun v W (h : RB W v (List.replicate 256 0)) => (show Calls Tryd.prog 24 #[v] W fun e w' => e = .returned (.agg (blankL.map cb).toArray) ∧ Below W.heap.size W w' from Sum_any v _ W h (by simp)))
  go_enter Tryd.func9, Tryd.ntmps9
  go_wp2_with (first
    | (go_at_call 40; refine (diskNew_any 32 (by decide) (by decide) _).mono ?_; rintro e w' ⟨bd, bo, rfl, H1⟩; replace H1 := H.join H1; (try dsimp only [List.cons_append, List.nil_append] at H1); clear H; have H := H1; clear H1)
    | (go_at_call 41; refine (mapNew_any 32 (by decide) (by decide) _).mono ?_; rintro e w' ⟨bm, rfl, H1⟩; replace H1 := H.join H1; (try dsimp only [List.cons_append, List.nil_append] at H1); clear H; have H := H1; clear H1)
    | (go_at_call 43; refine (bankOver_any bd bm 1 _ (by decide)).mono ?_; rintro e w' ⟨bk, rfl, H1⟩; replace H1 := H.join H1; (try dsimp only [List.cons_append, List.nil_append] at H1); clear H; have H := H1; clear H1)
    | ((with_reducible refine gDst 35 ?_); refine aBuildC _ _ rfl PT.hole.cells (by kernel_rfl) rfl ?_)
    | (go_at_call 42; refine (Make_hole _ (n := 32) (on := List.replicate (32 * 256) 0) ⟨H.hold.va (b := bk), H.hold.va (b := bd), H.hold.rr (.slice (some ⟨bo, 0, none⟩) (32 * 256) (32 * 256)), by decide, by decide, List.length_replicate⟩).mono ?_; rintro e w' ⟨rfl, hb⟩; replace H := H.step hb; clear hb)
    | (go_at_call 10; refine (Decode_nil _).mono ?_; rintro e w' ⟨rfl, hb⟩; replace H := H.step hb; clear hb)
    | ((with_reducible refine gSto (.tmp 5) (.tmp 37) ?_); refine aStore H _ _ rfl rfl rfl ⟨by rfl, HML.out⟩ (one_all _) rfl ?_; clear H; intro w' H; (try dsimp only at H))
    | ((with_reducible refine gDst 5 ?_); refine aAlloc H rfl rfl ?_; clear H; intro b5 w5 H)
    | ((with_reducible refine gDst 7 ?_); refine aAlloc H rfl rfl ?_; clear H; intro b7 w7 H)
    | ((with_reducible refine gBuild ?_); refine aZero rfl rfl ?_)
    | ((with_reducible refine gStore ?_); (first | (refine aStore H _ _ rfl rfl rfl (by (first | exact ⟨rfl, rfl⟩ | exact ⟨by decide, rfl⟩ | (simp []; done) | (constructor <;> simp [] <;> omega))) (by first | rfl | simp [List.all_append, one_all]) rfl ?_) | (refine aLay H _ _ rfl rfl rfl (by (first | exact ⟨rfl, rfl⟩ | exact ⟨by decide, rfl⟩ | (simp []; done) | (constructor <;> simp [] <;> omega))) (by first | rfl | simp [List.all_append, one_all]) (by simp only [lay, List.take_succ_cons, List.take_zero, List.drop_succ_cons, List.drop_zero, List.nil_append, List.cons_append, List.length_cons, List.length_nil, Nat.zero_add, Nat.reduceAdd]; rfl) rfl ?_)); clear H; intro w' H; try dsimp only at H))
  refine startA (fun i => false) (by kernel_rfl) (fun wS hS => ?_)
  replace H := H.drew
  rw [← hS] at H
  have HH := H.hold
  have HS0 : Below wS.heap.size wS wS := Below.refl _ _
  clear hS
  refine takeP 0 rfl (by kernel_rfl) (by kernel_rfl) (by kernel_rfl) (by kernel_rfl) (fun _ _ _ h => h) rfl (v := ?_) ?_ ?_
  rotate_left
  · intro w'; go_simp; (try with_reducible rfl)
  (try simp only [Act.put, List.setIfInBounds_toArray, List.set_cons_zero, List.set_cons_succ])
  refine takeP 1 rfl (by kernel_rfl) (by kernel_rfl) (by kernel_rfl) (by kernel_rfl) (fun _ _ _ h => h) rfl (v := ?_) ?_ ?_
  rotate_left
  · intro w'; go_simp; (try with_reducible rfl)
  (try simp only [Act.put, List.setIfInBounds_toArray, List.set_cons_zero, List.set_cons_succ])
  refine takeP 2 rfl (by kernel_rfl) (by kernel_rfl) (by kernel_rfl) (by kernel_rfl) (fun _ _ _ h => h) rfl (v := ?_) ?_ ?_
  rotate_left
  · intro w'; go_simp; (try with_reducible rfl)
  (try simp only [Act.put, List.setIfInBounds_toArray, List.set_cons_zero, List.set_cons_succ])
  refine takeP 3 rfl (by kernel_rfl) (by kernel_rfl) (by kernel_rfl) (by kernel_rfl) (fun _ _ _ h => h) rfl (v := ?_) ?_ ?_
  rotate_left
  · intro w'; go_simp; (try with_reducible rfl)
  (try simp only [Act.put, List.setIfInBounds_toArray, List.set_cons_zero, List.set_cons_succ])
  refine takeL 4 HS0 rfl (by kernel_rfl) (by kernel_rfl) (by kernel_rfl) (by kernel_rfl) (by kernel_rfl) (fun _ _ _ h => h) rfl (v := ?_) ?_ ?_
  rotate_left
  · intro w' hw'; refine Eq.trans (xLoad (HH.below hw') _ rfl rfl H3.out HBL.out) ?_; with_reducible rfl
  (try simp only [Act.put, List.setIfInBounds_toArray, List.set_cons_zero, List.set_cons_succ])
  refine stepL 5 rfl (by kernel_rfl) rfl (fun K hK => ?_)
  (go_simp; (with_reducible refine ((Blank_any _)).mono ?_); rintro e w' ⟨rfl, hb⟩; replace H := H.step hb; replace HS0 := below_two HS0 HS0.size hb; clear hb; refine hK.out _ _ (fun _ _ => HS0) ?_; clear K hK)
  (try simp only [Act.put, List.setIfInBounds_toArray, List.set_cons_zero, List.set_cons_succ])
  refine takeL 6 HS0 rfl (by kernel_rfl) (by kernel_rfl) (by kernel_rfl) (by kernel_rfl) (by kernel_rfl) (fun _ _ _ h => h) rfl (v := ?_) ?_ ?_
  rotate_left
  · intro w' hw'; refine Eq.trans (exec_eql 22 _ _ _ rfl _ _ rfl rfl h32_guard _ (HQ.out _)) ?_; with_reducible rfl
  (try simp only [Act.put, List.setIfInBounds_toArray, List.set_cons_zero, List.set_cons_succ])
  refine takeP 7 rfl (by kernel_rfl) (by kernel_rfl) (by kernel_rfl) (by kernel_rfl) (fun _ _ _ h => h) rfl (v := ?_) ?_ ?_
  rotate_left
  · intro w'; go_simp; (try with_reducible rfl)
  (try simp only [Act.put, List.setIfInBounds_toArray, List.set_cons_zero, List.set_cons_succ])
  refine takeP 8 rfl (by kernel_rfl) (by kernel_rfl) (by kernel_rfl) (by kernel_rfl) (fun _ _ _ h => h) rfl (v := ?_) ?_ ?_
  rotate_left
  · intro w'; go_simp; (try with_reducible rfl)
  (try simp only [Act.put, List.setIfInBounds_toArray, List.set_cons_zero, List.set_cons_succ])
  refine stepL2 9 10 rfl rfl (by kernel_rfl) rfl rfl (fun K hK => ?ord7_1_9) (fun K hK => ?ord7_1_10)
  case' ord7_1_9 =>
    (go_simp; (with_reducible refine ((Blank_any _)).mono ?_); rintro e w' ⟨rfl, hb⟩; replace H := H.step hb; replace HS0 := below_two HS0 HS0.size hb; clear hb; refine hK.out _ _ (fun _ _ => HS0) ?_; clear K hK)
    (try simp only [Act.put, List.setIfInBounds_toArray, List.set_cons_zero, List.set_cons_succ])
    refine stepL 10 rfl (by kernel_rfl) rfl (fun K hK => ?_)
    (refine oMakeB 256 (by decide) H _ _ rfl rfl rfl ?_; clear H; intro b10 w10 hb H; replace HS0 := below_two HS0 HS0.size hb; clear hb; refine hK.out _ _ (fun _ _ => HS0) ?_; clear K hK)
    (try simp only [Act.put, List.setIfInBounds_toArray, List.set_cons_zero, List.set_cons_succ])
    refine stepL 11 rfl (by kernel_rfl) rfl (fun K hK => ?_)
    (go_simp; (with_reducible refine ((HSum.out _ _ (H.hold.rr (.slice (some ⟨b10, 0, none⟩) 256 256)))).mono ?_); rintro e w' ⟨rfl, hb⟩; replace H := H.step hb; replace HS0 := below_two HS0 HS0.size hb; clear hb; refine hK.out _ _ (fun _ _ => HS0) ?_; clear K hK)
    (try simp only [Act.put, List.setIfInBounds_toArray, List.set_cons_zero, List.set_cons_succ])
    refine takeL 12 HS0 rfl (by kernel_rfl) (by kernel_rfl) (by kernel_rfl) (by kernel_rfl) (by kernel_rfl) (fun _ _ _ h => h) rfl (v := ?_) ?_ ?_
    rotate_left
    · intro w' hw'; refine Eq.trans (exec_eql 22 _ _ _ rfl _ _ rfl rfl h32_guard _ (HQ.out _)) ?_; with_reducible rfl
    (try simp only [Act.put, List.setIfInBounds_toArray, List.set_cons_zero, List.set_cons_succ])
    refine takeP 13 rfl (by kernel_rfl) (by kernel_rfl) (by kernel_rfl) (by kernel_rfl) (fun _ _ _ h => h) rfl (v := ?_) ?_ ?_
    rotate_left
    · intro w'; go_simp; (try with_reducible rfl)
    (try simp only [Act.put, List.setIfInBounds_toArray, List.set_cons_zero, List.set_cons_succ])
    refine takeP 14 rfl (by kernel_rfl) (by kernel_rfl) (by kernel_rfl) (by kernel_rfl) (fun _ _ _ h => h) rfl (v := ?_) ?_ ?_
    rotate_left
    · intro w'; go_simp; (try with_reducible rfl)
    (try simp only [Act.put, List.setIfInBounds_toArray, List.set_cons_zero, List.set_cons_succ])
    refine takeP 15 rfl (by kernel_rfl) (by kernel_rfl) (by kernel_rfl) (by kernel_rfl) (fun _ _ _ h => h) rfl (v := ?_) ?_ ?_
    rotate_left
    · intro w'; go_simp; (try with_reducible rfl)
    (try simp only [Act.put, List.setIfInBounds_toArray, List.set_cons_zero, List.set_cons_succ])
    refine takeP 16 rfl (by kernel_rfl) (by kernel_rfl) (by kernel_rfl) (by kernel_rfl) (fun _ _ _ h => h) rfl (v := ?_) ?_ ?_
    rotate_left
    · intro w'; go_simp; (try with_reducible rfl)
    (try simp only [Act.put, List.setIfInBounds_toArray, List.set_cons_zero, List.set_cons_succ])
    refine takeP 17 rfl (by kernel_rfl) (by kernel_rfl) (by kernel_rfl) (by kernel_rfl) (fun _ _ _ h => h) rfl (v := ?_) ?_ ?_
    rotate_left
    · intro w'; go_simp; (try with_reducible rfl)
    (try simp only [Act.put, List.setIfInBounds_toArray, List.set_cons_zero, List.set_cons_succ])
    refine takeP 18 rfl (by kernel_rfl) (by kernel_rfl) (by kernel_rfl) (by kernel_rfl) (fun _ _ _ h => h) rfl (v := ?_) ?_ ?_
    rotate_left
    · intro w'; go_simp; (try with_reducible rfl)
    (try simp only [Act.put, List.setIfInBounds_toArray, List.set_cons_zero, List.set_cons_succ])
    refine doneL (by kernel_rfl) ?_
  case' ord7_1_10 =>
    (refine oMakeB 256 (by decide) H _ _ rfl rfl rfl ?_; clear H; intro b10 w10 hb H; replace HS0 := below_two HS0 HS0.size hb; clear hb; refine hK.out _ _ (fun _ _ => HS0) ?_; clear K hK)
    (try simp only [Act.put, List.setIfInBounds_toArray, List.set_cons_zero, List.set_cons_succ])
    refine stepL 9 rfl (by kernel_rfl) rfl (fun K hK => ?_)
    (go_simp; (with_reducible refine ((Blank_any _)).mono ?_); rintro e w' ⟨rfl, hb⟩; replace H := H.step hb; replace HS0 := below_two HS0 HS0.size hb; clear hb; refine hK.out _ _ (fun _ _ => HS0) ?_; clear K hK)
    (try simp only [Act.put, List.setIfInBounds_toArray, List.set_cons_zero, List.set_cons_succ])
    refine stepL 11 rfl (by kernel_rfl) rfl (fun K hK => ?_)
    (go_simp; (with_reducible refine ((HSum.out _ _ (H.hold.rr (.slice (some ⟨b10, 0, none⟩) 256 256)))).mono ?_); rintro e w' ⟨rfl, hb⟩; replace H := H.step hb; replace HS0 := below_two HS0 HS0.size hb; clear hb; refine hK.out _ _ (fun _ _ => HS0) ?_; clear K hK)
    (try simp only [Act.put, List.setIfInBounds_toArray, List.set_cons_zero, List.set_cons_succ])
    refine takeL 12 HS0 rfl (by kernel_rfl) (by kernel_rfl) (by kernel_rfl) (by kernel_rfl) (by kernel_rfl) (fun _ _ _ h => h) rfl (v := ?_) ?_ ?_
    rotate_left
    · intro w' hw'; refine Eq.trans (exec_eql 22 _ _ _ rfl _ _ rfl rfl h32_guard _ (HQ.out _)) ?_; with_reducible rfl
    (try simp only [Act.put, List.setIfInBounds_toArray, List.set_cons_zero, List.set_cons_succ])
    refine takeP 13 rfl (by kernel_rfl) (by kernel_rfl) (by kernel_rfl) (by kernel_rfl) (fun _ _ _ h => h) rfl (v := ?_) ?_ ?_
    rotate_left
    · intro w'; go_simp; (try with_reducible rfl)
    (try simp only [Act.put, List.setIfInBounds_toArray, List.set_cons_zero, List.set_cons_succ])
    refine takeP 14 rfl (by kernel_rfl) (by kernel_rfl) (by kernel_rfl) (by kernel_rfl) (fun _ _ _ h => h) rfl (v := ?_) ?_ ?_
    rotate_left
    · intro w'; go_simp; (try with_reducible rfl)
    (try simp only [Act.put, List.setIfInBounds_toArray, List.set_cons_zero, List.set_cons_succ])
    refine takeP 15 rfl (by kernel_rfl) (by kernel_rfl) (by kernel_rfl) (by kernel_rfl) (fun _ _ _ h => h) rfl (v := ?_) ?_ ?_
    rotate_left
    · intro w'; go_simp; (try with_reducible rfl)
    (try simp only [Act.put, List.setIfInBounds_toArray, List.set_cons_zero, List.set_cons_succ])
    refine takeP 16 rfl (by kernel_rfl) (by kernel_rfl) (by kernel_rfl) (by kernel_rfl) (fun _ _ _ h => h) rfl (v := ?_) ?_ ?_
    rotate_left
    · intro w'; go_simp; (try with_reducible rfl)
    (try simp only [Act.put, List.setIfInBounds_toArray, List.set_cons_zero, List.set_cons_succ])
    refine takeP 17 rfl (by kernel_rfl) (by kernel_rfl) (by kernel_rfl) (by kernel_rfl) (fun _ _ _ h => h) rfl (v := ?_) ?_ ?_
    rotate_left
    · intro w'; go_simp; (try with_reducible rfl)
    (try simp only [Act.put, List.setIfInBounds_toArray, List.set_cons_zero, List.set_cons_succ])
    refine takeP 18 rfl (by kernel_rfl) (by kernel_rfl) (by kernel_rfl) (by kernel_rfl) (fun _ _ _ h => h) rfl (v := ?_) ?_ ?_
    rotate_left
    · intro w'; go_simp; (try with_reducible rfl)
    (try simp only [Act.put, List.setIfInBounds_toArray, List.set_cons_zero, List.set_cons_succ])
    refine doneL (by kernel_rfl) ?_
  all_goals
    go_wp2
    go_ret
    exact ⟨rfl, H.below⟩
end Go.Proofs.YtbglebchnlfklaaDoor

namespace Go.Proofs.YtbglebchnlfklaaDoor
set_option maxRecDepth 100000
open Go.RowKit
set_option linter.unusedSimpArgs false
set_option linter.unusedVariables false

/-- The i-th 32 bytes. -/
def c32 (l : List UInt8) (i : Nat) : List UInt8 := (l.drop (i * 32)).take 32
theorem c32_len (l : List UInt8) (h : l.length = 512) (i : Nat) (hi : i < 16) : (c32 l i).length = 32 := by rw [c32, List.length_take, List.length_drop, h]; omega
theorem take32_step (l : List UInt8) (i : Nat) : l.take ((i + 1) * 32) = l.take (i * 32) ++ c32 l i := by
  rw [c32, show (i + 1) * 32 = i * 32 + 32 by omega, List.take_add]
def toM (l : List UInt8) (h : l.length = 512) : M16 := ⟨List.ofFn (n := 16) fun i => ⟨c32 l i.1, c32_len l h i.1 i.2⟩, List.length_ofFn⟩
theorem toM_get (l : List UInt8) (h : l.length = 512) (i : Nat) (hi : i < (toM l h).1.length) : ((toM l h).1[i]).1 = c32 l i := by
  simp only [toM, List.getElem_ofFn]
theorem flat_c32 (l : List UInt8) : ∀ n, ((List.range n).flatMap fun i => c32 l i) = l.take (n * 32)
  | 0 => by simp
  | n + 1 => by rw [List.range_succ, List.flatMap_append, flat_c32 l n, take32_step]; simp
theorem toM_cells (l : List UInt8) (h : l.length = 512) : (toM l h).cells = l.map cb := by
  have e : (toM l h).1.map (·.1) = (List.range 16).map fun i => c32 l i := by
    refine List.ext_getElem (by simp [toM]) fun i h1 h2 => ?_
    rw [List.getElem_map, toM_get, List.getElem_map, List.getElem_range]
  have e2 : (toM l h).cells = ((toM l h).1.map (·.1)).flatMap fun x => x.map cb := by rw [M16.cells, List.flatMap_map]
  rw [e2, e, List.flatMap_map, ← List.map_flatMap, flat_c32, List.take_of_length_le (by omega)]
section
variable {ops : Array Oper} {rest : List Oper} {o : Oper} {a : Act} {Q : Exit → Act → World → Prop} {w : World} {ρ : Operand → Value}
/-- A hash of a manifest that is a value. -/
theorem xIndexH (x y : Operand) (ho : o.op = .index 23 x y) (l : List UInt8) (h : l.length = 512) (hx : ρ x = .agg (l.map cb).toArray) (i : Nat) (hy : ρ y = .int .i64 (i : Int)) (hi : i < 16) :
    (execOp ρ o).run Tryd.prog w = .ok (.value (.agg ((c32 l i).map cb).toArray)) w := by
  have e : (toM l h).1.flatMap (fun z : RowOf UInt8 32 => z.1.flatMap fun x => [cb x]) = l.map cb := by
    rw [← toM_cells l h, M16.cells]
    congr 1
    funext z
    exact flatMap_one cb z.1
  have hr := exec_index (w := w) eqHash 23 x y ho Tryd.underlying23 (toM l h).1 (by rw [hx, e]) (toM l h).2 i .i64 hy (by rw [(toM l h).2]; exact hi)
  rw [hr, flatMap_one, toM_get]
end
/-- 32 bytes that lie in a block of bytes. -/
theorem VA.hash32 {w : World} {b : Nat} {t : TypeId} {l : List UInt8} (h : VA w b t (l.map cb)) (hl : l.length = 512) (i : Nat) (hi : i < 16) : RB w (.slice (some ⟨b, i * 32, none⟩) 32 32) (c32 l i) := by
  have e := c32_len l hl i hi
  have k := h.range (i * 32) ((c32 l i).map cb) (by rw [List.length_map, e, ← List.map_drop, ← List.map_take]; rfl)
  have r := RR.range (T := B8) (xs := c32 l i) (by rw [U8_all]; exact k) (by omega)
  rw [e] at r
  exact r
def relEnc (l : List UInt8) (w : World) (b3 : Nat) (v7 : Value) (wr : World) : Prop := ∃ i : Nat, v7 = .int .i64 (i : Int) ∧ i ≤ 16 ∧ Lib.IsBuffer 100 5 b3 b3 ((l.take (i * 32)).map cb) wr ∧ Below w.heap.size w wr
set_option maxHeartbeats 1600000 in
theorem mEncode_any (l : List UInt8) (hl : l.length = 512) (w : World) : Calls Tryd.prog 12 #[.agg (l.map cb).toArray] w fun e w' => ∃ v, e = .returned v ∧ OB w' w.heap.size v l ∧ Below w.heap.size w w' := by
  have H := SH.start Nil w
  have HL := Lib.hid hl
  have HML := Lib.hid (show (l.map cb).length = 512 by rw [List.length_map, hl])
  clear hl
  go_enter Tryd.func12, Tryd.ntmps12
  go_wp2_with (first
    | ((with_reducible refine gDst 6 ?_); refine aLoad H _ rfl rfl (part_all HML.out) HML.out rfl ?_)
    | ((with_reducible refine gDst 1 ?_); refine aBox H _ rfl rfl rfl ?_; clear H; intro b1 w1 H)
    | ((with_reducible refine gDst 3 ?_); refine aAlloc H rfl rfl ?_; clear H; intro b3 w3 H)
    | ((with_reducible refine gDst 5 ?_); refine aAlloc H rfl rfl ?_; clear H; intro b5 w5 H)
    | ((with_reducible refine gLoad ?_); first | (refine aLoad H _ rfl rfl (by first | exact part_all (by first | rfl | simp []) | (simp only [List.drop_succ_cons, List.drop_zero, List.take_succ_cons, List.take_zero]; rfl) | (simp [List.drop_append, List.take_append]; rfl)) (by first | rfl | simp []) rfl ?_))
    | ((with_reducible refine gStore ?_); (first | (refine aStore H _ _ rfl rfl rfl (by (first | exact ⟨rfl, rfl⟩ | exact ⟨by decide, rfl⟩ | (simp []; done) | (constructor <;> simp [] <;> omega))) (by first | rfl | simp [List.all_append, one_all]) rfl ?_) | (refine aLay H _ _ rfl rfl rfl (by (first | exact ⟨rfl, rfl⟩ | exact ⟨by decide, rfl⟩ | (simp []; done) | (constructor <;> simp [] <;> omega))) (by first | rfl | simp [List.all_append, one_all]) (by simp only [lay, List.take_succ_cons, List.take_zero, List.drop_succ_cons, List.drop_zero, List.nil_append, List.cons_append, List.length_cons, List.length_nil, Nat.zero_add, Nat.reduceAdd]; rfl) rfl ?_)); clear H; intro w' H; try dsimp only at H))
  have hb3 : w.heap.size ≤ b3 := (H.foot _ (List.mem_cons_self ..) b3 rfl).resolve_left id
  have hI : Lib.IsBuffer 100 5 b3 b3 (([] : List UInt8).map cb) w3 := ⟨Nat.le_refl _, _, 0, H.hold.va (b := b3), World.ownsRow_nil _ _ _ _, by simp [Value.ownBlock]⟩
  go_loopw [7] (fun v7 wr => relEnc l w b3 v7 wr) (fun v _ => 16 - (intOf v).toNat)
  case atStart => exact ⟨0, rfl, by omega, by rw [Nat.zero_mul, List.take_zero]; exact hI, H.below⟩
  case round =>
    obtain ⟨i, rfl, hi, HI, HB⟩ := hrel
    clear H hI
    have hlt := HI.lt
    by_cases h16 : i < 16
    · have hii : (i : Int) < 16 := by omega
      have hstep := take32_step l i
      have hcl := c32_len l HL.out i h16
      have H := SH.start Nil wr
      have HC := Lib.hid (show ((c32 l i).map cb).length = 32 by rw [List.length_map, hcl])
      have HCL := Lib.hid hcl
      have HST := Lib.hid hstep
      have HI' := Lib.hid HI
      have HB' := Lib.hid HB
      have hlim : (l.take (i * 32)).length + 32 ≤ 140737488355328 := by rw [List.length_take, HL.out]; omega
      have HLIM := Lib.hid hlim
      clear hlim
      clear hstep hcl HI HB
      go_wp2_with (first
        | ((with_reducible refine gDst 9 ?_); refine stepV (xIndexH _ _ rfl l HL.out rfl i rfl h16) rfl ?_)
        | ((with_reducible refine gSto (.tmp 5) (.tmp 9) ?_); refine aStore H _ _ rfl rfl rfl ⟨by rfl, HC.out⟩ (one_all _) rfl ?_; clear H; intro w' H; (try dsimp only at H))
        | (go_at_call 45; refine (Write_buf b3 b3 (l.take (i * 32)) (c32 l i) ⟨b5, 0, none⟩ 32 32 _ (Lib.IsBuffer.old HI'.out H.below) (by have := H.size; omega) HCL.out (by have h5 := (H.foot _ (List.mem_cons_self ..) b5 rfl).resolve_left id; show b5 ≠ b3; omega) (fun j v hj => by rw [Addr.add_mid, Nat.zero_add, (H.hold.va (b := b5)).cell]; exact hj) HLIM.out).mono ?_; rintro e w2 ⟨rfl, hI2, hb2⟩)
        | ((with_reducible refine gDst 1 ?_); refine aBox H _ rfl rfl rfl ?_; clear H; intro b1 w1 H)
        | ((with_reducible refine gDst 3 ?_); refine aAlloc H rfl rfl ?_; clear H; intro b3 w3 H)
        | ((with_reducible refine gDst 5 ?_); refine aAlloc H rfl rfl ?_; clear H; intro b5 w5 H)
        | ((with_reducible refine gLoad ?_); first | (refine aLoad H _ rfl rfl (by first | exact part_all (by first | rfl | simp []) | (simp only [List.drop_succ_cons, List.drop_zero, List.take_succ_cons, List.take_zero]; rfl) | (simp [List.drop_append, List.take_append]; rfl)) (by first | rfl | simp []) rfl ?_))
        | ((with_reducible refine gStore ?_); (first | (refine aStore H _ _ rfl rfl rfl (by (first | exact ⟨rfl, rfl⟩ | exact ⟨by decide, rfl⟩ | (simp []; done) | (constructor <;> simp [] <;> omega))) (by first | rfl | simp [List.all_append, one_all]) rfl ?_) | (refine aLay H _ _ rfl rfl rfl (by (first | exact ⟨rfl, rfl⟩ | exact ⟨by decide, rfl⟩ | (simp []; done) | (constructor <;> simp [] <;> omega))) (by first | rfl | simp [List.all_append, one_all]) (by simp only [lay, List.take_succ_cons, List.take_zero, List.drop_succ_cons, List.drop_zero, List.nil_append, List.cons_append, List.length_cons, List.length_nil, Nat.zero_add, Nat.reduceAdd]; rfl) rfl ?_)); clear H; intro w' H; try dsimp only at H))
      rw [← HST.out] at hI2
      have hB2 : Below w.heap.size w w2 := (below_two HB'.out HB'.out.size H.below).trans (hb2.mono hb3)
      go_roundw
      case rel => first | exact ⟨i + 1, by go_num, by omega, hI2, hB2⟩ | exact ⟨_, ⟨i + 1, by go_num, by omega, hI2, hB2⟩, rfl⟩ | exact ⟨_, _, ⟨i + 1, by go_num, by omega, hI2, hB2⟩, rfl, rfl⟩ | exact ⟨_, _, _, ⟨i + 1, by go_num, by omega, hI2, hB2⟩, rfl, rfl, rfl⟩ | exact ⟨_, _, _, _, ⟨i + 1, by go_num, by omega, hI2, hB2⟩, rfl, rfl, rfl, rfl⟩ | exact ⟨_, _, _, _, _, ⟨i + 1, by go_num, by omega, hI2, hB2⟩, rfl, rfl, rfl, rfl, rfl⟩ | ((repeat (apply Exists.intro)); exact ⟨⟨i + 1, by go_num, by omega, hI2, hB2⟩, rfl⟩)
      case measure => simp [intOf] <;> omega
    · obtain rfl : i = 16 := by omega
      rw [List.take_of_length_le (by rw [HL.out]; decide)] at HI
      have HI' := Lib.hid HI
      have HB' := Lib.hid HB
      clear HI HB
      go_wp2_with (first
        | (go_at_call 46; refine (Bytes_buf b3 b3 l _ HI'.out).mono ?_; rintro e w2 ⟨v, rfl, ho, hb2⟩))
      go_ret
      exact ⟨v, rfl, ho.low hb3, below_two HB'.out HB'.out.size hb2⟩
end Go.Proofs.YtbglebchnlfklaaDoor

namespace Go.Proofs.YtbglebchnlfklaaDoor
set_option maxRecDepth 100000
open Go.RowKit
set_option linter.unusedSimpArgs false
set_option linter.unusedVariables false

def relREnc (l : List UInt8) (w : World) (b1 : Nat) (v3 v4 : Value) (wr : World) : Prop := ∃ (i n : Nat) (A : Option Addr) (c : Nat), v3 = .slice A n c ∧ v4 = .int .i64 (i : Int) ∧ n = i * 32 ∧ i ≤ 16 ∧ SH Nil w wr [.row B8 (.slice A n c) (l.take (i * 32)), .blk b1 23 (l.map cb)]
set_option maxHeartbeats 1600000 in
theorem rmEncode_any (l : List UInt8) (hl : l.length = 512) (w : World) : Calls Tryd.prog 13 #[.agg (l.map cb).toArray] w fun e w' => ∃ v, e = .returned v ∧ OB w' w.heap.size v l ∧ Below w.heap.size w w' := by
  have H := SH.start Nil w
  have HL := Lib.hid hl
  have HML := Lib.hid (show (l.map cb).length = 512 by rw [List.length_map, hl])
  clear hl
  go_enter Tryd.func13, Tryd.ntmps13
  go_wp2_with (first
    | ((with_reducible refine gDst 1 ?_); refine aBox H _ rfl rfl rfl ?_; clear H; intro b1 w1 H)
    | ((with_reducible refine gDst 5 ?_); refine aEmpty sB H rfl rfl ?_; clear H; intro b5 w5 H)
    | (at_builtin; refine aAppB1 _ H _ _ rfl rfl rfl (by first | omega | (have := HCL.out; omega)) rfl ?_; clear H; intro v' w' ys HY H; (try dsimp only at H); obtain ⟨A', c', rfl, hc'⟩ := (H.hold.rr v').len))
  go_loopw [3, 4] (fun v3 v4 wr => relREnc l w b1 v3 v4 wr) (fun _ v _ => 16 - (intOf v).toNat)
  case atStart => exact ⟨0, 0, _, _, rfl, rfl, rfl, by omega, by rw [Nat.zero_mul, List.take_zero]; exact H⟩
  case round =>
    obtain ⟨i, n, A, c, rfl, rfl, hn, hi, HS⟩ := hrel
    clear H
    have H := HS
    clear HS
    by_cases h16 : i < 16
    · have hii : (i : Int) < 16 := by omega
      have hstep := take32_step l i
      have hcl := c32_len l HL.out i h16
      have HST := Lib.hid hstep
      have HCL := Lib.hid hcl
      have htl : (l.take (i * 32)).length = n := by rw [List.length_take, HL.out]; omega
      have HTL := Lib.hid htl
      have hnb : n ≤ 1000000000 := by omega
      have HN := Lib.hid hn
      have HVA := Lib.hid (fun (W : World) (h : VA W b1 23 (l.map cb)) => h.hash32 HL.out i h16)
      clear hstep hcl htl hn
      go_wp2_with (first
        | ((with_reducible refine gDst 14 ?_); refine aAppBs H _ _ rfl rfl rfl (HVA.out _ (H.hold.va (b := b1))) ⟨by rw [HTL.out]; exact hnb, by rw [HCL.out]; decide⟩ rfl ?_; clear H; intro v' w' ys HY H; (try dsimp only at H); obtain ⟨A', c', rfl, hc'⟩ := (H.hold.rr v').len))
      have hy : ys = l.take ((i + 1) * 32) := by rw [HY.out, HST.out]
      have hyn : ys.length = (i + 1) * 32 := by rw [HY.out, List.length_append, HTL.out, HCL.out, HN.out]; omega
      have H2 : SH Nil w w' [.row B8 (.slice A' ys.length c') (l.take ((i + 1) * 32)), .blk b1 23 (l.map cb)] := by rw [← hy]; exact H
      clear hy
      go_roundw
      case rel => first | exact ⟨i + 1, ys.length, A', c', rfl, by go_num, hyn, by omega, H2⟩ | exact ⟨_, ⟨i + 1, ys.length, A', c', rfl, by go_num, hyn, by omega, H2⟩, rfl⟩ | exact ⟨_, _, ⟨i + 1, ys.length, A', c', rfl, by go_num, hyn, by omega, H2⟩, rfl, rfl⟩ | exact ⟨_, _, _, ⟨i + 1, ys.length, A', c', rfl, by go_num, hyn, by omega, H2⟩, rfl, rfl, rfl⟩ | exact ⟨_, _, _, _, ⟨i + 1, ys.length, A', c', rfl, by go_num, hyn, by omega, H2⟩, rfl, rfl, rfl, rfl⟩ | exact ⟨_, _, _, _, _, ⟨i + 1, ys.length, A', c', rfl, by go_num, hyn, by omega, H2⟩, rfl, rfl, rfl, rfl, rfl⟩ | ((repeat (apply Exists.intro)); exact ⟨⟨i + 1, ys.length, A', c', rfl, by go_num, hyn, by omega, H2⟩, rfl⟩)
      case measure => simp [intOf] <;> omega
    · obtain rfl : i = 16 := by omega
      rw [List.take_of_length_le (by rw [HL.out]; decide)] at H
      have hnl : n = l.length := by rw [HL.out]; omega
      subst hnl
      go_wp2
      go_ret
      exact ⟨_, rfl, H.ow (.slice A l.length c), H.below⟩
/-- The manifest of bytes. -/
def decL (xs : List UInt8) : List UInt8 := if xs.length = 512 then xs else List.replicate 512 0
def decE (xs : List UInt8) : Int := if xs.length = 512 then 0 else 3
theorem decL_len (xs : List UInt8) : (decL xs).length = 512 := by
  rw [decL]
  split
  · assumption
  · simp
def dmL (xs : List UInt8) (n : Nat) : List Value := (xs.take n ++ List.replicate (512 - n) 0).map cb
theorem dmL_len (xs : List UInt8) (hx : xs.length = 512) (n : Nat) (hn : n ≤ 512) : (dmL xs n).length = 512 := by
  rw [dmL, List.length_map, List.length_append, List.length_take, List.length_replicate]; omega
theorem dmL_zero (xs : List UInt8) : dmL xs 0 = List.replicate 512 (.int .u8 0) := by simp [dmL, cb]
theorem dmL_full (xs : List UInt8) (hx : xs.length = 512) : dmL xs 512 = xs.map cb := by
  rw [dmL, List.take_of_length_le (by omega), Nat.sub_self, List.replicate_zero, List.append_nil]
theorem dmL_lay (xs : List UInt8) (hx : xs.length = 512) (i : Nat) (hi : i < 16) : lay (dmL xs (i * 32)) (i * 32) ((c32 xs i).map cb) = dmL xs ((i + 1) * 32) := by
  have h1 : (xs.take (i * 32)).length = i * 32 := by rw [List.length_take]; omega
  rw [lay, dmL, ← List.map_take, ← List.map_drop, List.take_left' h1, ← List.map_append, List.length_map, c32_len xs hx i hi, ← List.drop_drop, List.drop_left' h1, List.drop_replicate, ← List.map_append, dmL, take32_step, show 512 - i * 32 - 32 = 512 - (i + 1) * 32 by omega]
theorem dmL_set (xs : List UInt8) (hx : xs.length = 512) (i : Nat) (hi : i < 512) : (dmL xs i).set i (cb (xs.getD i 0)) = dmL xs (i + 1) := by
  have h1 : (xs.take i).length = i := by rw [List.length_take]; omega
  rw [dmL, dmL, List.take_add_one, List.getElem?_eq_getElem (by omega), Option.toList_some, List.getD_eq_getElem?_getD, List.getElem?_eq_getElem (by omega), List.map_append, List.set_append_right _ _ (by rw [List.length_map, h1]; omega), List.length_map, h1, Nat.sub_self, show 512 - i = (512 - (i + 1)) + 1 by omega, List.replicate_succ, List.map_cons, List.set_cons_zero]
  simp only [List.map_append, List.map_cons, List.map_nil, List.append_assoc, List.cons_append, List.nil_append, Option.getD_some]
def relDec (xs : List UInt8) (w : World) (b2 b4 : Nat) (v10 : Value) (wr : World) : Prop := ∃ i : Nat, v10 = .int .i64 (i : Int) ∧ i ≤ 16 ∧ SH Nil w wr [.blk b4 23 (dmL xs (i * 32)), .blk b2 23 (List.replicate 512 (.int .u8 0))]
set_option maxHeartbeats 1600000 in
theorem mDecode_any (v : Value) (xs : List UInt8) (w : World) (hv : RB w v xs) : Calls Tryd.prog 10 #[v] w fun e w' => e = .returned (.tuple #[.agg ((decL xs).map cb).toArray, .int .i64 (decE xs)]) ∧ Below w.heap.size w w' := by
  have H := SH.start Nil w
  by_cases h5 : xs.length = 512
  · have e1 : decL xs = xs := if_pos h5
    have e2 : decE xs = 0 := if_pos h5
    rw [e1, e2]
    obtain ⟨A, c, rfl, hc⟩ := hv.len
    rw [h5] at hv hc ⊢
    obtain ⟨ad, rfl, -⟩ := hv.at0 (by omega)
    have HX := Lib.hid h5
    have HV := Lib.hid hv
    have HML := Lib.hid (show (xs.map cb).length = 512 by rw [List.length_map, h5])
    clear e1 e2 h5 hv
    go_enter Tryd.func10, Tryd.ntmps10
    go_wp2_with (first
      | ((with_reducible refine gDst 2 ?_); refine aAlloc H rfl rfl ?_; clear H; intro b2 w2 H)
      | ((with_reducible refine gDst 4 ?_); refine aAlloc H rfl rfl ?_; clear H; intro b4 w4 H)
      | ((with_reducible refine gLoad ?_); first | (refine aLoad H _ rfl rfl (by first | exact part_all (by first | rfl | simp []) | (simp only [List.drop_succ_cons, List.drop_zero, List.take_succ_cons, List.take_zero]; rfl) | (simp [List.drop_append, List.take_append]; rfl)) (by first | rfl | simp []) rfl ?_))
      | ((with_reducible refine gBuild ?_); refine aZero rfl rfl ?_)
      | ((with_reducible refine gStore ?_); (first | (refine aStore H _ _ rfl rfl rfl (by (first | exact ⟨rfl, rfl⟩ | exact ⟨by decide, rfl⟩ | (simp []; done) | (constructor <;> simp [] <;> omega))) (by first | rfl | simp [List.all_append, one_all]) rfl ?_) | (refine aLay H _ _ rfl rfl rfl (by (first | exact ⟨rfl, rfl⟩ | exact ⟨by decide, rfl⟩ | (simp []; done) | (constructor <;> simp [] <;> omega))) (by first | rfl | simp [List.all_append, one_all]) (by simp only [lay, List.take_succ_cons, List.take_zero, List.drop_succ_cons, List.drop_zero, List.nil_append, List.cons_append, List.length_cons, List.length_nil, Nat.zero_add, Nat.reduceAdd]; rfl) rfl ?_)); clear H; intro w' H; try dsimp only at H))
    go_loopw [10] (fun v10 wr => relDec xs w b2 b4 v10 wr) (fun v _ => 16 - (intOf v).toNat)
    case atStart => exact ⟨0, rfl, by omega, by rw [Nat.zero_mul, dmL_zero]; exact H⟩
    case round =>
      obtain ⟨i, rfl, hi, HS⟩ := hrel
      clear H
      have H := HS
      clear HS
      have HDL := Lib.hid (dmL_len xs HX.out (i * 32) (by omega))
      by_cases h16 : i < 16
      · have hii : (i : Int) < 16 := by omega
        obtain ⟨u, hu⟩ : ∃ u, u = i * 32 := ⟨_, rfl⟩
        obtain ⟨A2, -, g2, -, g4⟩ := cutB (some ad) c xs u 512 (by omega) (by rw [HX.out]; exact Nat.le_refl _) (by rw [HX.out]; exact hc)
        rw [HX.out] at g2 g4
        have hr := g4 w HV.out
        rw [List.take_of_length_le (by rw [HX.out]; exact Nat.le_refl _)] at hr
        obtain ⟨ad2, rfl, hcell⟩ := hr.at0 (by rw [List.length_drop, HX.out]; omega)
        have hcc : ∀ (j : Nat) (v : Value), ((c32 xs i).map cb)[j]? = some v → w.cell? (ad2.add j) = some v := fun j v hj => hcell j v (by
          rw [c32, List.map_take, List.getElem?_take, ← hu] at hj
          split at hj
          · exact hj
          · cases hj)
        have g3 := fun (kl : IntKind) (W : World) => g2 kl W rfl
        have HC := Lib.hid hcc
        have hcl := c32_len xs HX.out i h16
        have HCL := Lib.hid hcl
        have HCM := Lib.hid (show ((c32 xs i).map cb).length = 32 by rw [List.length_map, hcl])
        have hlay := dmL_lay xs HX.out i h16
        have HLAY := Lib.hid hlay
        have m1 : (i : Int) * 32 = (u : Int) := by omega
        have k1 : IntKind.i64.wrap (u : Int) = (u : Int) := i64w _ (by omega) (by omega)
        have h32 : 32 ≤ 512 - u := by omega
        have h512 : i * 32 + 32 ≤ 512 := by omega
        clear hcc hcl hlay g2 g4 hr hcell hu
        go_wp2_with (first
          | ((with_reducible refine gDst 18 ?_); refine stepV (exec_arrptr 22 _ rfl 32 _ Tryd.underlying22 (some ad2) _ _ rfl h32) rfl ?_)
          | ((with_reducible refine gDst 19 ?_); refine stepV (xLoadH _ rfl rfl HCL.out (fun j v hj => cell_below H.below (HC.out j v hj))) rfl ?_)
          | ((with_reducible refine gSto (.tmp 20) (.tmp 19) ?_); refine aLay H _ _ rfl rfl rfl ⟨by rw [HDL.out]; exact h512, HCM.out⟩ (one_all _) HLAY.out rfl ?_; clear H; intro w' H; (try dsimp only at H)))
        go_roundw
        case rel => first | exact ⟨i + 1, by go_num, by omega, H⟩ | exact ⟨_, ⟨i + 1, by go_num, by omega, H⟩, rfl⟩ | exact ⟨_, _, ⟨i + 1, by go_num, by omega, H⟩, rfl, rfl⟩ | exact ⟨_, _, _, ⟨i + 1, by go_num, by omega, H⟩, rfl, rfl, rfl⟩ | exact ⟨_, _, _, _, ⟨i + 1, by go_num, by omega, H⟩, rfl, rfl, rfl, rfl⟩ | exact ⟨_, _, _, _, _, ⟨i + 1, by go_num, by omega, H⟩, rfl, rfl, rfl, rfl, rfl⟩ | ((repeat (apply Exists.intro)); exact ⟨⟨i + 1, by go_num, by omega, H⟩, rfl⟩)
        case measure => simp [intOf] <;> omega
      · obtain rfl : i = 16 := by omega
        rw [show 16 * 32 = 512 from rfl, dmL_full xs HX.out] at H
        go_wp2_with (first
          | ((with_reducible refine gDst 22 ?_); refine aLoad H _ rfl rfl (part_all HML.out) HML.out rfl ?_)
          | ((with_reducible refine gSto (.tmp 2) (.tmp 22) ?_); refine aStore H _ _ rfl rfl rfl ⟨by rfl, HML.out⟩ (one_all _) rfl ?_; clear H; intro w' H; (try dsimp only at H)))
        refine bodyPost_ret (res_cell_tmp rfl _ H.hold rfl HML.out) rfl ?_
        exact ⟨rfl, H.below⟩
  · have e1 : decL xs = List.replicate 512 0 := if_neg h5
    have e2 : decE xs = 3 := if_neg h5
    rw [e1, e2]
    obtain ⟨A, c, rfl, -⟩ := hv.len
    have hne : ((xs.length : Int) != 512) = true := by simp; omega
    have hne1 : ((xs.length : Int) == 512) = false := beq_eq_false_iff_ne.mpr (by omega)
    clear e1 e2
    go_enter Tryd.func10, Tryd.ntmps10
    go_wp2_with (first
      | ((with_reducible refine gDst 2 ?_); refine aAlloc H rfl rfl ?_; clear H; intro b2 w2 H)
      | ((with_reducible refine gDst 4 ?_); refine aAlloc H rfl rfl ?_; clear H; intro b4 w4 H)
      | ((with_reducible refine gLoad ?_); first | (refine aLoad H _ rfl rfl (by first | exact part_all (by first | rfl | simp []) | (simp only [List.drop_succ_cons, List.drop_zero, List.take_succ_cons, List.take_zero]; rfl) | (simp [List.drop_append, List.take_append]; rfl)) (by first | rfl | simp []) rfl ?_))
      | ((with_reducible refine gBuild ?_); refine aZero rfl rfl ?_)
      | ((with_reducible refine gStore ?_); (first | (refine aStore H _ _ rfl rfl rfl (by (first | exact ⟨rfl, rfl⟩ | exact ⟨by decide, rfl⟩ | (simp []; done) | (constructor <;> simp [] <;> omega))) (by first | rfl | simp [List.all_append, one_all]) rfl ?_) | (refine aLay H _ _ rfl rfl rfl (by (first | exact ⟨rfl, rfl⟩ | exact ⟨by decide, rfl⟩ | (simp []; done) | (constructor <;> simp [] <;> omega))) (by first | rfl | simp [List.all_append, one_all]) (by simp only [lay, List.take_succ_cons, List.take_zero, List.drop_succ_cons, List.drop_zero, List.nil_append, List.cons_append, List.length_cons, List.length_nil, Nat.zero_add, Nat.reduceAdd]; rfl) rfl ?_)); clear H; intro w' H; try dsimp only at H))
    refine bodyPost_ret (res_cell_tmp rfl _ H.hold rfl rfl) rfl ?_
    exact ⟨rfl, H.below⟩
end Go.Proofs.YtbglebchnlfklaaDoor

namespace Go.Proofs.YtbglebchnlfklaaDoor
set_option maxRecDepth 100000
open Go.RowKit
set_option linter.unusedSimpArgs false
set_option linter.unusedVariables false

def relRDec (xs : List UInt8) (w : World) (b2 b4 : Nat) (v5 : Value) (wr : World) : Prop := ∃ i : Nat, v5 = .int .i64 (i : Int) ∧ i ≤ 512 ∧ SH Nil w wr [.blk b4 23 (dmL xs i), .blk b2 23 (List.replicate 512 (.int .u8 0))]
set_option maxHeartbeats 1600000 in
theorem rmDecode_any (v : Value) (xs : List UInt8) (w : World) (hv : RB w v xs) : Calls Tryd.prog 11 #[v] w fun e w' => e = .returned (.tuple #[.agg ((decL xs).map cb).toArray, .int .i64 (decE xs)]) ∧ Below w.heap.size w w' := by
  have H := SH.start Nil w
  by_cases h5 : xs.length = 512
  · have e1 : decL xs = xs := if_pos h5
    have e2 : decE xs = 0 := if_pos h5
    rw [e1, e2]
    obtain ⟨A, c, rfl, hc⟩ := hv.len
    rw [h5] at hv hc ⊢
    obtain ⟨ad, rfl, hby⟩ := hv.byte (by omega)
    have HX := Lib.hid h5
    have HBY := Lib.hid hby
    have HML := Lib.hid (show (xs.map cb).length = 512 by rw [List.length_map, h5])
    clear e1 e2 h5 hv hby
    go_enter Tryd.func11, Tryd.ntmps11
    go_wp2_with (first
      | ((with_reducible refine gDst 2 ?_); refine aAlloc H rfl rfl ?_; clear H; intro b2 w2 H)
      | ((with_reducible refine gDst 4 ?_); refine aAlloc H rfl rfl ?_; clear H; intro b4 w4 H)
      | ((with_reducible refine gLoad ?_); first | (refine aLoad H _ rfl rfl (by first | exact part_all (by first | rfl | simp []) | (simp only [List.drop_succ_cons, List.drop_zero, List.take_succ_cons, List.take_zero]; rfl) | (simp [List.drop_append, List.take_append]; rfl)) (by first | rfl | simp []) rfl ?_))
      | ((with_reducible refine gBuild ?_); refine aZero rfl rfl ?_)
      | ((with_reducible refine gStore ?_); (first | (refine aStore H _ _ rfl rfl rfl (by (first | exact ⟨rfl, rfl⟩ | exact ⟨by decide, rfl⟩ | (simp []; done) | (constructor <;> simp [] <;> omega))) (by first | rfl | simp [List.all_append, one_all]) rfl ?_) | (refine aLay H _ _ rfl rfl rfl (by (first | exact ⟨rfl, rfl⟩ | exact ⟨by decide, rfl⟩ | (simp []; done) | (constructor <;> simp [] <;> omega))) (by first | rfl | simp [List.all_append, one_all]) (by simp only [lay, List.take_succ_cons, List.take_zero, List.drop_succ_cons, List.drop_zero, List.nil_append, List.cons_append, List.length_cons, List.length_nil, Nat.zero_add, Nat.reduceAdd]; rfl) rfl ?_)); clear H; intro w' H; try dsimp only at H))
    go_loopw [5] (fun v5 wr => relRDec xs w b2 b4 v5 wr) (fun v _ => 512 - (intOf v).toNat)
    case atStart => exact ⟨0, rfl, by omega, by rw [dmL_zero]; exact H⟩
    case round =>
      obtain ⟨i, rfl, hi, HS⟩ := hrel
      clear H
      have H := HS
      clear HS
      have HDL := Lib.hid (dmL_len xs HX.out i hi)
      by_cases h16 : i < 512
      · have hii : (i : Int) < 512 := by omega
        have hq : (i : Int).tdiv 32 = ((i / 32 : Nat) : Int) := by rw [Int.tdiv_eq_ediv_of_nonneg (by omega)]; push_cast; rfl
        have hm : (i : Int).tmod 32 = ((i % 32 : Nat) : Int) := by rw [Int.tmod_eq_emod_of_nonneg (by omega)]; push_cast; rfl
        have hqr : i / 32 * 32 + i % 32 = i := by omega
        have hql : i / 32 < 16 := by omega
        have hrl : i % 32 < 32 := by omega
        have HQR := Lib.hid hqr
        clear hqr
        generalize i / 32 = q at *
        generalize i % 32 = r at *
        have hqi : (q : Int) < 16 := by omega
        have hri : (r : Int) < 32 := by omega
        have hqw : IntKind.i64.wrap (q : Int) = (q : Int) := i64w _ (by omega) (by omega)
        have hset := dmL_set xs HX.out i h16
        have HSET := Lib.hid hset
        clear hset
        have c0 := cell_below H.below (HBY.out i (by rw [HX.out]; exact h16))
        generalize xs.getD i 0 = x at *
        go_wp2
        refine startA (fun i => i == 10) (by kernel_rfl) (fun wS hS => ?_)
        replace H := H.drew
        rw [← hS] at H
        have HH := H.hold
        have HS0 : Below wS.heap.size wS wS := Below.refl _ _
        replace c0 := cellS hS c0
        clear hS
        refine takeP 0 rfl (by kernel_rfl) (by kernel_rfl) (by kernel_rfl) (by kernel_rfl) (fun _ _ _ h => h) rfl (v := ?_) ?_ ?_
        rotate_left
        · intro w'; go_simp; (try with_reducible rfl)
        (try simp only [Act.put, List.setIfInBounds_toArray, List.set_cons_zero, List.set_cons_succ])
        refine takeP 1 rfl (by kernel_rfl) (by kernel_rfl) (by kernel_rfl) (by kernel_rfl) (fun _ _ _ h => h) rfl (v := ?_) ?_ ?_
        rotate_left
        · intro w'; go_simp; (try with_reducible rfl)
        (try simp only [Act.put, List.setIfInBounds_toArray, List.set_cons_zero, List.set_cons_succ])
        refine takeP 2 rfl (by kernel_rfl) (by kernel_rfl) (by kernel_rfl) (by kernel_rfl) (fun _ _ _ h => h) rfl (v := ?_) ?_ ?_
        rotate_left
        · intro w'; go_simp; (try with_reducible rfl)
        (try simp only [Act.put, List.setIfInBounds_toArray, List.set_cons_zero, List.set_cons_succ])
        refine takeP 3 rfl (by kernel_rfl) (by kernel_rfl) (by kernel_rfl) (by kernel_rfl) (fun _ _ _ h => h) rfl (v := ?_) ?_ ?_
        rotate_left
        · intro w'; go_simp; (try with_reducible rfl)
        (try simp only [Act.put, List.setIfInBounds_toArray, List.set_cons_zero, List.set_cons_succ])
        refine takeP 4 rfl (by kernel_rfl) (by kernel_rfl) (by kernel_rfl) (by kernel_rfl) (fun _ _ _ h => h) rfl (v := ?_) ?_ ?_
        rotate_left
        · intro w'; go_simp; (try with_reducible rfl)
        (try simp only [Act.put, List.setIfInBounds_toArray, List.set_cons_zero, List.set_cons_succ])
        refine takeP 5 rfl (by kernel_rfl) (by kernel_rfl) (by kernel_rfl) (by kernel_rfl) (fun _ _ _ h => h) rfl (v := ?_) ?_ ?_
        rotate_left
        · intro w'; go_simp; (try with_reducible rfl)
        (try simp only [Act.put, List.setIfInBounds_toArray, List.set_cons_zero, List.set_cons_succ])
        refine takeP 6 rfl (by kernel_rfl) (by kernel_rfl) (by kernel_rfl) (by kernel_rfl) (fun _ _ _ h => h) rfl (v := ?_) ?_ ?_
        rotate_left
        · intro w'; go_simp; (try with_reducible rfl)
        (try simp only [Act.put, List.setIfInBounds_toArray, List.set_cons_zero, List.set_cons_succ])
        refine takeL 7 HS0 rfl (by kernel_rfl) (by kernel_rfl) (by kernel_rfl) (by kernel_rfl) (by kernel_rfl) (fun _ _ _ h => h) rfl (v := ?_) ?_ ?_
        rotate_left
        · intro w' hw'; first | (refine Eq.trans (xLoad1 (HH.below hw') _ rfl rfl (by first | exact (rfl : _ = some (Value.int _ _)) | exact (rfl : _ = some (Value.slice _ _ _)) | exact (rfl : _ = some (Value.bool _)) | exact (rfl : _ = some (Value.string _)) | exact (rfl : _ = some (Value.pointer _)) | rfl | (simp [List.getElem?_append]; done))) ?_; with_reducible rfl) | (refine Eq.trans (xLoadC _ rfl rfl (cell_below hw' (by assumption))) ?_; with_reducible rfl)
        (try simp only [Act.put, List.setIfInBounds_toArray, List.set_cons_zero, List.set_cons_succ])
        refine takeP 8 rfl (by kernel_rfl) (by kernel_rfl) (by kernel_rfl) (by kernel_rfl) (fun _ _ _ h => h) rfl (v := ?_) ?_ ?_
        rotate_left
        · intro w'; go_simp; (try with_reducible rfl)
        (try simp only [Act.put, List.setIfInBounds_toArray, List.set_cons_zero, List.set_cons_succ])
        refine takeP 9 rfl (by kernel_rfl) (by kernel_rfl) (by kernel_rfl) (by kernel_rfl) (fun _ _ _ h => h) rfl (v := ?_) ?_ ?_
        rotate_left
        · intro w'; go_simp; (try with_reducible rfl)
        (try simp only [Act.put, List.setIfInBounds_toArray, List.set_cons_zero, List.set_cons_succ])
        refine stepL 10 rfl (by kernel_rfl) rfl (fun K hK => ?_)
        (refine oCellA (v := cb x) (new := dmL xs (i + 1)) H _ _ rfl rfl rfl rfl rfl (by rw [HQR.out, HDL.out]; exact h16) (by rw [HQR.out]; exact HSET.out) ?_; clear H; intro w' H; (try dsimp only at H); refine hK.out _ _ (fun h => by cases h) ?_; clear K hK HS0)
        (try simp only [Act.put, List.setIfInBounds_toArray, List.set_cons_zero, List.set_cons_succ])
        refine doneL (by kernel_rfl) ?_
        go_wp2
        go_roundw
        case rel => first | exact ⟨i + 1, by go_num, by omega, H⟩ | exact ⟨_, ⟨i + 1, by go_num, by omega, H⟩, rfl⟩ | exact ⟨_, _, ⟨i + 1, by go_num, by omega, H⟩, rfl, rfl⟩ | exact ⟨_, _, _, ⟨i + 1, by go_num, by omega, H⟩, rfl, rfl, rfl⟩ | exact ⟨_, _, _, _, ⟨i + 1, by go_num, by omega, H⟩, rfl, rfl, rfl, rfl⟩ | exact ⟨_, _, _, _, _, ⟨i + 1, by go_num, by omega, H⟩, rfl, rfl, rfl, rfl, rfl⟩ | ((repeat (apply Exists.intro)); exact ⟨⟨i + 1, by go_num, by omega, H⟩, rfl⟩)
        case measure => simp [intOf] <;> omega
      · obtain rfl : i = 512 := by omega
        rw [dmL_full xs HX.out] at H
        go_wp2_with (first
          | ((with_reducible refine gDst 25 ?_); refine aLoad H _ rfl rfl (part_all HML.out) HML.out rfl ?_)
          | ((with_reducible refine gSto (.tmp 2) (.tmp 25) ?_); refine aStore H _ _ rfl rfl rfl ⟨by rfl, HML.out⟩ (one_all _) rfl ?_; clear H; intro w' H; (try dsimp only at H)))
        refine bodyPost_ret (res_cell_tmp rfl _ H.hold rfl HML.out) rfl ?_
        exact ⟨rfl, H.below⟩
  · have e1 : decL xs = List.replicate 512 0 := if_neg h5
    have e2 : decE xs = 3 := if_neg h5
    rw [e1, e2]
    obtain ⟨A, c, rfl, -⟩ := hv.len
    have hne : ((xs.length : Int) != 512) = true := by simp; omega
    have hne1 : ((xs.length : Int) == 512) = false := beq_eq_false_iff_ne.mpr (by omega)
    clear e1 e2
    go_enter Tryd.func11, Tryd.ntmps11
    go_wp2_with (first
      | ((with_reducible refine gDst 2 ?_); refine aAlloc H rfl rfl ?_; clear H; intro b2 w2 H)
      | ((with_reducible refine gDst 4 ?_); refine aAlloc H rfl rfl ?_; clear H; intro b4 w4 H)
      | ((with_reducible refine gLoad ?_); first | (refine aLoad H _ rfl rfl (by first | exact part_all (by first | rfl | simp []) | (simp only [List.drop_succ_cons, List.drop_zero, List.take_succ_cons, List.take_zero]; rfl) | (simp [List.drop_append, List.take_append]; rfl)) (by first | rfl | simp []) rfl ?_))
      | ((with_reducible refine gBuild ?_); refine aZero rfl rfl ?_)
      | ((with_reducible refine gStore ?_); (first | (refine aStore H _ _ rfl rfl rfl (by (first | exact ⟨rfl, rfl⟩ | exact ⟨by decide, rfl⟩ | (simp []; done) | (constructor <;> simp [] <;> omega))) (by first | rfl | simp [List.all_append, one_all]) rfl ?_) | (refine aLay H _ _ rfl rfl rfl (by (first | exact ⟨rfl, rfl⟩ | exact ⟨by decide, rfl⟩ | (simp []; done) | (constructor <;> simp [] <;> omega))) (by first | rfl | simp [List.all_append, one_all]) (by simp only [lay, List.take_succ_cons, List.take_zero, List.drop_succ_cons, List.drop_zero, List.nil_append, List.cons_append, List.length_cons, List.length_nil, Nat.zero_add, Nat.reduceAdd]; rfl) rfl ?_)); clear H; intro w' H; try dsimp only at H))
    refine bodyPost_ret (res_cell_tmp rfl _ H.hold rfl rfl) rfl ?_
    exact ⟨rfl, H.below⟩
end Go.Proofs.YtbglebchnlfklaaDoor
