/- Ground of the statements LabelDecode, LabelBack, part 4: Sha16, ShaT, Sha17, Lit, Lb1, Ptr8, Ptr6, Ptr7, Ptr9, Ref01b, Ref01c, Ptr10, Ptr11, Lb2, Lb3, Lb4. -/
import Derived.Lib.AppendZeros
import Derived.Shelf.Bytes.SlTrim
import Derived.Test.YticfcelbnkiopaaDoorBL3
namespace Go.Proofs.YticfcelbnkiopaaDoor
set_option maxRecDepth 100000
open Go.RowKit
set_option linter.unusedSimpArgs false
set_option linter.unusedVariables false

theorem S8.word (s : S8) (p : Nat) (h : p < 8) : (s.list.map vw)[p]? = some (vw (s.list.getD p 0)) := by
  rcases p with _ | _ | _ | _ | _ | _ | _ | _ | p
  all_goals first | rfl | omega
def relRS (xs : List UInt8) (vk vp : Value) (w : World) (b2 b3 : Nat) (v6 : Value) (wr : World) : Prop := ∃ (i u : Nat), v6 = .int .i64 (u : Int) ∧ Hid (u = 64 * i) ∧ u ≤ (padL xs).length ∧ SH Nil w wr [.row B8 vp (padL xs), .row U32T vk kL, .blk b3 201 ((foldB (padL xs) i).list.map vw), .blk b2 29 (List.replicate 32 (.int .u8 0))]
def relRO (xs : List UInt8) (s : S8) (vk vp : Value) (w : World) (b2 b3 b7 : Nat) (v8 : Value) (wr : World) : Prop := ∃ (i : Nat), v8 = .int .i64 (i : Int) ∧ i ≤ 32 ∧ SH Nil w wr [.blk b7 29 (outC s i), .row B8 vp (padL xs), .row U32T vk kL, .blk b3 201 (s.list.map vw), .blk b2 29 (List.replicate 32 (.int .u8 0))]
set_option maxHeartbeats 3200000 in
theorem rSum_any (v : Value) (xs : List UInt8) (w : World) (hv : RB w v xs) (hl : xs.length ≤ 500000000) :
    Calls Tryd.prog 89 #[v] w fun e w' => e = .returned (.agg ((shaL xs).map cb).toArray) ∧ Below w.heap.size w w' := by
  have H := SH.start Nil w
  have RO := HOLD.rdOne hv
  have HSL := Lib.hid (fun s => S8.len s)
  have HSO := Lib.hid (fun s : S8 => (one_w s.list : ((s.list.map vw).all fun u => u.oneCell') = true))
  have hpad := fun W (h : RB W v xs) => padded_any v xs W h hl
  obtain ⟨A0, c0, rfl, -⟩ := hv.len
  have hpl : (padL xs).length ≤ 500000200 ∧ (padL xs).length % 64 = 0 := ⟨by simp only [padL, be8, List.length_append, List.length_replicate, List.length_map, List.length_range, List.length_singleton]; omega, padL_len xs⟩
  obtain ⟨hp1, hp2⟩ := hpl
  obtain ⟨n, hn⟩ : ∃ n, n = (padL xs).length := ⟨_, rfl⟩
  rw [← hn] at hp1 hp2 hpad
  have HPAD := Lib.hid hpad
  have HN := Lib.hid hn
  clear hn hv hpad
  go_enter Tryd.func89, Tryd.ntmps89
  go_wp2_with (first
    | (go_at_call 125; refine (start_any _).mono ?_; rintro e w' ⟨rfl, hb⟩; replace H := H.step hb; clear hb)
    | (go_at_call 126; refine (rsteps_any _).mono ?_; rintro e w' ⟨Ak, ck, rfl, ho, hb⟩; replace H := H.pushRow hb ho; clear hb ho)
    | (go_at_call 127; refine (HPAD.out _ ((H.old RO).rd (.slice A0 xs.length c0))).mono ?_; rintro e w' ⟨Ap, cp, rfl, ho, hb⟩; replace H := H.pushRow hb ho; clear hb ho)
    | ((with_reducible refine gSto (.tmp 3) (.tmp 9) ?_); refine aStore H _ _ rfl rfl rfl ⟨by rfl, HSL.out _⟩ (HSO.out _) rfl ?_; clear H; intro w' H; (try dsimp only at H))
    | ((with_reducible refine gDst 2 ?_); refine aAlloc H rfl rfl ?_; clear H; intro b2 w2 H)
    | ((with_reducible refine gDst 3 ?_); refine aAlloc H rfl rfl ?_; clear H; intro b3 w3 H)
    | ((with_reducible refine gDst 7 ?_); refine aAlloc H rfl rfl ?_; clear H; intro b7 w7 H)
    | ((with_reducible refine gLoad ?_); first | (refine aLoad1 H _ rfl rfl (by first | exact (rfl : _ = some (Value.int _ _)) | exact (rfl : _ = some (Value.slice _ _ _)) | exact (rfl : _ = some (Value.bool _)) | exact (rfl : _ = some (Value.string _)) | exact (rfl : _ = some (Value.pointer _)) | rfl | (simp [List.getElem?_append]; done)) rfl ?_) | (refine aLoadC _ rfl rfl (by assumption) rfl ?_) | (refine aLoad H _ rfl rfl (by first | exact part_all (by first | rfl | simp []) | (simp only [List.drop_succ_cons, List.drop_zero, List.take_succ_cons, List.take_zero]; rfl) | (simp [List.drop_append, List.take_append]; rfl)) (by first | rfl | simp []) rfl ?_))
    | ((with_reducible refine gBuild ?_); refine aZero rfl rfl ?_)
    | ((with_reducible refine gStore ?_); (first | (refine aCell H _ _ rfl rfl (by first | exact (rfl : _ = Value.int _ _) | exact (rfl : _ = Value.bool _) | exact (rfl : _ = Value.slice _ _ _) | exact (rfl : _ = Value.string _) | exact (rfl : _ = Value.pointer _) | exact (rfl : _ = Value.func _ _ _) | rfl) (by rfl) (by rfl) (by first | exact of_decide_eq_true rfl | (simp []; done) | (simp []; omega)) (by first | (simp only [List.set_cons_zero, List.set_cons_succ]; rfl) | (simp [List.set_append]; rfl)) rfl ?_) | (refine aStore H _ _ rfl rfl rfl (by (first | exact ⟨rfl, rfl⟩ | exact ⟨by decide, rfl⟩ | (simp []; done) | (constructor <;> simp [] <;> omega))) (by first | rfl | simp [List.all_append, one_all]) rfl ?_) | (refine aLay H _ _ rfl rfl rfl (by (first | exact ⟨rfl, rfl⟩ | exact ⟨by decide, rfl⟩ | (simp []; done) | (constructor <;> simp [] <;> omega))) (by first | rfl | simp [List.all_append, one_all]) (by simp only [lay, List.take_succ_cons, List.take_zero, List.drop_succ_cons, List.drop_zero, List.nil_append, List.cons_append, List.length_cons, List.length_nil, Nat.zero_add, Nat.reduceAdd]; rfl) rfl ?_)); clear H; intro w' H; try dsimp only at H))
  go_loopw [6] (fun v6 wr => relRS xs (.slice Ak 64 ck) (.slice Ap n cp) w b2 b3 v6 wr) (fun v _ => n - (intOf v).toNat)
  case atStart => exact ⟨0, 0, rfl, rfl, by omega, H⟩
  case round =>
    obtain ⟨i, u, rfl, HU, hu, HS⟩ := hrel
    clear H
    have H := HS
    clear HS
    rw [← HN.out] at hu
    have hmod := HU.out
    by_cases hlt : u < n
    · have hui : (u : Int) < (n : Int) := by omega
      obtain ⟨e, he⟩ : ∃ e, e = u + 64 := ⟨_, rfl⟩
      have hen : e ≤ n := by omega
      have hcp : n ≤ cp := by obtain ⟨_, _, hx, h⟩ := (H.hold.rr (.slice Ap n cp)).len; injection hx with _ _ h3; have := HN.out; omega
      obtain ⟨A1, s1, -, -, s4⟩ := cutB Ap cp (padL xs) u e (by omega) (by rw [← HN.out]; exact hen) (by rw [← HN.out]; exact hcp)
      rw [← HN.out] at s1 s4
      have heu : e - u = 64 := by omega
      rw [heu] at s1 s4
      have hue : (u : Int) + 64 = (e : Int) := by omega
      have hew : IntKind.i64.wrap (e : Int) = (e : Int) := i64w _ (by omega) (by omega)
      have hcut : ((padL xs).take e).drop u = ((padL xs).drop (64 * i)).take 64 := by rw [List.drop_take, heu, hmod]
      rw [hcut] at s4
      have hlb : (((padL xs).drop (64 * i)).take 64).length = 64 := by rw [List.length_take, List.length_drop, ← HN.out]; omega
      have cB := fun W (h1 : RB W (.slice A1 64 (cp - u)) (((padL xs).drop (64 * i)).take 64)) (h2 : RR U32T W (.slice Ak 64 ck) kL) => rblock_any (foldB (padL xs) i) _ (.slice A1 64 (cp - u)) (.slice Ak 64 ck) W hlb h1 h2
      have hnx : compB (foldB (padL xs) i) (((padL xs).drop (64 * i)).take 64) = foldB (padL xs) (i + 1) := rfl
      rw [hnx] at cB
      have HB2 := Lib.hid cB
      have S4 := Lib.hid s4
      have hue2 : e = 64 * (i + 1) := by omega
      have HE := Lib.hid hue2
      clear cB s4 hnx hlb hcut heu hmod hue2 he
      generalize foldB (padL xs) i = q at *
      generalize hq2 : foldB (padL xs) (i + 1) = q2 at *
      have HQ2 := Lib.hid hq2
      clear hq2
      go_wp2
      refine startA (fun i => i == 8) (by kernel_rfl) (fun wS hS => ?_)
      replace H := H.drew
      rw [← hS] at H
      have HH := H.hold
      have HS0 : Below wS.heap.size wS wS := Below.refl _ _
      clear hS
      refine takeL 0 HS0 rfl (by kernel_rfl) (by kernel_rfl) (by kernel_rfl) (by kernel_rfl) (by kernel_rfl) (fun _ _ _ h => h) rfl (v := ?_) ?_ ?_
      rotate_left
      · intro w' hw'; refine Eq.trans (xLoad (HH.below hw') _ rfl rfl (part_all (HSL.out _)) (HSL.out _)) ?_; with_reducible rfl
      (try simp only [Act.put, List.setIfInBounds_toArray, List.set_cons_zero, List.set_cons_succ])
      refine takeP 1 rfl (by kernel_rfl) (by kernel_rfl) (by kernel_rfl) (by kernel_rfl) (fun _ _ _ h => h) rfl (v := ?_) ?_ ?_
      rotate_left
      · intro w'; go_simp; (try with_reducible rfl)
      (try simp only [Act.put, List.setIfInBounds_toArray, List.set_cons_zero, List.set_cons_succ])
      refine takeP 2 rfl (by kernel_rfl) (by kernel_rfl) (by kernel_rfl) (by kernel_rfl) (fun _ _ _ h => h) rfl (v := ?_) ?_ ?_
      rotate_left
      · intro w'; go_simp; (try with_reducible rfl)
      (try simp only [Act.put, List.setIfInBounds_toArray, List.set_cons_zero, List.set_cons_succ])
      refine takeP 3 rfl (by kernel_rfl) (by kernel_rfl) (by kernel_rfl) (by kernel_rfl) (fun _ _ _ h => h) rfl (v := ?_) ?_ ?_
      rotate_left
      · intro w'; go_simp; (try with_reducible rfl)
      (try simp only [Act.put, List.setIfInBounds_toArray, List.set_cons_zero, List.set_cons_succ])
      refine takeP 4 rfl (by kernel_rfl) (by kernel_rfl) (by kernel_rfl) (by kernel_rfl) (fun _ _ _ h => h) rfl (v := ?_) ?_ ?_
      rotate_left
      · intro w'; go_simp; (try with_reducible rfl)
      (try simp only [Act.put, List.setIfInBounds_toArray, List.set_cons_zero, List.set_cons_succ])
      refine takeP 5 rfl (by kernel_rfl) (by kernel_rfl) (by kernel_rfl) (by kernel_rfl) (fun _ _ _ h => h) rfl (v := ?_) ?_ ?_
      rotate_left
      · intro w'; go_simp; (try with_reducible rfl)
      (try simp only [Act.put, List.setIfInBounds_toArray, List.set_cons_zero, List.set_cons_succ])
      refine takeP 6 rfl (by kernel_rfl) (by kernel_rfl) (by kernel_rfl) (by kernel_rfl) (fun _ _ _ h => h) rfl (v := ?_) ?_ ?_
      rotate_left
      · intro w'; go_simp; (try with_reducible rfl)
      (try simp only [Act.put, List.setIfInBounds_toArray, List.set_cons_zero, List.set_cons_succ])
      refine stepL 7 rfl (by kernel_rfl) rfl (fun K hK => ?_)
      (go_simp; (with_reducible refine ((HB2.out _ (S4.out _ (H.hold.rr _)) (H.hold.rr _))).mono ?_); rintro e w' ⟨rfl, hb⟩; replace H := H.step hb; replace HS0 := below_two HS0 HS0.size hb; clear hb; refine hK.out _ _ (fun _ _ => HS0) ?_; clear K hK)
      (try simp only [Act.put, List.setIfInBounds_toArray, List.set_cons_zero, List.set_cons_succ])
      refine stepL 8 rfl (by kernel_rfl) rfl (fun K hK => ?_)
      (refine oStore H _ _ rfl rfl rfl ⟨by rfl, HSL.out _⟩ (HSO.out _) ?_; clear H; intro w' H; (try dsimp only at H); refine hK.out _ _ (fun h => by cases h) ?_; clear K hK HS0)
      (try simp only [Act.put, List.setIfInBounds_toArray, List.set_cons_zero, List.set_cons_succ])
      refine doneL (by kernel_rfl) ?_
      go_wp2
      go_roundw
      rw [← HQ2.out] at H
      case rel => first | exact ⟨i + 1, e, by first | rfl | go_num, HE.out, by rw [← HN.out]; exact hen, H⟩ | exact ⟨_, ⟨i + 1, e, by first | rfl | go_num, HE.out, by rw [← HN.out]; exact hen, H⟩, rfl⟩ | exact ⟨_, _, ⟨i + 1, e, by first | rfl | go_num, HE.out, by rw [← HN.out]; exact hen, H⟩, rfl, rfl⟩ | exact ⟨_, _, _, ⟨i + 1, e, by first | rfl | go_num, HE.out, by rw [← HN.out]; exact hen, H⟩, rfl, rfl, rfl⟩ | exact ⟨_, _, _, _, ⟨i + 1, e, by first | rfl | go_num, HE.out, by rw [← HN.out]; exact hen, H⟩, rfl, rfl, rfl, rfl⟩ | exact ⟨_, _, _, _, _, ⟨i + 1, e, by first | rfl | go_num, HE.out, by rw [← HN.out]; exact hen, H⟩, rfl, rfl, rfl, rfl, rfl⟩ | ((repeat (apply Exists.intro)); exact ⟨⟨i + 1, e, by first | rfl | go_num, HE.out, by rw [← HN.out]; exact hen, H⟩, rfl⟩)
      case measure => simp [intOf] <;> omega
    · obtain rfl : u = n := by omega
      have hsha : shaL xs = outB (foldB (padL xs) i) := by rw [shaL, ← HN.out, show u / 64 = i by omega]
      have HSHA := Lib.hid hsha
      clear hsha
      generalize foldB (padL xs) i = q2 at *
      go_wp2_with (first
        | ((with_reducible refine gDst 2 ?_); refine aAlloc H rfl rfl ?_; clear H; intro b2 w2 H)
        | ((with_reducible refine gDst 3 ?_); refine aAlloc H rfl rfl ?_; clear H; intro b3 w3 H)
        | ((with_reducible refine gDst 7 ?_); refine aAlloc H rfl rfl ?_; clear H; intro b7 w7 H)
        | ((with_reducible refine gLoad ?_); first | (refine aLoad1 H _ rfl rfl (by first | exact (rfl : _ = some (Value.int _ _)) | exact (rfl : _ = some (Value.slice _ _ _)) | exact (rfl : _ = some (Value.bool _)) | exact (rfl : _ = some (Value.string _)) | exact (rfl : _ = some (Value.pointer _)) | rfl | (simp [List.getElem?_append]; done)) rfl ?_) | (refine aLoadC _ rfl rfl (by assumption) rfl ?_) | (refine aLoad H _ rfl rfl (by first | exact part_all (by first | rfl | simp []) | (simp only [List.drop_succ_cons, List.drop_zero, List.take_succ_cons, List.take_zero]; rfl) | (simp [List.drop_append, List.take_append]; rfl)) (by first | rfl | simp []) rfl ?_))
        | ((with_reducible refine gBuild ?_); refine aZero rfl rfl ?_)
        | ((with_reducible refine gStore ?_); (first | (refine aCell H _ _ rfl rfl (by first | exact (rfl : _ = Value.int _ _) | exact (rfl : _ = Value.bool _) | exact (rfl : _ = Value.slice _ _ _) | exact (rfl : _ = Value.string _) | exact (rfl : _ = Value.pointer _) | exact (rfl : _ = Value.func _ _ _) | rfl) (by rfl) (by rfl) (by first | exact of_decide_eq_true rfl | (simp []; done) | (simp []; omega)) (by first | (simp only [List.set_cons_zero, List.set_cons_succ]; rfl) | (simp [List.set_append]; rfl)) rfl ?_) | (refine aStore H _ _ rfl rfl rfl (by (first | exact ⟨rfl, rfl⟩ | exact ⟨by decide, rfl⟩ | (simp []; done) | (constructor <;> simp [] <;> omega))) (by first | rfl | simp [List.all_append, one_all]) rfl ?_) | (refine aLay H _ _ rfl rfl rfl (by (first | exact ⟨rfl, rfl⟩ | exact ⟨by decide, rfl⟩ | (simp []; done) | (constructor <;> simp [] <;> omega))) (by first | rfl | simp [List.all_append, one_all]) (by simp only [lay, List.take_succ_cons, List.take_zero, List.drop_succ_cons, List.drop_zero, List.nil_append, List.cons_append, List.length_cons, List.length_nil, Nat.zero_add, Nat.reduceAdd]; rfl) rfl ?_)); clear H; intro w' H; try dsimp only at H))
      go_loopw [8] (fun v8 wr => relRO xs q2 (.slice Ak 64 ck) (.slice Ap u cp) w b2 b3 b7 v8 wr) (fun v _ => 32 - (intOf v).toNat)
      case atStart => exact ⟨0, rfl, by omega, by rw [outC_zero]; exact H⟩
      case round =>
        obtain ⟨i, rfl, hi, HS⟩ := hrel
        clear H
        have H := HS
        clear HS
        by_cases hi32 : i < 32
        · have hii : (i : Int) < 32 := by omega
          have hw := ((H.hold.va (b := b3)).cell (i / 4)).trans (q2.word (i / 4) (by omega))
          have hstep := outC_step q2 i hi32
          have hlen := outC_len q2 i hi
          have hq : (i : Int).tdiv 4 = ((i / 4 : Nat) : Int) := by rw [Int.tdiv_eq_ediv_of_nonneg (by omega)]; push_cast; rfl
          have hm : (i : Int).tmod 4 = ((i % 4 : Nat) : Int) := by rw [Int.tmod_eq_emod_of_nonneg (by omega)]; push_cast; rfl
          have hql : i / 4 < 8 := by omega
          have hrl : i % 4 < 4 := by omega
          have hrj : (24 : Int) - 8 * ((i % 4 : Nat) : Int) = ((24 - 8 * (i % 4) : Nat) : Int) := by omega
          have hje : 24 - 8 * (i % 4) = 8 * (3 - i % 4) := by omega
          have hr : ((q2.list.getD (i / 4) 0).toNat : Int) / 2 ^ (24 - 8 * (i % 4)) = (((q2.list.getD (i / 4) 0).toNat / 256 ^ (3 - i % 4) : Nat) : Int) := by rw [hje, ← pow8]; push_cast; rfl
          have hjl : 24 - 8 * (i % 4) ≤ 24 := by omega
          generalize 24 - 8 * (i % 4) = j at *
          have hx : IntKind.u8.wrap (((q2.list.getD (i / 4) 0).toNat / 256 ^ (3 - i % 4) : Nat) : Int) = ((UInt8.ofNat ((q2.list.getD (i / 4) 0).toNat / 256 ^ (3 - i % 4))).toNat : Int) := by rw [IntKind.wrap_u8, UInt8.toNat_ofNat']; omega
          generalize (q2.list.getD (i / 4) 0).toNat / 256 ^ (3 - i % 4) = q at *
          generalize UInt8.ofNat q = x at *
          have hxq : (q : Int) % 256 = (x.toNat : Int) := by rw [← hx, IntKind.wrap_u8]
          generalize q2.list.getD (i / 4) 0 = y at *
          generalize i / 4 = p at *
          generalize i % 4 = r at *
          have hjb : (j : Int) ≤ 24 := by omega
          have hpb : (p : Int) < 8 := by omega
          have hrb : (r : Int) < 4 := by omega
          have hpw : IntKind.i64.wrap (p : Int) = (p : Int) := i64w _ (by omega) (by omega)
          have hrw : IntKind.i64.wrap (8 * (r : Int)) = 8 * (r : Int) := i64w _ (by omega) (by omega)
          have hju : IntKind.u64.wrap (j : Int) = (j : Int) := by rw [IntKind.wrap_u64]; omega
          have HSTEP := Lib.hid hstep
          have HLEN := Lib.hid hlen
          clear hstep hlen hje
          go_wp2_with (first
            | ((with_reducible refine gDst 36 ?_); refine aLoadC _ rfl rfl hw rfl ?_)
            | ((with_reducible refine gSto (.tmp 44) (.tmp 43) ?_); refine aCell (v := cb x) (new := outC q2 (i + 1)) H _ _ rfl rfl rfl rfl rfl (by rw [HLEN.out]; omega) HSTEP.out rfl ?_; clear H hw; intro w' H; (try dsimp only at H)))
          go_roundw
          case rel => first | exact ⟨i + 1, by go_num, by omega, H⟩ | exact ⟨_, ⟨i + 1, by go_num, by omega, H⟩, rfl⟩ | exact ⟨_, _, ⟨i + 1, by go_num, by omega, H⟩, rfl, rfl⟩ | exact ⟨_, _, _, ⟨i + 1, by go_num, by omega, H⟩, rfl, rfl, rfl⟩ | exact ⟨_, _, _, _, ⟨i + 1, by go_num, by omega, H⟩, rfl, rfl, rfl, rfl⟩ | exact ⟨_, _, _, _, _, ⟨i + 1, by go_num, by omega, H⟩, rfl, rfl, rfl, rfl, rfl⟩ | ((repeat (apply Exists.intro)); exact ⟨⟨i + 1, by go_num, by omega, H⟩, rfl⟩)
          case measure => simp [intOf] <;> omega
        · obtain rfl : i = 32 := by omega
          rw [outC_full] at H
          have hl32 : ((outB q2).map cb).length = 32 := by rw [List.length_map, outB_len]
          go_wp2_with (first
            | ((with_reducible refine gDst 45 ?_); refine aLoad H _ rfl rfl (part_all hl32) hl32 rfl ?_)
            | ((with_reducible refine gSto (.tmp 2) (.tmp 45) ?_); refine aStore H _ _ rfl rfl rfl ⟨by rfl, hl32⟩ (one_all _) rfl ?_; clear H; intro w' H; (try dsimp only at H)))
          refine bodyPost_ret (res_cell rfl _ H.hold rfl (by exact hl32)) rfl ?_
          exact ⟨by rw [HSHA.out], H.below⟩
end Go.Proofs.YticfcelbnkiopaaDoor

namespace Go.Proofs.YticfcelbnkiopaaDoor
set_option maxRecDepth 100000
open Go.RowKit
set_option linter.unusedSimpArgs false
set_option linter.unusedVariables false

/-- How many go to the left. -/
def halfN (n : Nat) : Nat := 2 ^ (lenN (n - 1) - 1)
theorem lenN_pos (n : Nat) (h : 0 < n) : 0 < lenN n := by rw [lenN, if_neg (by omega)]; omega
theorem lenN_low (n : Nat) (h : 0 < n) : 2 ^ (lenN n - 1) ≤ n := by
  rw [lenN, if_neg (by omega), Nat.add_sub_cancel]
  exact Nat.log2_self_le (by omega)
theorem lenN_high (n : Nat) : n < 2 ^ lenN n := by
  rw [lenN]
  split
  · subst_vars; decide
  · exact Nat.lt_log2_self
theorem lenN_is (n k : Nat) (h1 : 2 ^ k ≤ n) (h2 : n < 2 ^ (k + 1)) : lenN n = k + 1 := by
  have h0 : 0 < 2 ^ k := Nat.two_pow_pos k
  rw [lenN, if_neg (by omega), (Nat.log2_eq_iff (by omega)).2 ⟨h1, h2⟩]
theorem halfN_pos (n : Nat) : 0 < halfN n := Nat.two_pow_pos _
theorem halfN_lt (n : Nat) (h : 2 ≤ n) : halfN n < n := by have := lenN_low (n - 1) (by omega); rw [halfN]; omega
/-- The reference's way. -/
theorem halfN_is (n k : Nat) (h1 : 2 ^ k < n) (h2 : n ≤ 2 * 2 ^ k) : halfN n = 2 ^ k := by
  rw [halfN, lenN_is (n - 1) k (by omega) (by rw [Nat.pow_succ]; omega), Nat.add_sub_cancel]
def treeF : Nat → List (List UInt8) → List UInt8
  | 0, _ => List.replicate 32 0
  | f + 1, l => if l.length = 0 then List.replicate 32 0 else if l.length = 1 then l.getD 0 [] else shaL (treeF f (l.take (halfN l.length)) ++ treeF f (l.drop (halfN l.length)))
def treeL (l : List (List UInt8)) : List UInt8 := treeF l.length l
theorem treeF_eq : ∀ (f : Nat) (l : List (List UInt8)), l.length ≤ f → treeF f l = treeL l := by
  intro f
  induction f using Nat.strongRecOn with
  | ind f ih =>
    intro l hl
    rcases f with _ | f
    · have : l.length = 0 := by omega
      rw [treeL, this]
    · by_cases h0 : l.length = 0
      · rw [treeL, h0, treeF, treeF, if_pos h0]
      · obtain ⟨n, hn⟩ : ∃ n, l.length = n + 1 := ⟨l.length - 1, by omega⟩
        rw [treeL, hn, treeF, treeF, if_neg h0, if_neg h0]
        by_cases h1 : l.length = 1
        · rw [if_pos h1, if_pos h1]
        · rw [if_neg h1, if_neg h1]
          have hp := halfN_pos l.length
          have hq := halfN_lt l.length (by omega)
          have t1 : (l.take (halfN l.length)).length ≤ n := by rw [List.length_take]; omega
          have t2 : (l.drop (halfN l.length)).length ≤ n := by rw [List.length_drop]; omega
          rw [ih f (by omega) _ (by omega), ih f (by omega) _ (by omega)]
          by_cases hf : n < f + 1
          · rw [ih n hf _ t1, ih n hf _ t2]
          · have : n = f := by omega
            subst this
            rw [ih n (by omega) _ t1, ih n (by omega) _ t2]
theorem treeL_zero (l : List (List UInt8)) (h : l.length = 0) : treeL l = List.replicate 32 0 := by rw [treeL, h]; rfl
theorem treeL_one (l : List (List UInt8)) (h : l.length = 1) : treeL l = l.getD 0 [] := by rw [treeL, h, treeF, if_neg (by omega), if_pos h]
theorem treeL_many (l : List (List UInt8)) (h : 2 ≤ l.length) : treeL l = shaL (treeL (l.take (halfN l.length)) ++ treeL (l.drop (halfN l.length))) := by
  obtain ⟨n, hn⟩ : ∃ n, l.length = n + 1 := ⟨l.length - 1, by omega⟩
  have hp := halfN_pos l.length
  have hq := halfN_lt l.length (by omega)
  rw [treeL, hn, treeF, if_neg (by omega), if_neg (by omega), ← hn, treeF_eq n _ (by rw [List.length_take]; omega), treeF_eq n _ (by rw [List.length_drop]; omega)]
theorem treeL_len (l : List (List UInt8)) (h : ∀ x ∈ l, x.length = 32) : (treeL l).length = 32 := by
  by_cases h0 : l.length = 0
  · rw [treeL_zero l h0, List.length_replicate]
  · by_cases h1 : l.length = 1
    · rw [treeL_one l h1]
      match l, h1 with
      | [x], _ => exact h x (by simp)
    · rw [treeL_many l (by omega), shaL_len]
end Go.Proofs.YticfcelbnkiopaaDoor

namespace Go.Proofs.YticfcelbnkiopaaDoor
set_option maxRecDepth 100000
open Go.RowKit
set_option linter.unusedSimpArgs false
set_option linter.unusedVariables false

/-- A hash. -/
abbrev H32 := { l : List UInt8 // l.length = 32 }
theorem Tryd.info_h32 : (Tryd.prog.info? 29).map (fun i => (i.zero, i.size, i.bytes)) = some (some (.agg (List.replicate 32 (.int .u8 0)).toArray), 32, 32) := by kernel_rfl
def H32T : Ty H32 := ⟨29, 32, 32, .agg (List.replicate 32 (.int .u8 0)).toArray, fun x => x.1.map cb, fun x => by rw [List.length_map]; exact x.2, fun x u hu => by obtain ⟨y, -, rfl⟩ := List.mem_map.1 hu; rfl, by decide, by decide⟩
def hL (hs : List H32) : List (List UInt8) := hs.map (·.1)
theorem hL_len (hs : List H32) : (hL hs).length = hs.length := by rw [hL, List.length_map]
theorem hL_all (hs : List H32) : ∀ x ∈ hL hs, x.length = 32 := fun x hx => by
  obtain ⟨y, -, rfl⟩ := List.mem_map.1 hx
  exact y.2
theorem tree_hL (hs : List H32) : (treeL (hL hs)).length = 32 := treeL_len _ (hL_all hs)
theorem VA.rbn {w : World} {b : Nat} {t : TypeId} {xs : List UInt8} (h : VA w b t (xs.map cb)) (n : Nat) (hn : xs.length = n) (hm : n ≤ 1000000000) : RB w (.slice (some ⟨b, 0, none⟩) n n) xs := by
  subst hn
  exact RR.range (T := B8) (by rw [U8_all]; exact h.all) (by omega)
/-- A hash of a row that is loaded. -/
theorem RR.h32 {w : World} {ad : Addr} {n c : Nat} {hs : List H32} (h : RR H32T w (.slice (some ad) n c) hs) (i : Nat) (hi : i < hs.length) : ∀ (j : Nat) (v : Value), (hs[i].1.map cb)[j]? = some v → w.cell? ((ad.add (i * 32)).add j) = some v := by
  obtain ⟨ad', he, h1⟩ := h.at_ i hi
  injection he with he
  subst he
  intro j v hv
  have h2 := h1 j v hv
  rw [← h2]
  congr 1
  show (ad.add (i * 32)).add j = ad.add (i * 32 + j)
  unfold Addr.add
  by_cases h1 : i * 32 = 0 <;> by_cases h2 : j = 0 <;> simp [h1, h2, Nat.add_assoc]
section
variable {ops : Array Oper} {rest : List Oper} {o : Oper} {a : Act} {Q : Exit → Act → World → Prop} {w : World} {ρ : Operand → Value}
/-- A hash that is loaded from where its cells stand. -/
theorem xLoadH (y : Operand) (ho : o.op = .load 29 y) {ad : Addr} {xs : List UInt8} (hx : ρ y = .pointer (some ad)) (hl : xs.length = 32) (hc : ∀ (j : Nat) (v : Value), (xs.map cb)[j]? = some v → w.cell? (ad.add j) = some v) : (execOp ρ o).run Tryd.prog w = .ok (.value (.agg (xs.map cb).toArray)) w :=
  exec_loadA _ y ho ad hx _ _ hc Tryd.underlying29 rfl (by rw [List.length_map, hl]; kernel_rfl)
end
end Go.Proofs.YticfcelbnkiopaaDoor

namespace Go.Proofs.YticfcelbnkiopaaDoor
set_option maxRecDepth 100000
open Go.RowKit
set_option linter.unusedSimpArgs false
set_option linter.unusedVariables false

section
variable {ops : Array Oper} {rest : List Oper} {o : Oper} {a : Act} {Q : Exit → Act → World → Prop} {F : Nat → Prop} {w0 w : World} {L : List Own} {K : Act → World → Prop}
theorem SH.lit (H : SH F w0 w L) (C : Array Value) (ys : List UInt8) (hcs : C.toList = ys.map cb) (hm : ys.length ≤ 1000000000) (fr : Nat × Nat) : SH F w0 (w.alloc (.cells C 5 fr)) (.rd B8 (.slice (some ⟨w.heap.size, 0, none⟩) ys.length ys.length) ys :: L) :=
  H.push (alloc_belowAt w _) _ (const_rr w ys C fr hcs hm) (fun b ⟨_, ad, n, c, e, hb⟩ => by
    injection e with e
    injection e with e
    rw [← hb, ← e]
    exact Nat.le_refl _)
theorem exec_const {ρ : Operand → Value} (C : Array Value) (n c : Nat) (y : Operand) (ho : o.op = .convert 22 22 y) (hx : ρ y = .slice (some ⟨w.heap.size, 0, none⟩) n c) : (execOp ρ o).run Tryd.prog (w.alloc (.cells C 5)) = .ok (.value (.slice (some ⟨w.heap.size, 0, none⟩) n c)) (w.alloc (.cells C 5 (C.size, C.size + 1))) := by
  unfold execOp
  simp only [ho, hx, Sem.run_bind, const_conv, Result.andThen_ok]
  rfl
theorem oConst {C : Array Value} (ys : List UInt8) (n : Nat) (hn : ys.length = n) (hcs : C.toList = ys.map cb) (hm : ys.length ≤ 1000000000) (H : SH F w0 w L) (y : Operand) (ho : o.op = .convert 22 22 y) (hx : a.eval y = .slice (some ⟨w.heap.size, 0, none⟩) n n)
    (h : ∀ A w', Below w.heap.size w w' → SH F w0 w' (.rd B8 (.slice A n n) ys :: L) → K (a.put o.dst (.slice A n n)) w') : o.wp Tryd.prog a (w.alloc (.cells C 5)) K Q := by
  subst hn
  exact opV (exec_const C _ _ y ho hx) (h _ _ (alloc_belowAt w _) (H.lit C ys hcs hm _))
theorem aConst {C : Array Value} (ys : List UInt8) (n : Nat) (hn : ys.length = n) (hcs : C.toList = ys.map cb) (hm : ys.length ≤ 1000000000) (H : SH F w0 w L) (y : Operand) (ho : o.op = .convert 22 22 y) (hx : a.eval y = .slice (some ⟨w.heap.size, 0, none⟩) n n) (hw : Region.wanted o (yielded ops a.tmps) = true)
    (h : ∀ A w', SH F w0 w' (.rd B8 (.slice A n n) ys :: L) → wpList Tryd.prog ops Q rest (a.put o.dst (.slice A n n)) w') : wpList Tryd.prog ops Q (o :: rest) a (w.alloc (.cells C 5)) := by
  subst hn
  exact stepV (exec_const C _ _ y ho hx) hw (h _ _ (H.lit C ys hcs hm _))
/-! append(b, make([]byte, n)...): the translation hands the number n. -/
theorem zero_cells (n : Nat) : (Builtin.zeroCells (Value.int .u8 0).cells n) = ((List.replicate n (0 : UInt8)).map cb).toArray := by
  apply Array.ext'
  rw [Builtin.zeroCells]
  simp only [Array.toList_map, Array.toList_range]
  refine List.ext_getElem (by simp [Value.cells]) fun i h1 h2 => ?_
  simp [Value.cells, cb, Nat.mod_one]
theorem run_append_zeros (base : Nat) (ty : TypeId) (v : Value) (xs : List UInt8) (n : Nat) (hown : OB w base v xs) (hl : xs.length + n ≤ 1000000000) (hb : base ≤ w.heap.size) (h0 : 0 < n) (hx0 : 0 < xs.length) :
    ∃ v' w', (Builtin.append_ #[22, 3] ty #[v, .int .i64 (n : Int)]).run Tryd.prog w = .ok v' w' ∧ OB w' base v' (xs ++ List.replicate n 0) ∧ w.grownBy w' v.ownBlock ∧ (v'.ownBlock = v.ownBlock ∨ v'.ownBlock = some w.heap.size) := by
  have ht := Tryd.underlying22
  have hti := Tryd.underlying3
  obtain ⟨i0, hi, hzz⟩ := Option.map_eq_some_iff.1 Tryd.info_u8
  simp only [Prod.mk.injEq] at hzz
  obtain ⟨hz, hs, hby⟩ := hzz
  change i0.size = 1 at hs
  change i0.bytes = 1 at hby
  have hw : IntKind.i64.wrap (n : Int) = n := i64w _ (by omega) (by omega)
  have hneg : ¬ ((n : Int) < 0) := by omega
  have h48i : ¬ (281474976710656 < (n : Int)) := by omega
  have hn0 : ¬ n = 0 := by omega
  rcases hown.2 with ⟨rfl, hx⟩ | ⟨g, cap, cur, rfl, hbg, hg, hnc, hcm, hcs, htake⟩
  · omega
  · change cur.size = cap * 1 at hcs
    rw [Nat.mul_one] at hcs
    have hxl : ((xs ++ List.replicate n 0).map cb).length = xs.length + n := by simp
    have hall : B8.all (xs ++ List.replicate n 0) = xs.map cb ++ (List.replicate n (0 : UInt8)).map cb := by rw [U8_all, List.map_append]
    have htake' : cur.toList.take xs.length = xs.map cb := by
      have h := htake
      rw [U8_all] at h
      change cur.toList.take (xs.length * 1) = _ at h
      rwa [Nat.mul_one] at h
    by_cases hroom : xs.length + n ≤ cap
    · have hst := run_storeCells_at Tryd.prog g xs.length 5 ((List.replicate n (0 : UInt8)).map cb) 0 cur w hg (by simp; omega) (by simp [Value.oneCell'])
      simp only [Nat.add_zero] at hst
      have hr : (Builtin.append_ #[22, 3] ty #[.slice (some ⟨g, 0, none⟩) xs.length cap, .int .i64 (n : Int)]).run Tryd.prog w = .ok (.slice (some ⟨g, 0, none⟩) (xs.length + n) cap) (w.setRow g (cur.toList.take xs.length ++ (List.replicate n (0 : UInt8)).map cb ++ cur.toList.drop (xs.length + ((List.replicate n (0 : UInt8)).map cb).length)).toArray) := by
        simp [Builtin.append_, run_underlying ht, run_underlying hti, sizeOf, typeInfo, zeroValue, hi, hz, asInt, asIntOf, hw, hneg, h48i, hs, hby, hroom, zero_cells, Addr.add_lit, hn0]
        simp only [List.map_replicate, List.length_replicate, List.append_assoc] at hst
        rw [hst]
        rfl
      refine ⟨_, _, hr, ⟨?_, .inr ⟨g, cap, _, by rw [List.length_append, List.length_replicate], hbg, setRow_heap w g cur _ _ _ hg, by rw [List.length_append, List.length_replicate]; exact hroom, hcm, ?_, ?_⟩⟩, ⟨rfl, rfl, rfl, by simp, fun k _ hk => setRow_other w g k _ (fun e => hk (by simp [Value.ownBlock, e]))⟩, .inl rfl⟩
      · rw [Ty.all_length]
      · show _ = cap * 1
        simp
        omega
      · show _ = B8.all _
        rw [hall, htake', show B8.sz = 1 from rfl, List.toList_toArray, Nat.mul_one, ← List.map_append, show (xs ++ List.replicate n (0 : UInt8)).length = ((xs ++ List.replicate n (0 : UInt8)).map cb).length by simp]
        exact List.take_left
    · have hcx : ∀ j u, (xs.map cb)[j]? = some u → w.drew.cell? ((⟨g, 0, none⟩ : Addr).add j) = some u := fun j u hj => by
        have := hown.cells (g := g) rfl j u (by rw [U8_all]; exact hj)
        simpa using this
      have hfo := run_firstCells_some (P := Tryd.prog) w.drew 1 xs.length ⟨g, 0, none⟩ xs.length cap (xs.map cb) (by simp) hcx
      have hgs := growslice_fits (need := xs.length + n) (old := cap) (bytes := 1) (by omega) (by omega)
      have h63' : ¬ (9223372036854775807 < ((xs.length : Int) + (n : Int))) := by omega
      have h48' : ¬ (281474976710656 < Builtin.nextslicecap (xs.length + n) cap) := by omega
      have hr : (Builtin.append_ #[22, 3] ty #[.slice (some ⟨g, 0, none⟩) xs.length cap, .int .i64 (n : Int)]).run Tryd.prog w = .ok (.slice (some ⟨w.heap.size, 0, none⟩) (xs.length + n) (grownCap w (xs.length + n) cap 5)) (w.drew.alloc (.cells ((xs.map cb).toArray ++ Builtin.zeroCells (Value.int .u8 0).cells n ++ Builtin.zeroCells (Value.int .u8 0).cells (grownCap w (xs.length + n) cap 5 - (xs.length + n))) 5)) := by
        simp [Builtin.append_, run_underlying ht, run_underlying hti, sizeOf, typeInfo, zeroValue, hi, hz, asInt, asIntOf, hw, hneg, h48i, hs, hby, hroom, hn0, Question.forced, hfo, newRow, grownCap, h63', h48']
      refine ⟨_, _, hr, ⟨by rw [Ty.all_length], .inr ⟨w.heap.size, _, _, by rw [List.length_append, List.length_replicate], hb, heap_alloc_new w.drew _, by rw [List.length_append, List.length_replicate]; exact grownCap_ge _ _ _ _, grownCap_le_maxLen _ _ _ _ (by show _ ≤ 9223372036854775807; omega), ?_, ?_⟩⟩, ⟨rfl, rfl, rfl, by simp, fun k hk _ => heap_alloc_old w.drew _ hk⟩, .inr rfl⟩
      · have := grownCap_ge w (xs.length + n) cap 5
        show _ = _ * 1
        simp only [Array.size_append, List.size_toArray, size_zeroCells, List.length_map]
        show xs.length + n * 1 + _ * 1 = _ * 1
        omega
      · show _ = B8.all _
        rw [hall, zero_cells, Array.toList_append, Array.toList_append, List.toList_toArray, List.toList_toArray, ← List.map_append, show (xs ++ List.replicate n (0 : UInt8)).length * B8.sz = ((xs ++ List.replicate n (0 : UInt8)).map cb).length by rw [List.length_map]; exact Nat.mul_one _]
        exact List.take_left
theorem aAppZ (n : Nat) (H : SH F w0 w L) (s x : Operand) (ho : o.op = .call { callee := .builtin .append, args := #[s, x], argTypes := #[22, 3] }) {A : Option Addr} {len cap : Nat} {xs : List UInt8} {put : Value → List UInt8 → List Own} (hs : a.eval s = .slice A len cap) (hx : a.eval x = .int .i64 (n : Int)) [hr : HasR L (.slice A len cap) UInt8 B8 xs put] (hl : xs.length + n ≤ 1000000000 ∧ 0 < n ∧ 0 < xs.length)
    (hw : Region.wanted o (yielded ops a.tmps) = true) (h : ∀ v1 w1 zs, Hid (zs = xs ++ List.replicate n 0) → SH F w0 w1 (put v1 zs) → wpList Tryd.prog ops Q rest (a.put o.dst v1) w1) : wpList Tryd.prog ops Q (o :: rest) a w := by
  obtain ⟨i, hi, h2'⟩ := hr.ix
  obtain ⟨v1, w1, h1, h2, h3, h4⟩ := run_append_zeros (w := w) 0 o.type _ xs n (H.or0 i hi) hl.1 (Nat.zero_le _) hl.2.1 hl.2.2
  have hat : v1.ownBlock = (Value.slice A len cap).ownBlock ∨ ∃ b, v1.ownBlock = some b ∧ w.heap.size ≤ b := by
    rcases h4 with h4 | h4
    · exact .inl h4
    · exact .inr ⟨_, h4, Nat.le_refl _⟩
  have hr1 : (execOp a.eval o).run Tryd.prog w = .ok (.value v1) w1 := by
    unfold execOp
    simp only [ho, resolve, invoke, builtin, Sem.run_bind, Sem.run_pure, Result.andThen_ok, List.map_toArray, List.map_cons, List.map_nil, hs, hx, h1]
  have H2 := H.grow i hi h2 h3 hat
  rw [h2'] at H2
  exact stepV hr1 hw (h v1 w1 _ (Lib.hid rfl) H2)
end
end Go.Proofs.YticfcelbnkiopaaDoor

namespace Go.Proofs.YticfcelbnkiopaaDoor
set_option maxRecDepth 100000
open Go.RowKit
set_option linter.unusedSimpArgs false
set_option linter.unusedVariables false

theorem slice_at {f : FuncId} {args : Array Value} {w : World} {l : List UInt8} {n : Nat} (hn : l.length = n) (h : Calls Tryd.prog f args w fun e w' => ∃ v, e = .returned v ∧ OB w' w.heap.size v l ∧ Below w.heap.size w w') :
    Calls Tryd.prog f args w fun e w' => ∃ A c, e = .returned (.slice A n c) ∧ OB w' w.heap.size (.slice A n c) l ∧ Below w.heap.size w w' :=
  h.mono fun e w' ⟨v, h1, h2, h3⟩ => by
    obtain ⟨A, c, rfl, -⟩ := h2.reads.len
    rw [hn] at h1 h2
    exact ⟨A, c, h1, h2, h3⟩
/-- A label's cells. -/
def lbC (u : UInt32) (p : PT) (v : Value) : List Value := u32 u :: (p.cells ++ [v])
theorem lbC_len (u : UInt32) (p : PT) (v : Value) : (lbC u p v).length = 37 := by rw [lbC, List.length_cons, List.length_append, PT.len]; rfl
theorem lbC_txg (u : UInt32) (p : PT) (v : Value) : (lbC u p v)[0]? = some (u32 u) := rfl
theorem lbC_root (u : UInt32) (p : PT) (v : Value) : ((lbC u p v).drop 1).take 35 = p.cells := by rw [lbC, List.drop_succ_cons, List.drop_zero, List.take_left' p.len]
theorem lbC_map (u : UInt32) (p : PT) (v : Value) : (lbC u p v)[36]? = some v := by
  rw [lbC, List.getElem?_cons_succ, List.getElem?_append_right (by rw [PT.len]; omega), PT.len]; rfl
theorem lbC_one (u : UInt32) (p : PT) (v : Value) (h : v.oneCell' = true) : ((lbC u p v).all fun u => u.oneCell') = true := by
  rw [lbC, List.all_cons, List.all_append, List.all_cons, h, PT.cells, List.all_append, one_all]; rfl
/-- The bytes of a label ahead of its hash. -/
def labB (u : UInt32) (p : PT) (xs : List UInt8) : List UInt8 := [67, 65, 85, 84] ++ put32L u.toNat ++ encL p ++ xs ++ List.replicate 108 0
def labP (u : UInt32) (p : PT) : List UInt8 := [67, 65, 85, 84] ++ put32L u.toNat ++ encL p
theorem labP_len (u : UInt32) (p : PT) : (labP u p).length = 52 := by rw [labP, List.length_append, encL_length]; rfl
theorem put32L_len (n : Nat) : (put32L n).length = 4 := rfl
theorem labB_len (u : UInt32) (p : PT) (xs : List UInt8) (h : xs.length = 64) : (labB u p xs).length = 224 := by
  simp only [labB, List.length_append, put32L_len, encL_length, h, List.length_replicate]; rfl
def labW (u : UInt32) (p : PT) (xs : List UInt8) : List UInt8 := labB u p xs ++ shaL (labB u p xs)
theorem labW_len (u : UInt32) (p : PT) (xs : List UInt8) (h : xs.length = 64) : (labW u p xs).length = 256 := by
  rw [labW, List.length_append, labB_len _ _ _ h, shaL_len]
def labOk (p : PT) (xs : List UInt8) : Bool := p.may && xs.length == 64
def labE (p : PT) (xs : List UInt8) : Int := if labOk p xs = true then 0 else 1
def labL (u : UInt32) (p : PT) (xs : List UInt8) : List UInt8 := if labOk p xs = true then labW u p xs else []
theorem labOk_cases (p : PT) (xs : List UInt8) : (labOk p xs = false ∧ p.may = false) ∨ (labOk p xs = false ∧ p.may = true ∧ xs.length ≠ 64) ∨ (labOk p xs = true ∧ p.may = true ∧ xs.length = 64) := by
  unfold labOk
  cases p.may with
  | false => exact .inl ⟨rfl, rfl⟩
  | true =>
    by_cases h : xs.length = 64
    · exact .inr (.inr ⟨by simp [h], rfl, h⟩)
    · exact .inr (.inl ⟨by simp [h], rfl, h⟩)
theorem OB.none (w : World) (base : Nat) : OB w base (.slice none 0 0) [] := World.ownsRow_nil _ _ _ _
set_option maxHeartbeats 1600000 in
theorem labEncode_any (u : UInt32) (p : PT) (A : Option Addr) (c : Nat) (xs : List UInt8) (w : World) (hv : RB w (.slice A xs.length c) xs) :
    Calls Tryd.prog 36 #[.agg (lbC u p (.slice A xs.length c)).toArray] w fun e w' => ∃ v, e = .returned (.tuple #[v, .int .i64 (labE p xs)]) ∧ OB w' w.heap.size v (labL u p xs) ∧ Below w.heap.size w w' := by
  have H := SH.start Nil w
  have RO := HOLD.rdOne hv
  have HLR := Lib.hid (lbC_root u p (.slice A xs.length c))
  have HLM := Lib.hid (lbC_map u p (.slice A xs.length c))
  have HPL := Lib.hid p.len
  have cM : ∀ W, Calls Tryd.prog 83 #[.agg p.cells.toArray] W fun e w' => e = .returned (.bool p.may) ∧ Below W.heap.size W w' := fun W => May_any p W
  have cE : ∀ W, Calls Tryd.prog 84 #[.agg p.cells.toArray] W fun e w' => e = .returned (.agg ((encL p).map cb).toArray) ∧ Below W.heap.size W w' := fun W => Encode_any p W
  unfold labL labE
  rcases labOk_cases p xs with ⟨h1, h2⟩ | ⟨h1, h2, h3⟩ | ⟨h1, h2, h3⟩
  · rw [h1, if_neg (by decide), if_neg (by decide)]
    rw [h2] at cM
    clear h1 h2
    go_enter Tryd.func36, Tryd.ntmps36
    go_wp2_with (first
      | ((with_reducible refine gDst 8 ?_); refine aLoad H _ rfl rfl HLR.out HPL.out rfl ?_)
      | (go_at_call 83; (with_reducible refine (cM _).mono ?_); rintro e w' ⟨rfl, hb⟩; replace H := H.step hb; clear hb)
      | ((with_reducible refine gDst 1 ?_); refine aBox H _ rfl rfl rfl ?_; clear H; intro b1 w1 H)
      | ((with_reducible refine gDst 4 ?_); refine aAlloc H rfl rfl ?_; clear H; intro b4 w4 H)
      | ((with_reducible refine gDst 6 ?_); refine aAlloc H rfl rfl ?_; clear H; intro b6 w6 H)
      | ((with_reducible refine gLoad ?_); first | (refine aLoad1 H _ rfl rfl (by first | exact (rfl : _ = some (Value.int _ _)) | exact (rfl : _ = some (Value.slice _ _ _)) | exact (rfl : _ = some (Value.bool _)) | exact (rfl : _ = some (Value.string _)) | exact (rfl : _ = some (Value.pointer _)) | rfl | (simp [List.getElem?_append]; done)) rfl ?_) | (refine aLoadC _ rfl rfl (by assumption) rfl ?_) | (refine aLoad H _ rfl rfl (by first | exact part_all (by first | rfl | simp []) | (simp only [List.drop_succ_cons, List.drop_zero, List.take_succ_cons, List.take_zero]; rfl) | (simp [List.drop_append, List.take_append]; rfl)) (by first | rfl | simp []) rfl ?_))
      | ((with_reducible refine gStore ?_); (first | (refine aStore H _ _ rfl rfl rfl (by (first | exact ⟨rfl, rfl⟩ | exact ⟨by decide, rfl⟩ | (simp []; done) | (constructor <;> simp [] <;> omega))) (by first | rfl | simp [List.all_append, one_all]) rfl ?_) | (refine aLay H _ _ rfl rfl rfl (by (first | exact ⟨rfl, rfl⟩ | exact ⟨by decide, rfl⟩ | (simp []; done) | (constructor <;> simp [] <;> omega))) (by first | rfl | simp [List.all_append, one_all]) (by simp only [lay, List.take_succ_cons, List.take_zero, List.drop_succ_cons, List.drop_zero, List.nil_append, List.cons_append, List.length_cons, List.length_nil, Nat.zero_add, Nat.reduceAdd]; rfl) rfl ?_)); clear H; intro w' H; try dsimp only at H)
      | (at_builtin; refine aAppB1 _ H _ _ rfl rfl rfl (by first | omega | (have := HCL.out; omega)) rfl ?_; clear H; intro v' w' ys HY H; (try dsimp only at H); obtain ⟨A', c', rfl, hc'⟩ := (H.hold.rr v').len))
    go_ret2
    exact ⟨_, rfl, OB.none _ _, H.below⟩
  · rw [h1, if_neg (by decide), if_neg (by decide)]
    rw [h2] at cM
    clear h1 h2
    have hne : ((xs.length : Int) != 64) = true := by simp; omega
    have hne1 : ((xs.length : Int) == 64) = false := beq_eq_false_iff_ne.mpr (by omega)
    go_enter Tryd.func36, Tryd.ntmps36
    go_wp2_with (first
      | ((with_reducible refine gDst 8 ?_); refine aLoad H _ rfl rfl HLR.out HPL.out rfl ?_)
      | ((with_reducible refine gDst 13 ?_); refine aLoad1 H _ rfl rfl HLM.out rfl ?_)
      | (go_at_call 83; (with_reducible refine (cM _).mono ?_); rintro e w' ⟨rfl, hb⟩; replace H := H.step hb; clear hb)
      | ((with_reducible refine gDst 1 ?_); refine aBox H _ rfl rfl rfl ?_; clear H; intro b1 w1 H)
      | ((with_reducible refine gDst 4 ?_); refine aAlloc H rfl rfl ?_; clear H; intro b4 w4 H)
      | ((with_reducible refine gDst 6 ?_); refine aAlloc H rfl rfl ?_; clear H; intro b6 w6 H)
      | ((with_reducible refine gLoad ?_); first | (refine aLoad1 H _ rfl rfl (by first | exact (rfl : _ = some (Value.int _ _)) | exact (rfl : _ = some (Value.slice _ _ _)) | exact (rfl : _ = some (Value.bool _)) | exact (rfl : _ = some (Value.string _)) | exact (rfl : _ = some (Value.pointer _)) | rfl | (simp [List.getElem?_append]; done)) rfl ?_) | (refine aLoadC _ rfl rfl (by assumption) rfl ?_) | (refine aLoad H _ rfl rfl (by first | exact part_all (by first | rfl | simp []) | (simp only [List.drop_succ_cons, List.drop_zero, List.take_succ_cons, List.take_zero]; rfl) | (simp [List.drop_append, List.take_append]; rfl)) (by first | rfl | simp []) rfl ?_))
      | ((with_reducible refine gStore ?_); (first | (refine aStore H _ _ rfl rfl rfl (by (first | exact ⟨rfl, rfl⟩ | exact ⟨by decide, rfl⟩ | (simp []; done) | (constructor <;> simp [] <;> omega))) (by first | rfl | simp [List.all_append, one_all]) rfl ?_) | (refine aLay H _ _ rfl rfl rfl (by (first | exact ⟨rfl, rfl⟩ | exact ⟨by decide, rfl⟩ | (simp []; done) | (constructor <;> simp [] <;> omega))) (by first | rfl | simp [List.all_append, one_all]) (by simp only [lay, List.take_succ_cons, List.take_zero, List.drop_succ_cons, List.drop_zero, List.nil_append, List.cons_append, List.length_cons, List.length_nil, Nat.zero_add, Nat.reduceAdd]; rfl) rfl ?_)); clear H; intro w' H; try dsimp only at H)
      | (at_builtin; refine aAppB1 _ H _ _ rfl rfl rfl (by first | omega | (have := HCL.out; omega)) rfl ?_; clear H; intro v' w' ys HY H; (try dsimp only at H); obtain ⟨A', c', rfl, hc'⟩ := (H.hold.rr v').len))
    go_ret2
    exact ⟨_, rfl, OB.none _ _, H.below⟩
  · rw [h1, if_pos rfl, if_pos rfl]
    rw [h2] at cM
    clear h1 h2
    have HX := Lib.hid h3
    have HEL := Lib.hid (encL_length p)
    have HEM := Lib.hid (show ((encL p).map cb).length = 44 by rw [List.length_map, encL_length])
    have cP : ∀ v W, RB W v [67, 65, 85, 84] → Calls Tryd.prog 85 #[v, .int .u32 (u.toNat : Int)] W fun e w' => ∃ A c, e = .returned (.slice A 8 c) ∧ OB w' W.heap.size (.slice A 8 c) ([67, 65, 85, 84] ++ put32L u.toNat) ∧ Below W.heap.size W w' := fun v W h => slice_at rfl (Put32_any v _ u.toNat W h (by decide) u.toNat_lt)
    have HP := Lib.hid cP
    have hl8 : ([67, 65, 85, 84] ++ put32L u.toNat).length = 8 := rfl
    clear cP
    generalize ht : put32L u.toNat = t at *
    have ht4 : t.length = 4 := by rw [← ht]; rfl
    rw [h3] at hv RO HLR HLM ⊢
    clear h3
    go_enter Tryd.func36, Tryd.ntmps36
    go_wp2_with (first
      | ((with_reducible refine gDst 8 ?_); refine aLoad H _ rfl rfl HLR.out HPL.out rfl ?_)
      | ((with_reducible refine gDst 13 ?_); refine aLoad1 H _ rfl rfl HLM.out rfl ?_)
      | ((with_reducible refine gDst 18 ?_); refine aLoad H _ rfl rfl HLR.out HPL.out rfl ?_)
      | ((with_reducible refine gSto (.tmp 4) (.tmp 19) ?_); refine aStore H _ _ rfl rfl rfl ⟨by rfl, HEM.out⟩ (one_all _) rfl ?_; clear H; intro w' H; (try dsimp only at H))
      | (go_at_call 83; (with_reducible refine (cM _).mono ?_); rintro e w' ⟨rfl, hb⟩; replace H := H.step hb; clear hb)
      | (go_at_call 84; (with_reducible refine (cE _).mono ?_); rintro e w' ⟨rfl, hb⟩; replace H := H.step hb; clear hb)
      | ((with_reducible refine gDst 1 ?_); refine aBox H _ rfl rfl rfl ?_; clear H; intro b1 w1 H)
      | ((with_reducible refine gDst 4 ?_); refine aAlloc H rfl rfl ?_; clear H; intro b4 w4 H)
      | ((with_reducible refine gDst 6 ?_); refine aAlloc H rfl rfl ?_; clear H; intro b6 w6 H)
      | ((with_reducible refine gLoad ?_); first | (refine aLoad1 H _ rfl rfl (by first | exact (rfl : _ = some (Value.int _ _)) | exact (rfl : _ = some (Value.slice _ _ _)) | exact (rfl : _ = some (Value.bool _)) | exact (rfl : _ = some (Value.string _)) | exact (rfl : _ = some (Value.pointer _)) | rfl | (simp [List.getElem?_append]; done)) rfl ?_) | (refine aLoadC _ rfl rfl (by assumption) rfl ?_) | (refine aLoad H _ rfl rfl (by first | exact part_all (by first | rfl | simp []) | (simp only [List.drop_succ_cons, List.drop_zero, List.take_succ_cons, List.take_zero]; rfl) | (simp [List.drop_append, List.take_append]; rfl)) (by first | rfl | simp []) rfl ?_))
      | ((with_reducible refine gStore ?_); (first | (refine aStore H _ _ rfl rfl rfl (by (first | exact ⟨rfl, rfl⟩ | exact ⟨by decide, rfl⟩ | (simp []; done) | (constructor <;> simp [] <;> omega))) (by first | rfl | simp [List.all_append, one_all]) rfl ?_) | (refine aLay H _ _ rfl rfl rfl (by (first | exact ⟨rfl, rfl⟩ | exact ⟨by decide, rfl⟩ | (simp []; done) | (constructor <;> simp [] <;> omega))) (by first | rfl | simp [List.all_append, one_all]) (by simp only [lay, List.take_succ_cons, List.take_zero, List.drop_succ_cons, List.drop_zero, List.nil_append, List.cons_append, List.length_cons, List.length_nil, Nat.zero_add, Nat.reduceAdd]; rfl) rfl ?_)); clear H; intro w' H; try dsimp only at H)
      | (at_builtin; refine aAppB1 _ H _ _ rfl rfl rfl (by first | omega | (have := HCL.out; omega)) rfl ?_; clear H; intro v' w' ys HY H; (try dsimp only at H); obtain ⟨A', c', rfl, hc'⟩ := (H.hold.rr v').len))
    refine startA (fun i => i == 6) (by kernel_rfl) (fun wS hS => ?_)
    replace H := H.drew
    rw [← hS] at H
    have HH := H.hold
    have HS0 : Below wS.heap.size wS wS := Below.refl _ _
    clear hS
    refine takeP 2 rfl (by kernel_rfl) (by kernel_rfl) (by kernel_rfl) (by kernel_rfl) (fun _ _ _ h => h) rfl (v := ?_) ?_ ?_
    rotate_left
    · intro w'; go_simp; (try with_reducible rfl)
    (try simp only [Act.put, List.setIfInBounds_toArray, List.set_cons_zero, List.set_cons_succ])
    refine takeL 3 HS0 rfl (by kernel_rfl) (by kernel_rfl) (by kernel_rfl) (by kernel_rfl) (by kernel_rfl) (fun _ _ _ h => h) rfl (v := ?_) ?_ ?_
    rotate_left
    · intro w' hw'; first | (refine Eq.trans (xLoad1 (HH.below hw') _ rfl rfl (by first | exact (rfl : _ = some (Value.int _ _)) | exact (rfl : _ = some (Value.slice _ _ _)) | exact (rfl : _ = some (Value.bool _)) | exact (rfl : _ = some (Value.string _)) | exact (rfl : _ = some (Value.pointer _)) | rfl | (simp [List.getElem?_append]; done))) ?_; with_reducible rfl) | (refine Eq.trans (xLoadC _ rfl rfl (cell_below hw' (by assumption))) ?_; with_reducible rfl)
    (try simp only [Act.put, List.setIfInBounds_toArray, List.set_cons_zero, List.set_cons_succ])
    refine takeP 5 rfl (by kernel_rfl) (by kernel_rfl) (by kernel_rfl) (by kernel_rfl) (fun _ _ _ h => h) rfl (v := ?_) ?_ ?_
    rotate_left
    · intro w'; go_simp; (try with_reducible rfl)
    (try simp only [Act.put, List.setIfInBounds_toArray, List.set_cons_zero, List.set_cons_succ])
    refine stepL 0 rfl (by kernel_rfl) rfl (fun K hK => ?_)
    (go_simp; refine hK.out _ _ (fun _ _ => below_two HS0 HS0.size (alloc_belowAt _ _)) ?_; clear K hK)
    (try simp only [Act.put, List.setIfInBounds_toArray, List.set_cons_zero, List.set_cons_succ])
    refine stepL 1 rfl (by kernel_rfl) rfl (fun K hK => ?_)
    (refine oConst [67, 65, 85, 84] 4 rfl rfl (by decide) H _ rfl rfl ?_; clear H; intro A21 w21 hb21 H; (try dsimp only at H); replace HS0 := below_two HS0 HS0.size hb21; refine hK.out _ _ (fun _ _ => HS0) ?_; clear K hK)
    (try simp only [Act.put, List.setIfInBounds_toArray, List.set_cons_zero, List.set_cons_succ])
    refine stepL 4 rfl (by kernel_rfl) rfl (fun K hK => ?_)
    (go_simp; (with_reducible refine ((HP.out _ _ (H.hold.rd _))).mono ?_); rintro e w' ⟨A24, c24, rfl, ho, hb⟩; replace H := H.pushRow hb ho; clear ho; replace HS0 := below_two HS0 HS0.size hb; clear hb; refine hK.out _ _ (fun _ _ => HS0) ?_; clear K hK)
    (try simp only [Act.put, List.setIfInBounds_toArray, List.set_cons_zero, List.set_cons_succ])
    refine stepL 6 rfl (by kernel_rfl) rfl (fun K hK => ?_)
    (refine oAppN sB H _ _ rfl rfl rfl ((H.hold.va (b := b4)).rbn 44 HEL.out (by decide)) (by rw [hl8, HEL.out]; decide) ?_; clear H; intro v26 w26 ys26 HY26 H; (try dsimp only at H); obtain ⟨A26, c26, rfl, hc26⟩ := (H.hold.rr v26).len; refine hK.out _ _ (fun h => by cases h) ?_; clear K hK)
    (try simp only [Act.put, List.setIfInBounds_toArray, List.set_cons_zero, List.set_cons_succ])
    refine takeP 7 rfl (by kernel_rfl) (by kernel_rfl) (by kernel_rfl) (by kernel_rfl) (fun _ _ _ h => h) rfl (v := ?_) ?_ ?_
    rotate_left
    · intro w'; go_simp; (try with_reducible rfl)
    (try simp only [Act.put, List.setIfInBounds_toArray, List.set_cons_zero, List.set_cons_succ])
    refine doneL (by kernel_rfl) ?_
    have hy1 : ys26 = labP u p := by rw [HY26.out, labP, ← ht]
    have HL1 := Lib.hid (labP_len u p)
    have HW := Lib.hid (show ∀ x, labW u p x = (labP u p ++ x ++ List.replicate 108 0) ++ shaL (labP u p ++ x ++ List.replicate 108 0) from fun _ => rfl)
    subst hy1
    clear HY26
    generalize labP u p = pre at *
    have HXL := Lib.hid (show pre.length ≤ 1000000000 ∧ xs.length ≤ 1000000000 by rw [HL1.out, HX.out]; decide)
    have h108 : (224 : Int) - ((116 : Nat) : Int) = ((108 : Nat) : Int) := by decide
    go_wp2_with (first
      | ((with_reducible refine gDst 29 ?_); refine aLoad1 H _ rfl rfl HLM.out rfl ?_)
      | ((with_reducible refine gDst 30 ?_); refine aAppBs H _ _ rfl rfl rfl ((H.old RO).rd (.slice A 64 c)) HXL.out rfl ?_; clear H; intro v' w' ys1 HY1 H; (try dsimp only at H); obtain ⟨A30, c30, rfl, hc30⟩ := (H.hold.rr v').len; have h116 := Lib.hid (show ys1.length = 116 by rw [HY1.out, List.length_append, HL1.out, HX.out]); rw [h116.out] at H ⊢)
      | ((with_reducible refine gDst 35 ?_); refine aAppZ 108 H _ _ rfl rfl rfl ⟨by rw [h116.out]; decide, by decide, by rw [h116.out]; decide⟩ rfl ?_; clear H; intro v' w' ys2 HY2 H; (try dsimp only at H); obtain ⟨A35, c35, rfl, hc35⟩ := (H.hold.rr v').len; have h224 := Lib.hid (show ys2.length = 224 by rw [HY2.out, List.length_append, h116.out]; rfl); rw [h224.out] at H ⊢)
      | (go_at_call 24; (with_reducible refine (Sum_any _ ys2 _ (H.hold.rr _) (by rw [h224.out]; decide)).mono ?_); rintro e w' ⟨rfl, hb⟩; replace H := H.step hb; clear hb)
      | ((with_reducible refine gSto (.tmp 6) (.tmp 37) ?_); refine aStore H _ _ rfl rfl rfl ⟨by rfl, by rw [List.length_map, shaL_len]⟩ (one_all _) rfl ?_; clear H; intro w' H; (try dsimp only at H))
      | ((with_reducible refine gDst 40 ?_); refine aAppBs H _ _ rfl rfl rfl ((H.hold.va (b := b6)).rbn 32 (shaL_len _) (by decide)) ⟨by rw [h224.out]; decide, by rw [shaL_len]; decide⟩ rfl ?_; clear H; intro v' w' ys3 HY3 H; (try dsimp only at H))
      | ((with_reducible refine gDst 1 ?_); refine aBox H _ rfl rfl rfl ?_; clear H; intro b1 w1 H)
      | ((with_reducible refine gDst 4 ?_); refine aAlloc H rfl rfl ?_; clear H; intro b4 w4 H)
      | ((with_reducible refine gDst 6 ?_); refine aAlloc H rfl rfl ?_; clear H; intro b6 w6 H)
      | ((with_reducible refine gLoad ?_); first | (refine aLoad1 H _ rfl rfl (by first | exact (rfl : _ = some (Value.int _ _)) | exact (rfl : _ = some (Value.slice _ _ _)) | exact (rfl : _ = some (Value.bool _)) | exact (rfl : _ = some (Value.string _)) | exact (rfl : _ = some (Value.pointer _)) | rfl | (simp [List.getElem?_append]; done)) rfl ?_) | (refine aLoadC _ rfl rfl (by assumption) rfl ?_) | (refine aLoad H _ rfl rfl (by first | exact part_all (by first | rfl | simp []) | (simp only [List.drop_succ_cons, List.drop_zero, List.take_succ_cons, List.take_zero]; rfl) | (simp [List.drop_append, List.take_append]; rfl)) (by first | rfl | simp []) rfl ?_))
      | ((with_reducible refine gStore ?_); (first | (refine aStore H _ _ rfl rfl rfl (by (first | exact ⟨rfl, rfl⟩ | exact ⟨by decide, rfl⟩ | (simp []; done) | (constructor <;> simp [] <;> omega))) (by first | rfl | simp [List.all_append, one_all]) rfl ?_) | (refine aLay H _ _ rfl rfl rfl (by (first | exact ⟨rfl, rfl⟩ | exact ⟨by decide, rfl⟩ | (simp []; done) | (constructor <;> simp [] <;> omega))) (by first | rfl | simp [List.all_append, one_all]) (by simp only [lay, List.take_succ_cons, List.take_zero, List.drop_succ_cons, List.drop_zero, List.nil_append, List.cons_append, List.length_cons, List.length_nil, Nat.zero_add, Nat.reduceAdd]; rfl) rfl ?_)); clear H; intro w' H; try dsimp only at H)
      | (at_builtin; refine aAppB1 _ H _ _ rfl rfl rfl (by first | omega | (have := HCL.out; omega)) rfl ?_; clear H; intro v' w' ys HY H; (try dsimp only at H); obtain ⟨A', c', rfl, hc'⟩ := (H.hold.rr v').len))
    go_ret2
    have hys : ys3 = labW u p xs := by
      rw [HW.out, HY3.out, HY2.out, HY1.out]
    subst hys
    exact ⟨v', rfl, H.ow _, H.below⟩
set_option maxHeartbeats 1600000 in
theorem Places_any (u : UInt32) (w : World) : Calls Tryd.prog 38 #[.int .u32 (u.toNat : Int)] w fun e w' => e = .returned (.agg #[.int .i64 (if u.toNat % 2 = 0 then 0 else 2), .int .i64 (if u.toNat % 2 = 0 then 1 else 3)]) ∧ Below w.heap.size w w' := by
  have H := SH.start Nil w
  rcases Nat.mod_two_eq_zero_or_one u.toNat with h | h
  · rw [if_pos h, if_pos h]
    have hm : (u.toNat : Int) % 2 = 0 := by omega
    have hm2 : (u.toNat : Int).tmod 2 = 0 := by rw [Int.tmod_eq_emod_of_nonneg (by omega)]; exact hm
    go_enter Tryd.func38, Tryd.ntmps38
    go_wp2_with (first
      | ((with_reducible refine gDst 2 ?_); refine aAlloc H rfl rfl ?_; clear H; intro b2 w2 H)
      | ((with_reducible refine gStore ?_); (first | (refine aStore H _ _ rfl rfl rfl (by (first | exact ⟨rfl, rfl⟩ | exact ⟨by decide, rfl⟩ | (simp []; done) | (constructor <;> simp [] <;> omega))) (by first | rfl | simp [List.all_append, one_all]) rfl ?_) | (refine aLay H _ _ rfl rfl rfl (by (first | exact ⟨rfl, rfl⟩ | exact ⟨by decide, rfl⟩ | (simp []; done) | (constructor <;> simp [] <;> omega))) (by first | rfl | simp [List.all_append, one_all]) (by simp only [lay, List.take_succ_cons, List.take_zero, List.drop_succ_cons, List.drop_zero, List.nil_append, List.cons_append, List.length_cons, List.length_nil, Nat.zero_add, Nat.reduceAdd]; rfl) rfl ?_)); clear H; intro w' H; try dsimp only at H))
    refine bodyPost_ret (res_cell rfl _ H.hold rfl rfl) rfl ?_
    exact ⟨rfl, H.below⟩
  · rw [if_neg (by omega), if_neg (by omega)]
    have hm : (u.toNat : Int) % 2 = 1 := by omega
    have hm2 : (u.toNat : Int).tmod 2 = 1 := by rw [Int.tmod_eq_emod_of_nonneg (by omega)]; exact hm
    go_enter Tryd.func38, Tryd.ntmps38
    go_wp2_with (first
      | ((with_reducible refine gDst 2 ?_); refine aAlloc H rfl rfl ?_; clear H; intro b2 w2 H)
      | ((with_reducible refine gStore ?_); (first | (refine aStore H _ _ rfl rfl rfl (by (first | exact ⟨rfl, rfl⟩ | exact ⟨by decide, rfl⟩ | (simp []; done) | (constructor <;> simp [] <;> omega))) (by first | rfl | simp [List.all_append, one_all]) rfl ?_) | (refine aLay H _ _ rfl rfl rfl (by (first | exact ⟨rfl, rfl⟩ | exact ⟨by decide, rfl⟩ | (simp []; done) | (constructor <;> simp [] <;> omega))) (by first | rfl | simp [List.all_append, one_all]) (by simp only [lay, List.take_succ_cons, List.take_zero, List.drop_succ_cons, List.drop_zero, List.nil_append, List.cons_append, List.length_cons, List.length_nil, Nat.zero_add, Nat.reduceAdd]; rfl) rfl ?_)); clear H; intro w' H; try dsimp only at H))
    refine bodyPost_ret (res_cell rfl _ H.hold rfl rfl) rfl ?_
    exact ⟨rfl, H.below⟩
set_option maxHeartbeats 1600000 in
theorem rPlaces_any (u : UInt32) (w : World) : Calls Tryd.prog 39 #[.int .u32 (u.toNat : Int)] w fun e w' => e = .returned (.agg #[.int .i64 (if u.toNat % 2 = 0 then 0 else 2), .int .i64 (if u.toNat % 2 = 0 then 1 else 3)]) ∧ Below w.heap.size w w' := by
  have H := SH.start Nil w
  rcases Nat.mod_two_eq_zero_or_one u.toNat with h | h
  · rw [if_pos h, if_pos h]
    have hm : (u.toNat : Int) % 2 = 0 := by omega
    have hm2 : (u.toNat : Int).tmod 2 = 0 := by rw [Int.tmod_eq_emod_of_nonneg (by omega)]; exact hm
    go_enter Tryd.func39, Tryd.ntmps39
    go_wp2_with (first
      | ((with_reducible refine gDst 2 ?_); refine aAlloc H rfl rfl ?_; clear H; intro b2 w2 H)
      | ((with_reducible refine gStore ?_); (first | (refine aStore H _ _ rfl rfl rfl (by (first | exact ⟨rfl, rfl⟩ | exact ⟨by decide, rfl⟩ | (simp []; done) | (constructor <;> simp [] <;> omega))) (by first | rfl | simp [List.all_append, one_all]) rfl ?_) | (refine aLay H _ _ rfl rfl rfl (by (first | exact ⟨rfl, rfl⟩ | exact ⟨by decide, rfl⟩ | (simp []; done) | (constructor <;> simp [] <;> omega))) (by first | rfl | simp [List.all_append, one_all]) (by simp only [lay, List.take_succ_cons, List.take_zero, List.drop_succ_cons, List.drop_zero, List.nil_append, List.cons_append, List.length_cons, List.length_nil, Nat.zero_add, Nat.reduceAdd]; rfl) rfl ?_)); clear H; intro w' H; try dsimp only at H))
    refine bodyPost_ret (res_cell rfl _ H.hold rfl rfl) rfl ?_
    exact ⟨rfl, H.below⟩
  · rw [if_neg (by omega), if_neg (by omega)]
    have hm : (u.toNat : Int) % 2 = 1 := by omega
    have hm2 : (u.toNat : Int).tmod 2 = 1 := by rw [Int.tmod_eq_emod_of_nonneg (by omega)]; exact hm
    go_enter Tryd.func39, Tryd.ntmps39
    go_wp2_with (first
      | ((with_reducible refine gDst 2 ?_); refine aAlloc H rfl rfl ?_; clear H; intro b2 w2 H)
      | ((with_reducible refine gStore ?_); (first | (refine aStore H _ _ rfl rfl rfl (by (first | exact ⟨rfl, rfl⟩ | exact ⟨by decide, rfl⟩ | (simp []; done) | (constructor <;> simp [] <;> omega))) (by first | rfl | simp [List.all_append, one_all]) rfl ?_) | (refine aLay H _ _ rfl rfl rfl (by (first | exact ⟨rfl, rfl⟩ | exact ⟨by decide, rfl⟩ | (simp []; done) | (constructor <;> simp [] <;> omega))) (by first | rfl | simp [List.all_append, one_all]) (by simp only [lay, List.take_succ_cons, List.take_zero, List.drop_succ_cons, List.drop_zero, List.nil_append, List.cons_append, List.length_cons, List.length_nil, Nat.zero_add, Nat.reduceAdd]; rfl) rfl ?_)); clear H; intro w' H; try dsimp only at H))
    refine bodyPost_ret (res_cell rfl _ H.hold rfl rfl) rfl ?_
    exact ⟨rfl, H.below⟩
end Go.Proofs.YticfcelbnkiopaaDoor

namespace Go.Proofs.YticfcelbnkiopaaDoor
set_option maxRecDepth 100000
open Go.RowKit
set_option linter.unusedSimpArgs false

theorem OR.ne_block {w : World} {base b : Nat} {v : Value} {xs : List UInt8} (h : OB w base v xs) (hb : b < base) : v.ownBlock = none ∨ v.ownBlock ≠ some b := by
  cases hv : v.ownBlock with
  | none => exact .inl rfl
  | some k =>
    refine .inr fun e => ?_
    have := (OR.ge h k hv).1
    injection e with e
    omega
/-- What stands in 44 bytes. -/
def rawP (xs : List UInt8) : PT := ⟨(xs ++ List.replicate 32 0).take 32, by simp, UInt32.ofNat (get32 (xs.drop 32)), UInt32.ofNat (get32 (xs.drop 36)), UInt32.ofNat (get32 (xs.drop 40))⟩
def decE (xs : List UInt8) : Nat := if xs.length < 44 then 2 else if 44 < xs.length ∨ (rawP xs).may = false then 3 else 0
def decP (xs : List UInt8) : PT := if decE xs = 0 then rawP xs else PT.hole
theorem g32 (b : List UInt8) : ((UInt32.ofNat (get32 b)).toNat : Int) = (get32 b : Int) := by
  rw [UInt32.toNat_ofNat', Nat.mod_eq_of_lt (get32_lt b)]
theorem rawP_hash (xs : List UInt8) (h : 32 ≤ xs.length) : (rawP xs).hash = xs.take 32 := by
  show (xs ++ List.replicate 32 0).take 32 = _
  rw [List.take_append_of_le_length h]
theorem Take32_ge (v : Value) (ys : List UInt8) (w : World) (hv : RB w v ys) (hl : ys.length ≤ 1000000000) (h4 : 4 ≤ ys.length) :
    Calls Tryd.prog 94 #[v] w fun e w' => ∃ v', e = .returned (.tuple #[.int .u32 ((UInt32.ofNat (get32 ys)).toNat : Int), v', .int .i64 0]) ∧ OB w' w.heap.size v' (ys.drop 4) ∧ Below w.heap.size w w' := by
  have h := Take32_any v ys w hv hl
  rw [if_pos h4, if_pos h4, if_pos h4, ← g32] at h
  exact h
theorem PT.lay32 (p : PT) (n : UInt32) : lay p.cells 32 [u32 n] = (PT.mk p.hash p.hl n p.a0 p.a1).cells := by
  rw [lay, PT.take32, List.length_singleton, PT.drop33, List.append_assoc]
  rfl
theorem PT.lay33 (p : PT) (n : UInt32) : lay p.cells 33 [u32 n] = (PT.mk p.hash p.hl p.birth n p.a1).cells := by
  have e : p.cells.take 33 = p.hash.map cb ++ [u32 p.birth] := by
    rw [PT.cells, List.take_append, List.length_map, p.hl, List.take_of_length_le (by simp [p.hl])]
    rfl
  have e2 : p.cells.drop 34 = [u32 p.a1] := by rw [show 34 = 33 + 1 from rfl, ← List.drop_drop, PT.drop33]; rfl
  rw [lay, e, List.length_singleton, e2, List.append_assoc, List.append_assoc]
  rfl
theorem PT.lay34 (p : PT) (n : UInt32) : lay p.cells 34 [u32 n] = (PT.mk p.hash p.hl p.birth p.a0 n).cells := by
  have e : p.cells.take 34 = p.hash.map cb ++ [u32 p.birth, u32 p.a0] := by
    rw [PT.cells, List.take_append, List.length_map, p.hl, List.take_of_length_le (by simp [p.hl])]
    rfl
  have e2 : p.cells.drop 35 = [] := List.drop_of_length_le (by rw [PT.len]; omega)
  rw [lay, e, List.length_singleton, e2, List.append_nil, List.append_assoc]
  rfl
theorem ptr_built (parts : List (Nat × Value)) : Program.built Tryd.prog 33 parts = Instr.fill (([(0, 32), (32, 1), (33, 2)] : List (Nat × Nat)).toArray[·]?) PT.hole.cells.toArray parts := by rfl
theorem ptr_hash (h : List UInt8) (hl : h.length = 32) : Program.built Tryd.prog 33 [(0, .agg (h.map cb).toArray)] = some (PT.mk h hl 0 0 0).cells.toArray := by
  rw [ptr_built, fill_cons _ _ _ _ _ 0 32 (h.map cb) rfl rfl (by simp [hl]) (by rw [PT.len]; omega), Instr.fill]
  congr 2
  rw [lay, List.take_zero, List.nil_append, List.length_map, hl, Nat.zero_add, PT.drop32]
  rfl
theorem u32_one (n : UInt32) : ∀ v ∈ [u32 n], v.oneCell' = true := by
  intro v hv
  obtain rfl := List.mem_singleton.mp hv
  rfl
theorem u32_info : (Tryd.prog.info? 30).map (·.size) = some 1 := by kernel_rfl

set_option maxHeartbeats 1600000 in
set_option maxRecDepth 100000 in
theorem Decode_any (v : Value) (xs : List UInt8) (w : World) (hv : RB w v xs) (hl : xs.length ≤ 1000000000) :
    Calls Tryd.prog 92 #[v] w fun e w' => e = .returned (.tuple #[(decP xs).val, .int .i64 (decE xs : Int)]) ∧ Below w.heap.size w w' := by
  obtain ⟨A, c, rfl, hc⟩ := id hv.len
  by_cases h44 : xs.length < 44
  · have hE : decE xs = 2 := by rw [decE, if_pos h44]
    have hP : decP xs = PT.hole := by rw [decP, hE, if_neg (by decide)]
    rw [hE, hP]
    have h44' : (xs.length : Int) < 44 := by omega
    clear hE hP h44
    go_enter Tryd.func92, Tryd.ntmps92
    go_wp2_with (first
      | (refine wpAlloc 33 rfl PT.hole.val PT.hole.cells (by kernel_rfl) rfl rfl ?_; intro w1 hv1 hb1)
      | (refine stepV (exec_zero 33 rfl PT.hole.cells ptr_zero) rfl ?_)
      | (refine wpStore 33 _ _ rfl w.heap.size rfl PT.hole.cells _ rfl _ hv1 (PT.info _) rfl (PT.one _) rfl ?_; intro w2 hv2 hg2; have hb2 := hb1.grown hg2 hb1.size (fun k hk => by cases hk; exact Nat.le_refl _)))
    refine bodyPost_ret (results_cell_tmp rfl _ hv2 rfl _ Tryd.underlying33 rfl (PT.info _)) rfl ?_
    exact ⟨rfl, hb2⟩
  · have h44' : (44 : Int) ≤ (xs.length : Int) := by omega
    obtain ⟨ad, rfl, hcc⟩ := RB.at0 hv (by omega)
    have hhash := rawP_hash xs (by omega)
    obtain ⟨A2, hcut4, hcut5, hcut6, hr2⟩ := cutB (some ad) c xs 32 xs.length (by omega) (Nat.le_refl _) hc
    have hk2 : ∀ W, (Instr.slice 22 (.slice (some ad) xs.length c) (some (.int .i64 32)) none none).run Tryd.prog W = .ok (.slice A2 (xs.length - 32) (c - 32)) W := fun W => hcut5 .i64 W rfl
    have hr3 : ∀ w, RB w (.slice (some ad) xs.length c) xs → RB w (.slice A2 (xs.length - 32) (c - 32)) (xs.drop 32) := fun w h => by
      have := hr2 w h
      rw [List.take_of_length_le (Nat.le_refl _)] at this
      exact this
    clear hcut4 hcut5 hcut6 hr2
    have c1 := fun W v h => Take32_ge v (xs.drop 32) W h (by rw [List.length_drop]; omega) (by rw [List.length_drop]; omega)
    have c2 := fun W v h => Take32_ge v (xs.drop 36) W h (by rw [List.length_drop]; omega) (by rw [List.length_drop]; omega)
    have c3 := fun W v h => Take32_ge v (xs.drop 40) W h (by rw [List.length_drop]; omega) (by rw [List.length_drop]; omega)
    simp only [List.drop_drop, Nat.reduceAdd] at c1 c2 c3
    obtain ⟨r, hr⟩ : ∃ r, r = rawP xs := ⟨_, rfl⟩
    have hrb : UInt32.ofNat (get32 (xs.drop 32)) = r.birth := by rw [hr]; rfl
    have hra : UInt32.ofNat (get32 (xs.drop 36)) = r.a0 := by rw [hr]; rfl
    have hrc : UInt32.ofNat (get32 (xs.drop 40)) = r.a1 := by rw [hr]; rfl
    rw [hrb] at c1
    rw [hra] at c2
    rw [hrc] at c3
    have hrh : r.hash = xs.take 32 := by rw [hr]; exact hhash
    have hch : ∀ (j : Nat) (u : Value), (r.hash.map cb)[j]? = some u → w.cell? (ad.add j) = some u := fun j u hu => by
      refine hcc j u ?_
      rw [hrh, List.map_take, List.getElem?_take] at hu
      split at hu
      · exact hu
      · cases hu
    obtain ⟨q0, hq0⟩ : ∃ q, q = PT.mk r.hash r.hl 0 0 0 := ⟨_, rfl⟩
    obtain ⟨q1, hq1⟩ : ∃ q, q = PT.mk r.hash r.hl r.birth 0 0 := ⟨_, rfl⟩
    obtain ⟨q2, hq2⟩ : ∃ q, q = PT.mk r.hash r.hl r.birth r.a0 0 := ⟨_, rfl⟩
    have hb0 : Program.built Tryd.prog 33 [(0, .agg (r.hash.map cb).toArray)] = some q0.cells.toArray := by rw [hq0]; exact ptr_hash r.hash r.hl
    have hl1 : lay q0.cells 32 [u32 r.birth] = q1.cells := by rw [hq0, hq1, PT.lay32]
    have hl2 : lay q1.cells 33 [u32 r.a0] = q2.cells := by rw [hq1, hq2, PT.lay33]
    have hl3 : lay q2.cells 34 [u32 r.a1] = r.cells := by rw [hq2, PT.lay34]
    have hrl : r.hash.length = 32 := r.hl
    obtain ⟨ys, hys⟩ : ∃ ys, ys = xs.drop 44 := ⟨_, rfl⟩
    have hdl : ys.length = xs.length - 44 := by rw [hys, List.length_drop]
    rw [← hys] at c3
    have C1 := Lib.hid c1
    have C2 := Lib.hid c2
    have C3 := Lib.hid c3
    have HB0 := Lib.hid hb0
    have HL1 := Lib.hid hl1
    have HL2 := Lib.hid hl2
    have HL3 := Lib.hid hl3
    have HCH := Lib.hid hch
    have HR := Lib.hid hr
    have HRL := Lib.hid hrl
    have cM : ∀ W, Calls Tryd.prog 83 #[.agg r.cells.toArray] W fun e w' => e = .returned (.bool r.may) ∧ Below W.heap.size W w' := fun W => May_any r W
    clear c1 c2 c3 hb0 hl1 hl2 hl3 hch hcc hrh hhash hrb hra hrc hr hq0 hq1 hq2 hrl hys
    by_cases h44e : 44 < xs.length
    · have hE : decE xs = 3 := by rw [decE, if_neg h44, if_pos (.inl h44e)]
      have hP : decP xs = PT.hole := by rw [decP, hE, if_neg (by decide)]
      rw [hE, hP]
      have h0 : (0 : Int) < ((xs.length - 44 : Nat) : Int) := by omega
      have hd0 : (0 : Int) < (ys.length : Int) := by rw [hdl]; exact h0
      have hd0b : decide ((0 : Int) < (ys.length : Int)) = true := decide_eq_true hd0
      have hd0n : 0 < ys.length := by omega
      clear hE hP h44e hdl h0
      go_enter Tryd.func92, Tryd.ntmps92
      go_wp2_with (first
        | (refine wpVar 33 rfl PT.hole.val PT.hole.cells (by kernel_rfl) rfl 4 _ rfl q0.cells rfl rfl (by rw [PT.len, PT.len]) (PT.info _) (PT.one _) rfl rfl ?_; intro w2 hv2 hb2; have hlt := hv1.lt; replace hv1 := hv1.below hb2; replace hb1 := below_two hb1 hb1.size hb2; have hra := hr3 _ (hv.below hb1); clear hb2)
        | (refine wpAlloc 33 rfl PT.hole.val PT.hole.cells (by kernel_rfl) rfl rfl ?_; intro w1 hv1 hb1)
        | (refine stepV (exec_arrptr 29 _ rfl 32 _ Tryd.underlying29 (some ad) xs.length c rfl (by omega)) rfl ?_)
        | (refine stepV (exec_loadA 29 _ rfl ad rfl (r.hash.map cb) _ (fun j u hu => cell_below hb1 (HCH.out j u hu)) Tryd.underlying29 rfl (by rw [List.length_map, HRL.out]; kernel_rfl)) rfl ?_)
        | (refine stepV (exec_buildL 33 [(0, .tmp 11)] rfl [(0, .agg (r.hash.map cb).toArray)] rfl q0.cells HB0.out) rfl ?_)
        | (go_at_call 94; (with_reducible refine (C1.out _ _ hra).mono ?_); rintro e w3 ⟨v3, rfl, ho3, hb3⟩; have hlt2 := hv2.lt; replace hv1 := hv1.below hb3; replace hv2 := hv2.below hb3; replace hb1 := below_two hb1 hb1.size hb3; clear hra hb3)
        | (refine wpLay 30 _ _ rfl w1.heap.size 32 rfl [u32 r.birth] q0.cells q1.cells rfl _ hv2 u32_info (by rw [PT.len, List.length_singleton]; decide) (u32_one _) HL1.out rfl ?_; intro w4 hv3 hg4; replace ho3 := ho3.other hg4 (OR.ne_block ho3 hlt2); replace hv1 := hv1.grown hg4 (by simp; omega); replace hb1 := hb1.grown hg4 hb1.size (fun k hk => by cases hk; omega); clear hv2 hg4)
        | (go_at_call 94; (with_reducible refine (C2.out _ _ ho3.reads).mono ?_); rintro e w5 ⟨v5, rfl, ho5, hb5⟩; have hlt3 := hv3.lt; replace hv1 := hv1.below hb5; replace hv3 := hv3.below hb5; replace hb1 := below_two hb1 hb1.size hb5; clear hb5 ho3)
        | (refine wpLay 30 _ _ rfl w1.heap.size 33 rfl [u32 r.a0] q1.cells q2.cells rfl _ hv3 u32_info (by rw [PT.len, List.length_singleton]; decide) (u32_one _) HL2.out rfl ?_; intro w6 hv4 hg6; replace ho5 := ho5.other hg6 (OR.ne_block ho5 hlt3); replace hv1 := hv1.grown hg6 (by simp; omega); replace hb1 := hb1.grown hg6 hb1.size (fun k hk => by cases hk; omega); clear hv3 hg6)
        | (go_at_call 94; (with_reducible refine (C3.out _ _ ho5.reads).mono ?_); rintro e w7 ⟨v7, rfl, ho7, hb7⟩; obtain ⟨A7, c7, rfl, hc7⟩ := ho7.reads.len; have hlt4 := hv4.lt; replace hv1 := hv1.below hb7; replace hv4 := hv4.below hb7; replace hb1 := below_two hb1 hb1.size hb7; clear hb7 ho5)
        | (refine wpLay 30 _ _ rfl w1.heap.size 34 rfl [u32 r.a1] q2.cells r.cells rfl _ hv4 u32_info (by rw [PT.len, List.length_singleton]; decide) (u32_one _) HL3.out rfl ?_; intro w8 hv5 hg8; replace ho7 := ho7.other hg8 (OR.ne_block ho7 hlt4); replace hv1 := hv1.grown hg8 (by simp; omega); replace hb1 := hb1.grown hg8 hb1.size (fun k hk => by cases hk; omega); clear hv4 hg8)
        | (refine stepV (exec_load 33 _ rfl _ _ rfl r.cells _ hv5.all Tryd.underlying33 rfl (PT.info r)) rfl ?_)
        | (go_at_call 83; (with_reducible refine (cM _).mono ?_); rintro e w9 ⟨rfl, hb9⟩; replace hv1 := hv1.below hb9; replace hv5 := hv5.below hb9; replace hb1 := below_two hb1 hb1.size hb9; clear hb9)
        | (refine stepV (exec_zero 33 rfl PT.hole.cells ptr_zero) rfl ?_)
        | (refine wpStore 33 _ _ rfl w.heap.size rfl PT.hole.cells _ rfl _ hv1 (PT.info _) rfl (PT.one _) rfl ?_; intro w10 hv10 hg10; replace hb1 := hb1.grown hg10 hb1.size (fun k hk => by cases hk; exact Nat.le_refl _)))
      refine bodyPost_ret (results_cell_tmp rfl _ hv10 rfl _ Tryd.underlying33 rfl (PT.info _)) rfl ?_
      exact ⟨rfl, hb1⟩
    · have hdl0 : (ys.length : Int) = 0 := by rw [hdl]; omega
      have hd0 : ¬ (0 : Int) < (ys.length : Int) := by omega
      cases hm : r.may with
      | false =>
        have hE : decE xs = 3 := by rw [decE, if_neg h44, if_pos (.inr (by rw [← HR.out]; exact hm))]
        have hP : decP xs = PT.hole := by rw [decP, hE, if_neg (by decide)]
        rw [hE, hP]
        rw [hm] at cM
        clear hE hP hdl hm
        go_enter Tryd.func92, Tryd.ntmps92
        go_wp2_with (first
          | (refine wpVar 33 rfl PT.hole.val PT.hole.cells (by kernel_rfl) rfl 4 _ rfl q0.cells rfl rfl (by rw [PT.len, PT.len]) (PT.info _) (PT.one _) rfl rfl ?_; intro w2 hv2 hb2; have hlt := hv1.lt; replace hv1 := hv1.below hb2; replace hb1 := below_two hb1 hb1.size hb2; have hra := hr3 _ (hv.below hb1); clear hb2)
          | (refine wpAlloc 33 rfl PT.hole.val PT.hole.cells (by kernel_rfl) rfl rfl ?_; intro w1 hv1 hb1)
          | (refine stepV (exec_arrptr 29 _ rfl 32 _ Tryd.underlying29 (some ad) xs.length c rfl (by omega)) rfl ?_)
          | (refine stepV (exec_loadA 29 _ rfl ad rfl (r.hash.map cb) _ (fun j u hu => cell_below hb1 (HCH.out j u hu)) Tryd.underlying29 rfl (by rw [List.length_map, HRL.out]; kernel_rfl)) rfl ?_)
          | (refine stepV (exec_buildL 33 [(0, .tmp 11)] rfl [(0, .agg (r.hash.map cb).toArray)] rfl q0.cells HB0.out) rfl ?_)
          | (go_at_call 94; (with_reducible refine (C1.out _ _ hra).mono ?_); rintro e w3 ⟨v3, rfl, ho3, hb3⟩; have hlt2 := hv2.lt; replace hv1 := hv1.below hb3; replace hv2 := hv2.below hb3; replace hb1 := below_two hb1 hb1.size hb3; clear hra hb3)
          | (refine wpLay 30 _ _ rfl w1.heap.size 32 rfl [u32 r.birth] q0.cells q1.cells rfl _ hv2 u32_info (by rw [PT.len, List.length_singleton]; decide) (u32_one _) HL1.out rfl ?_; intro w4 hv3 hg4; replace ho3 := ho3.other hg4 (OR.ne_block ho3 hlt2); replace hv1 := hv1.grown hg4 (by simp; omega); replace hb1 := hb1.grown hg4 hb1.size (fun k hk => by cases hk; omega); clear hv2 hg4)
          | (go_at_call 94; (with_reducible refine (C2.out _ _ ho3.reads).mono ?_); rintro e w5 ⟨v5, rfl, ho5, hb5⟩; have hlt3 := hv3.lt; replace hv1 := hv1.below hb5; replace hv3 := hv3.below hb5; replace hb1 := below_two hb1 hb1.size hb5; clear hb5 ho3)
          | (refine wpLay 30 _ _ rfl w1.heap.size 33 rfl [u32 r.a0] q1.cells q2.cells rfl _ hv3 u32_info (by rw [PT.len, List.length_singleton]; decide) (u32_one _) HL2.out rfl ?_; intro w6 hv4 hg6; replace ho5 := ho5.other hg6 (OR.ne_block ho5 hlt3); replace hv1 := hv1.grown hg6 (by simp; omega); replace hb1 := hb1.grown hg6 hb1.size (fun k hk => by cases hk; omega); clear hv3 hg6)
          | (go_at_call 94; (with_reducible refine (C3.out _ _ ho5.reads).mono ?_); rintro e w7 ⟨v7, rfl, ho7, hb7⟩; obtain ⟨A7, c7, rfl, hc7⟩ := ho7.reads.len; have hlt4 := hv4.lt; replace hv1 := hv1.below hb7; replace hv4 := hv4.below hb7; replace hb1 := below_two hb1 hb1.size hb7; clear hb7 ho5)
          | (refine wpLay 30 _ _ rfl w1.heap.size 34 rfl [u32 r.a1] q2.cells r.cells rfl _ hv4 u32_info (by rw [PT.len, List.length_singleton]; decide) (u32_one _) HL3.out rfl ?_; intro w8 hv5 hg8; replace ho7 := ho7.other hg8 (OR.ne_block ho7 hlt4); replace hv1 := hv1.grown hg8 (by simp; omega); replace hb1 := hb1.grown hg8 hb1.size (fun k hk => by cases hk; omega); clear hv4 hg8)
          | (refine stepV (exec_load 33 _ rfl _ _ rfl r.cells _ hv5.all Tryd.underlying33 rfl (PT.info r)) rfl ?_)
          | (go_at_call 83; (with_reducible refine (cM _).mono ?_); rintro e w9 ⟨rfl, hb9⟩; replace hv1 := hv1.below hb9; replace hv5 := hv5.below hb9; replace hb1 := below_two hb1 hb1.size hb9; clear hb9)
          | (refine stepV (exec_zero 33 rfl PT.hole.cells ptr_zero) rfl ?_)
          | (refine wpStore 33 _ _ rfl w.heap.size rfl PT.hole.cells _ rfl _ hv1 (PT.info _) rfl (PT.one _) rfl ?_; intro w10 hv10 hg10; replace hb1 := hb1.grown hg10 hb1.size (fun k hk => by cases hk; exact Nat.le_refl _)))
        refine bodyPost_ret (results_cell_tmp rfl _ hv10 rfl _ Tryd.underlying33 rfl (PT.info _)) rfl ?_
        exact ⟨rfl, hb1⟩
      | true =>
        have hE : decE xs = 0 := by rw [decE, if_neg h44, if_neg (by rw [← HR.out, hm]; simp; omega)]
        have hP : decP xs = r := by rw [decP, if_pos hE, HR.out]
        rw [hE, hP]
        rw [hm] at cM
        clear hE hP hdl hm
        go_enter Tryd.func92, Tryd.ntmps92
        go_wp2_with (first
          | (refine wpVar 33 rfl PT.hole.val PT.hole.cells (by kernel_rfl) rfl 4 _ rfl q0.cells rfl rfl (by rw [PT.len, PT.len]) (PT.info _) (PT.one _) rfl rfl ?_; intro w2 hv2 hb2; have hlt := hv1.lt; replace hv1 := hv1.below hb2; replace hb1 := below_two hb1 hb1.size hb2; have hra := hr3 _ (hv.below hb1); clear hb2)
          | (refine wpAlloc 33 rfl PT.hole.val PT.hole.cells (by kernel_rfl) rfl rfl ?_; intro w1 hv1 hb1)
          | (refine stepV (exec_arrptr 29 _ rfl 32 _ Tryd.underlying29 (some ad) xs.length c rfl (by omega)) rfl ?_)
          | (refine stepV (exec_loadA 29 _ rfl ad rfl (r.hash.map cb) _ (fun j u hu => cell_below hb1 (HCH.out j u hu)) Tryd.underlying29 rfl (by rw [List.length_map, HRL.out]; kernel_rfl)) rfl ?_)
          | (refine stepV (exec_buildL 33 [(0, .tmp 11)] rfl [(0, .agg (r.hash.map cb).toArray)] rfl q0.cells HB0.out) rfl ?_)
          | (go_at_call 94; (with_reducible refine (C1.out _ _ hra).mono ?_); rintro e w3 ⟨v3, rfl, ho3, hb3⟩; have hlt2 := hv2.lt; replace hv1 := hv1.below hb3; replace hv2 := hv2.below hb3; replace hb1 := below_two hb1 hb1.size hb3; clear hra hb3)
          | (refine wpLay 30 _ _ rfl w1.heap.size 32 rfl [u32 r.birth] q0.cells q1.cells rfl _ hv2 u32_info (by rw [PT.len, List.length_singleton]; decide) (u32_one _) HL1.out rfl ?_; intro w4 hv3 hg4; replace ho3 := ho3.other hg4 (OR.ne_block ho3 hlt2); replace hv1 := hv1.grown hg4 (by simp; omega); replace hb1 := hb1.grown hg4 hb1.size (fun k hk => by cases hk; omega); clear hv2 hg4)
          | (go_at_call 94; (with_reducible refine (C2.out _ _ ho3.reads).mono ?_); rintro e w5 ⟨v5, rfl, ho5, hb5⟩; have hlt3 := hv3.lt; replace hv1 := hv1.below hb5; replace hv3 := hv3.below hb5; replace hb1 := below_two hb1 hb1.size hb5; clear hb5 ho3)
          | (refine wpLay 30 _ _ rfl w1.heap.size 33 rfl [u32 r.a0] q1.cells q2.cells rfl _ hv3 u32_info (by rw [PT.len, List.length_singleton]; decide) (u32_one _) HL2.out rfl ?_; intro w6 hv4 hg6; replace ho5 := ho5.other hg6 (OR.ne_block ho5 hlt3); replace hv1 := hv1.grown hg6 (by simp; omega); replace hb1 := hb1.grown hg6 hb1.size (fun k hk => by cases hk; omega); clear hv3 hg6)
          | (go_at_call 94; (with_reducible refine (C3.out _ _ ho5.reads).mono ?_); rintro e w7 ⟨v7, rfl, ho7, hb7⟩; obtain ⟨A7, c7, rfl, hc7⟩ := ho7.reads.len; have hlt4 := hv4.lt; replace hv1 := hv1.below hb7; replace hv4 := hv4.below hb7; replace hb1 := below_two hb1 hb1.size hb7; clear hb7 ho5)
          | (refine wpLay 30 _ _ rfl w1.heap.size 34 rfl [u32 r.a1] q2.cells r.cells rfl _ hv4 u32_info (by rw [PT.len, List.length_singleton]; decide) (u32_one _) HL3.out rfl ?_; intro w8 hv5 hg8; replace ho7 := ho7.other hg8 (OR.ne_block ho7 hlt4); replace hv1 := hv1.grown hg8 (by simp; omega); replace hb1 := hb1.grown hg8 hb1.size (fun k hk => by cases hk; omega); clear hv4 hg8)
          | (refine stepV (exec_load 33 _ rfl _ _ rfl r.cells _ hv5.all Tryd.underlying33 rfl (PT.info r)) rfl ?_)
          | (go_at_call 83; (with_reducible refine (cM _).mono ?_); rintro e w9 ⟨rfl, hb9⟩; replace hv1 := hv1.below hb9; replace hv5 := hv5.below hb9; replace hb1 := below_two hb1 hb1.size hb9; clear hb9)
          | (refine wpStore 33 _ _ rfl w.heap.size rfl r.cells _ rfl _ hv1 (PT.info _) (by rw [PT.len, PT.len]) (PT.one _) rfl ?_; intro w10 hv10 hg10; replace hb1 := hb1.grown hg10 hb1.size (fun k hk => by cases hk; exact Nat.le_refl _)))
        refine bodyPost_ret (results_cell_tmp rfl _ hv10 rfl _ Tryd.underlying33 rfl (PT.info _)) rfl ?_
        exact ⟨rfl, hb1⟩
end Go.Proofs.YticfcelbnkiopaaDoor

namespace Go.Proofs.YticfcelbnkiopaaDoor
set_option maxRecDepth 100000
open Go.RowKit
set_option linter.unusedSimpArgs false

/-- Four pointers. -/
abbrev PL := RowOf PT 4
def PL.cells (l : PL) : List Value := l.1.flatMap PT.cells
def PL.val (l : PL) : Value := .agg l.cells.toArray
theorem PL.len (l : PL) : l.cells.length = 140 := by rw [PL.cells, flatMap_len PT.len, l.2]
theorem PL.info (l : PL) : (Tryd.prog.info? 188).map (·.size) = some l.cells.length := by rw [PL.len]; kernel_rfl
def nodeL (l : PL) : List UInt8 := l.1.flatMap encL ++ List.replicate 80 0
theorem encs_length (xs : List PT) : (xs.flatMap encL).length = xs.length * 44 := by
  induction xs with
  | nil => rfl
  | cons x xs ih => simp [ih, encL_length, Nat.succ_mul, Nat.add_comm]
theorem encs_take (xs : List PT) (k : Nat) (h : k < xs.length) : (xs.take (k + 1)).flatMap encL = (xs.take k).flatMap encL ++ encL xs[k] := by
  rw [List.take_add_one, List.getElem?_eq_getElem h, Option.toList_some, List.flatMap_append, List.flatMap_cons, List.flatMap_nil, List.append_nil]

/-- Behind k pointers. -/
def ndL (xs : List PT) (k : Nat) : List UInt8 := (xs.take k).flatMap encL ++ List.replicate (256 - 44 * k) 0
theorem ndL_length (xs : List PT) (k : Nat) (h : k ≤ xs.length) (h4 : k ≤ 4) : (ndL xs k).length = 256 := by
  rw [ndL, List.length_append, encs_length, List.length_take, List.length_replicate]; omega
theorem ndL_step (xs : List PT) (k : Nat) (h : k < xs.length) : (ndL xs k).take (44 * k) ++ encL xs[k] ++ (ndL xs k).drop (44 * k + (encL xs[k]).length) = ndL xs (k + 1) := by
  have e : ((xs.take k).flatMap encL).length = 44 * k := by rw [encs_length, List.length_take]; omega
  rw [ndL, ndL, encs_take xs k h, encL_length, List.take_append_of_le_length (by omega), List.take_of_length_le (by omega), ← List.drop_drop, List.drop_left' e, List.drop_replicate]
  congr 2

set_option maxHeartbeats 1600000 in
set_option maxRecDepth 100000 in
theorem Node_any (l : PL) (w : World) : Calls Tryd.prog 168 #[l.val] w fun e w' => ∃ v, e = .returned v ∧ OB w' w.heap.size v (nodeL l) ∧ Below w.heap.size w w' := by
  unfold PL.val
  go_enter Tryd.func168, Tryd.ntmps168
  go_wp2_with (first
    | (refine wpBox 188 _ rfl l.cells rfl rfl ?_; intro w1 hv1 hb1)
    | (refine wpMake0 256 (by decide) _ _ rfl rfl rfl rfl ?_; intro w2 hv2 hb2; have hlt := hv1.lt; replace hv1 := hv1.below hb2; replace hb1 := below_two hb1 hb1.size hb2; have hlt2 : w.heap.size ≤ w1.heap.size := by omega)
    | (refine stepV (exec_load 188 _ rfl _ _ rfl l.cells _ hv1.all Tryd.underlying188 rfl l.info) rfl ?_))
  clear hlt hb2
  go_loopw [3, 9] (fun v3 v9 wr => ∃ (k : Nat), v9 = .int .i64 (k : Int) ∧ k ≤ 4 ∧ v3 = .slice (some ⟨w1.heap.size, 0, none⟩) (44 * k) 256 ∧ VA wr w1.heap.size 5 ((ndL l.1 k).map cb) ∧ Below w.heap.size w wr) (fun _ i _ => 4 - (intOf i).toNat)
  case atStart => exact ⟨0, rfl, by omega, rfl, hv2, hb1⟩
  case round =>
    obtain ⟨k, rfl, hk, rfl, hv, hb⟩ := hrel
    clear hv1 hv2 hb1
    by_cases h4 : k < 4
    · have hki : (k : Int) < 4 := by omega
      have hkl : k < l.1.length := by rw [l.2]; omega
      obtain ⟨p, hp⟩ : ∃ p, p = l.1[k] := ⟨_, rfl⟩
      have hst := ndL_step l.1 k hkl
      rw [← hp] at hst
      have HST := Lib.hid hst
      have HP := Lib.hid hp
      clear hst hp
      have cE : ∀ W, Calls Tryd.prog 84 #[.agg p.cells.toArray] W fun e w' => e = .returned (.agg ((encL p).map cb).toArray) ∧ Below W.heap.size W w' := fun W => Encode_any p W
      have hel := encL_length p
      have hnl := ndL_length l.1 k (by rw [l.2]; omega) (by omega)
      have HEL := Lib.hid hel
      have HNL := Lib.hid hnl
      clear hel hnl
      go_wp2_with (first
        | (refine stepV (v := p.val) (by rw [HP.out]; exact exec_index eqPT 188 _ _ rfl Tryd.underlying188 l.1 rfl l.2 k .i64 rfl hkl) rfl ?_)
        | (refine wpVar 33 rfl PT.hole.val PT.hole.cells (by kernel_rfl) rfl 5 _ rfl p.cells rfl rfl (by rw [PT.len, PT.len]) p.info p.one rfl rfl ?_; intro w3 hv3 hb3; replace hv := hv.below hb3; replace hb := below_two hb hb.size hb3; clear hb3)
        | (refine stepV (exec_load 33 _ rfl _ _ rfl p.cells _ hv3.all Tryd.underlying33 rfl p.info) rfl ?_)
        | (go_at_call 84; (with_reducible refine (cE _).mono ?_); rintro e w4 ⟨rfl, hb4⟩; replace hv := hv.below hb4; replace hb := below_two hb hb.size hb4; clear hb4 hv3)
        | (refine wpVar 163 rfl (bytesV (List.replicate 44 0)) ((List.replicate 44 (0 : UInt8)).map cb) (by kernel_rfl) rfl 6 _ rfl ((encL p).map cb) rfl rfl (by simp [encL_length]) (by rw [List.length_map, encL_length]; kernel_rfl) (one_u8 _) rfl rfl ?_; intro w5 hv5 hb5; replace hv := hv.below hb5; replace hb := below_two hb hb.size hb5; clear hb5; have hr5 : RB w5 (.slice (some ⟨w4.heap.size, 0, none⟩) 44 44) (encL p) := by
            have h := RR.range (T := B8) (w := w5) (b := w4.heap.size) (o := 0) (xs := encL p) (by rw [U8_all]; exact hv5.all) (by rw [HEL.out]; decide)
            rw [HEL.out] at h
            exact h)
        | (at_builtin; refine appRoom (.tmp 14) (.tmp 15) w1.heap.size (44 * k) 256 (ndL l.1 k) (encL p) _ hv hr5 (by rw [HEL.out]; decide) (by rw [HNL.out]; decide) (by rw [HEL.out]; omega) rfl rfl rfl rfl ?_; intro w6 hv6 hg6; replace hb := hb.grown hg6 hb.size (fun j hj => by cases hj; exact hlt2); rw [HST.out] at hv6))
      go_roundw
      case rel => exact ⟨k + 1, by go_num, by omega, by rw [HEL.out]; rfl, hv6, hb⟩
      case measure => simp [intOf] <;> omega
    · obtain rfl : k = 4 := by omega
      go_wp2
      go_ret
      have e : ndL l.1 4 = nodeL l := by rw [ndL, nodeL, List.take_of_length_le (by rw [l.2]; omega)]
      rw [e] at hv
      have hnl : (nodeL l).length = 256 := by rw [← e]; exact ndL_length l.1 4 (by rw [l.2]; omega) (by omega)
      have ho := OB.ofVA hv hlt2 (by rw [hnl]; omega)
      rw [hnl] at ho
      exact ⟨_, rfl, ho, hb⟩
end Go.Proofs.YticfcelbnkiopaaDoor

namespace Go.Proofs.YticfcelbnkiopaaDoor
set_option maxRecDepth 100000
open Go.RowKit
set_option linter.unusedSimpArgs false

def lenV : Value → Nat
  | .slice _ n _ => n
  | _ => 0
theorem PL.range {w : World} {b : Nat} {t : TypeId} {l : PL} (h : VA w b t l.cells) (k : Nat) (hk : k < l.1.length) : w.rangeAt b (k * 35) l.1[k].cells :=
  h.range (k * 35) _ (by rw [PT.len]; exact flatMap_at PT.len l.1 k hk)

theorem eqPL : EqT Tryd.prog 188 (4 * 35) true 4 (fun l : PL => l.1.flatMap PT.cells) (fun l => .agg (l.1.flatMap PT.cells).toArray) (fun x y => (x.1.zip y.1).all fun p => p.1 == p.2) :=
  eqPT.row (by kernel_rfl) (sizeOf_ok (by kernel_rfl))
theorem pl_eql (l m : PL) (w : World) : (binOp .eql 188 (.agg l.cells.toArray) (.agg m.cells.toArray)).run Tryd.prog w = .ok (.bool (l == m)) w := by
  rw [run_eql_struct]
  have h := eqPL.eqs 9996 w l m
  rw [zip_all_eq l.1 m.1 (by rw [l.2, m.2])] at h
  unfold PL.cells
  rw [h]
  rfl
/-- Four holes. -/
def PL.none : PL := ⟨List.replicate 4 PT.hole, rfl⟩
theorem pl_zero : Program.built Tryd.prog 188 [] = some PL.none.cells.toArray := by kernel_rfl
theorem pl_guard : Tryd.prog.eqGuardType Tryd.prog.depth 188 = false := by kernel_rfl

set_option maxRecDepth 100000 in
theorem IsEmpty_any (l : PL) (w : World) : Calls Tryd.prog 167 #[l.val] w fun e w' => e = .returned (.bool (l == PL.none)) ∧ Below w.heap.size w w' := by
  unfold PL.val
  go_enter Tryd.func167, Tryd.ntmps167
  go_wp2_with (first
    | (refine wpBox 188 _ rfl l.cells rfl rfl ?_; intro w1 hv1 hb1)
    | (refine stepV (exec_load 188 _ rfl _ _ rfl l.cells _ hv1.all Tryd.underlying188 rfl l.info) rfl ?_)
    | (refine stepV (exec_zero 188 rfl PL.none.cells pl_zero) rfl ?_)
    | (refine stepV (exec_eql 188 _ _ _ rfl _ _ rfl rfl pl_guard _ (pl_eql l PL.none _)) rfl ?_))
  go_ret
  exact ⟨rfl, hb1⟩
end Go.Proofs.YticfcelbnkiopaaDoor

namespace Go.Proofs.YticfcelbnkiopaaDoor
set_option maxRecDepth 100000
open Go.RowKit
set_option linter.unusedSimpArgs false
set_option linter.unusedVariables false

/-- Pointers, nodes, their bytes. -/
def ptT : AT Tryd.prog PT := ⟨33, PT.cells, 35, PT.len, PT.one, _, Tryd.underlying33, rfl, by kernel_rfl, PT.hole, by kernel_rfl, ptr_zero⟩
theorem PL.one (l : PL) : ∀ v ∈ l.cells, v.oneCell' = true := by
  intro v hv
  obtain ⟨p, _, hp⟩ := List.mem_flatMap.mp hv
  exact p.one v hp
theorem pl_zero' : Program.built Tryd.prog 188 [] = some PL.none.cells.toArray := by kernel_rfl
def plT : AT Tryd.prog PL := ⟨188, PL.cells, 140, PL.len, PL.one, _, Tryd.underlying188, rfl, by kernel_rfl, PL.none, by kernel_rfl, pl_zero'⟩

/-- The i-th 44 bytes. -/
def chunk (xs : List UInt8) (i : Nat) : List UInt8 := (xs.drop (i * 44)).take 44
theorem chunk_len (xs : List UInt8) (i : Nat) (h : xs.length = 256) (hi : i < 4) : (chunk xs i).length = 44 := by
  unfold chunk; rw [List.length_take, List.length_drop]; omega
theorem decE_44 (xs : List UInt8) (h : xs.length = 44) : decE xs = 0 ∨ decE xs = 3 := by
  unfold decE; split
  · omega
  · split
    · exact .inr rfl
    · exact .inl rfl
def rdOK (xs : List UInt8) : Bool := decide (xs.length = 256) && ((List.range 4).all fun i => decE (chunk xs i) == 0) && ((List.range 80).all fun j => (xs.drop 176).getD j 0 == 0)
def rdL (xs : List UInt8) : PL := if rdOK xs = true then ⟨(List.range 4).map fun i => decP (chunk xs i), by simp⟩ else PL.none
def rdE (xs : List UInt8) : Nat := if rdOK xs = true then 0 else 3
theorem rd_len (xs : List UInt8) (h : xs.length ≠ 256) : rdOK xs = false := by simp [rdOK, h]
theorem rd_chunk (xs : List UInt8) (i : Nat) (hi : i < 4) (h : decE (chunk xs i) ≠ 0) : rdOK xs = false := by
  rw [← Bool.not_eq_true]
  intro hh
  simp only [rdOK, Bool.and_eq_true, decide_eq_true_eq, List.all_eq_true, List.mem_range, beq_iff_eq] at hh
  exact h (hh.1.2 i hi)
theorem rd_tail (xs : List UInt8) (j : Nat) (hj : j < 80) (h : (xs.drop 176).getD j 0 ≠ 0) : rdOK xs = false := by
  rw [← Bool.not_eq_true]
  intro hh
  simp only [rdOK, Bool.and_eq_true, decide_eq_true_eq, List.all_eq_true, List.mem_range, beq_iff_eq] at hh
  exact h (hh.2 j hj)
theorem rd_bad (xs : List UInt8) (h : rdOK xs = false) : rdL xs = PL.none ∧ rdE xs = 3 := by simp [rdL, rdE, h]
/-- The pointers so far. -/
def preP (xs : List UInt8) (k : Nat) : List PT := (List.range k).map (fun i => decP (chunk xs i)) ++ List.replicate (4 - k) PT.hole
theorem preP_all (xs : List UInt8) (h : rdOK xs = true) : preP xs 4 = (rdL xs).1 := by simp [preP, rdL, h]
theorem preP_len (xs : List UInt8) (k : Nat) (h : k ≤ 4) : ((preP xs k).flatMap PT.cells).length = 140 := by
  rw [flatMap_len PT.len]; simp [preP]; omega
theorem preP_lay (xs : List UInt8) (k : Nat) (h : k < 4) : lay ((preP xs k).flatMap PT.cells) (k * 35) (decP (chunk xs k)).cells = (preP xs (k + 1)).flatMap PT.cells := by
  have e0 : 4 - k = (4 - (k + 1)) + 1 := by omega
  have e1 : (((List.range k).map fun i => decP (chunk xs i)).flatMap PT.cells).length = k * 35 := by rw [flatMap_len PT.len]; simp
  have e2 : preP xs k = ((List.range k).map fun i => decP (chunk xs i)) ++ (PT.hole :: List.replicate (4 - (k + 1)) PT.hole) := by rw [preP, e0, List.replicate_succ]
  have e3 : preP xs (k + 1) = ((List.range k).map fun i => decP (chunk xs i)) ++ (decP (chunk xs k) :: List.replicate (4 - (k + 1)) PT.hole) := by
    rw [preP, List.range_succ, List.map_append, List.append_assoc]; rfl
  rw [e2, e3, List.flatMap_append, List.flatMap_append, lay, List.take_left' e1, PT.len, ← List.drop_drop, List.drop_left' e1, List.flatMap_cons, List.flatMap_cons, List.drop_left' (PT.len _), List.append_assoc]
theorem rd_good (xs : List UInt8) (h : xs.length = 256) (h1 : ∀ i < 4, decE (chunk xs i) = 0) (h2 : ∀ j < 80, (xs.drop 176).getD j 0 = 0) : rdOK xs = true := by
  simp only [rdOK, Bool.and_eq_true, decide_eq_true_eq, List.all_eq_true, List.mem_range, beq_iff_eq]
  exact ⟨⟨h, h1⟩, h2⟩

set_option maxHeartbeats 1600000 in
set_option maxRecDepth 100000 in
theorem Read_any (v : Value) (xs : List UInt8) (w : World) (hv : RB w v xs) (hl : xs.length ≤ 1000000000) :
    Calls Tryd.prog 158 #[v] w fun e w' => e = .returned (.tuple #[(rdL xs).val, .int .i64 (rdE xs : Int)]) ∧ Below w.heap.size w w' := by
  obtain ⟨A, c, rfl, hc⟩ := id hv.len
  have H := SH.start Nil w
  by_cases h256 : xs.length = 256
  · obtain ⟨A2, hcut4, hcut5, hcut6, hr2⟩ := cutB A c xs 176 xs.length (by omega) (Nat.le_refl _) hc
    have hk2 : ∀ W, (Instr.slice 22 (.slice A 256 c) (some (.int .i64 176)) none none).run Tryd.prog W = .ok (.slice A2 80 (c - 176)) W := fun W => by have := hcut5 .i64 W rfl; rw [h256] at this; exact this
    have hr3 := hr2 w hv
    rw [List.take_of_length_le (Nat.le_refl _), h256] at hr3
    have hl80 : (xs.drop 176).length = 80 := by rw [List.length_drop]; omega
    obtain ⟨ad2, rfl, hcc2⟩ := RB.at0 hr3 (by omega)
    have hcB : ∀ (j : Nat), j < 80 → w.cell? (ad2.add j) = some (cb ((xs.drop 176).getD j 0)) := fun j hj => by
      refine hcc2 j _ ?_
      rw [List.getElem?_map, List.getD_eq_getElem?_getD, List.getElem?_eq_getElem (by omega)]
      rfl
    have hcK : ∀ k : Nat, k < 4 → ∃ A3, (∀ W, (Instr.slice 22 (.slice A 256 c) (some (.int .i64 ((k : Int) * 44))) (some (.int .i64 (((k : Int) + 1) * 44))) none).run Tryd.prog W = .ok (.slice A3 44 (c - k * 44)) W) ∧ ∀ w', Below w.heap.size w w' → RB w' (.slice A3 44 (c - k * 44)) (chunk xs k) := fun k hk => by
      obtain ⟨A3, g4, _, _, g6⟩ := cutB A c xs (k * 44) ((k + 1) * 44) (by omega) (by omega) hc
      refine ⟨A3, fun W => ?_, fun w' hb => ?_⟩
      · have := g4 .i64 .i64 W
        rw [h256, show (k + 1) * 44 - k * 44 = 44 by omega] at this
        push_cast at this
        exact this
      · have := g6 w' (hv.below hb)
        rw [show (k + 1) * 44 - k * 44 = 44 by omega, List.drop_take, show (k + 1) * 44 - k * 44 = 44 by omega] at this
        exact this
    rw [h256]
    have HB := Lib.hid hcB
    have HK := Lib.hid hcK
    have H256 := Lib.hid h256
    clear hcB hcK hcut4 hcut5 hcut6 hr2 hcc2 hl80 hr3 hv h256 hc hl
    go_enter Tryd.func158, Tryd.ntmps158
    go_wp2_with (first
      | (refine wAlloc plT (H : SH Nil w _ []) rfl rfl ?_; clear H; intro w1 H)
      | (refine wAlloc plT (H : SH Nil w _ [_]) rfl rfl ?_; clear H; intro w2 H)
      | (refine wAlloc plT (H : SH Nil w _ [_, _]) rfl rfl ?_; clear H; intro w3 H))
    go_loopw [15] (fun v15 wr => ∃ (k : Nat), v15 = .int .i64 (k : Int) ∧ k ≤ 4 ∧ SH Nil w wr [.blk w2.heap.size 188 ((preP xs k).flatMap PT.cells), .blk w1.heap.size 188 PL.none.cells, .blk w.heap.size 188 PL.none.cells] ∧ Hid (∀ i < k, decE (chunk xs i) = 0)) (fun i _ => 4 - (intOf i).toNat)
    case atStart => exact ⟨0, rfl, by omega, H, fun i hi => by omega⟩
    case round =>
      obtain ⟨k, rfl, hk, HS, HE⟩ := hrel
      clear H
      by_cases h4 : k < 4
      · have hki : (k : Int) < 4 := by omega
        obtain ⟨A3, hk3, hr3⟩ := HK.out k h4
        have hr4 := hr3 _ HS.below
        have hcl := chunk_len xs k H256.out h4
        have hlay := preP_lay xs k h4
        have hpl := preP_len xs k hk
        have HL := Lib.hid hlay
        have HPL := Lib.hid hpl
        obtain ⟨q, hq⟩ : ∃ q, q = decP (chunk xs k) := ⟨_, rfl⟩
        by_cases hE : decE (chunk xs k) = 0
        · have cD : ∀ W v, RB W v (chunk xs k) → Calls Tryd.prog 92 #[v] W fun e w' => e = .returned (.tuple #[.agg q.cells.toArray, .int .i64 0]) ∧ Below W.heap.size W w' := fun W v h => by
            have := Decode_any v (chunk xs k) W h (by rw [hcl]; omega)
            rw [hE, ← hq] at this
            exact this
          rw [← hq] at hlay
          have HL := Lib.hid hlay
          have hE2 : Hid (∀ i < k + 1, decE (chunk xs i) = 0) := fun i hi => by
            rcases Nat.lt_or_ge i k with h | h
            · exact HE i h
            · obtain rfl : i = k := by omega
              exact hE
          clear hE hq hlay hpl hcl hr3
          go_wp2_with (first
            | (go_at_call 92; (with_reducible refine (cD _ _ hr4).mono ?_); rintro e w4 ⟨rfl, hb4⟩; replace HS := HS.step hb4; clear hb4)
            | (refine wVar ptT q HS rfl 7 _ rfl rfl rfl rfl rfl ?_; clear HS; intro w5 HS)
            | (refine wLoad ptT q HS 0 rfl (List.take_of_length_le (by rw [List.drop_zero]; exact Nat.le_of_eq q.len)) _ rfl rfl rfl ?_)
            | (refine wLay ptT q HS 1 (off := k * 35) rfl (by rw [HPL.out]; show k * 35 + 35 ≤ 140; omega) _ HL.out _ _ rfl rfl rfl rfl ?_; clear HS; intro w6 HS))
          go_roundw
          case rel => exact ⟨k + 1, by go_num, by omega, HS.tail, hE2⟩
          case measure => simp [intOf] <;> omega
        · have hE3 : decE (chunk xs k) = 3 := (decE_44 _ hcl).resolve_left hE
          have hbad := rd_bad xs (rd_chunk xs k h4 hE)
          have cD : ∀ W v, RB W v (chunk xs k) → Calls Tryd.prog 92 #[v] W fun e w' => e = .returned (.tuple #[.agg q.cells.toArray, .int .i64 3]) ∧ Below W.heap.size W w' := fun W v h => by
            have := Decode_any v (chunk xs k) W h (by rw [hcl]; omega)
            rw [hE3, ← hq] at this
            exact this
          have HBAD := Lib.hid hbad
          clear hE hE3 hq hlay hpl hcl hr3 hbad
          go_wp2_with (first
            | (go_at_call 92; (with_reducible refine (cD _ _ hr4).mono ?_); rintro e w4 ⟨rfl, hb4⟩; replace HS := HS.step hb4; clear hb4)
            | (refine wVar ptT q HS rfl 7 _ rfl rfl rfl rfl rfl ?_; clear HS; intro w5 HS)
            | (refine wLoad plT PL.none HS 2 rfl (List.take_of_length_le (by rw [List.drop_zero]; exact Nat.le_of_eq PL.none.len)) _ rfl rfl rfl ?_)
            | (refine wStore plT PL.none HS 3 rfl PL.none.len _ _ rfl rfl rfl rfl ?_; clear HS; intro w6 HS))
          refine bodyPost_ret (results_cell_tmp rfl _ (HS.va 3 rfl) rfl _ Tryd.underlying188 rfl (PL.info _)) rfl ?_
          exact ⟨by rw [HBAD.out.1, HBAD.out.2]; rfl, HS.below⟩
      · obtain rfl : k = 4 := by omega
        go_wp2
        go_loop [39] (fun v39 => ∃ (j : Nat), v39 = .int .i64 (j : Int) ∧ j ≤ 80 ∧ Hid (∀ i < j, (xs.drop 176).getD i 0 = 0)) (fun i => 80 - (intOf i).toNat)
        case atStart => exact ⟨0, rfl, by omega, fun i hi => by omega⟩
        case round =>
          obtain ⟨j, rfl, hj, HZ⟩ := hrel
          by_cases h80 : j < 80
          · have hji : (j : Int) < 80 := by omega
            have hcell := cell_below HS.below (HB.out j h80)
            obtain ⟨x, hx⟩ : ∃ x, x = (xs.drop 176).getD j 0 := ⟨_, rfl⟩
            rw [← hx] at hcell
            by_cases h0 : x = 0
            · have hZ2 : Hid (∀ i < j + 1, (xs.drop 176).getD i 0 = 0) := fun i hi => by
                rcases Nat.lt_or_ge i j with h | h
                · exact HZ i h
                · obtain rfl : i = j := by omega
                  exact hx.symm.trans h0
              rw [h0] at hcell
              clear hx h0
              go_wp2
              go_round
              case rel => exact ⟨j + 1, by go_num, by omega, hZ2⟩
              case measure => simp [intOf] <;> omega
            · have hbad := rd_bad xs (rd_tail xs j h80 (by rw [← hx]; exact h0))
              have hne : ((x.toNat : Int) == 0) = false := by have := u8_eq x 0; rw [show ((0 : UInt8).toNat : Int) = 0 from rfl] at this; rw [this]; exact beq_eq_false_iff_ne.mpr h0
              have hne2 : ((x.toNat : Int) != 0) = true := by rw [bne, hne]; rfl
              have hne3 : ¬ (x.toNat : Int) = 0 := by simpa using hne
              have HBAD := Lib.hid hbad
              clear hx h0 hbad
              go_wp2_with (first
                | (refine wLoad plT PL.none HS 1 rfl (List.take_of_length_le (by rw [List.drop_zero]; exact Nat.le_of_eq PL.none.len)) _ rfl rfl rfl ?_)
                | (refine wStore plT PL.none HS 2 rfl PL.none.len _ _ rfl rfl rfl rfl ?_; clear HS; intro w6 HS))
              refine bodyPost_ret (results_cell_tmp rfl _ (HS.va 2 rfl) rfl _ Tryd.underlying188 rfl (PL.info _)) rfl ?_
              exact ⟨by rw [HBAD.out.1, HBAD.out.2]; rfl, HS.below⟩
          · obtain rfl : j = 80 := by omega
            have hok := rd_good xs H256.out HE HZ
            have hpa := preP_all xs hok
            have hre : rdE xs = 0 := by rw [rdE, if_pos hok]
            rw [hpa] at HS
            have HRE := Lib.hid hre
            obtain ⟨l, hl⟩ : ∃ l, l = rdL xs := ⟨_, rfl⟩
            rw [← hl] at HS
            have HL := Lib.hid hl
            clear hl hok hpa hre HE HZ
            go_wp2_with (first
              | (refine wLoad plT l HS 0 rfl (List.take_of_length_le (by rw [List.drop_zero]; exact Nat.le_of_eq l.len)) _ rfl rfl rfl ?_)
              | (refine wStore plT l HS 2 rfl PL.none.len _ _ rfl rfl rfl rfl ?_; clear HS; intro w6 HS))
            refine bodyPost_ret (results_cell_tmp rfl _ (HS.va 2 rfl) rfl _ Tryd.underlying188 rfl (PL.info _)) rfl ?_
            exact ⟨by rw [HRE.out, ← HL.out]; rfl, HS.below⟩
  · have hbad := rd_bad xs (rd_len xs h256)
    have hne : ¬ (xs.length : Int) = 256 := by omega
    have hne1 : ((xs.length : Int) != 256) = true := by simpa using hne
    have hne2 : ((xs.length : Int) == 256) = false := by simpa using hne
    have HBAD := Lib.hid hbad
    clear hbad h256 hv
    go_enter Tryd.func158, Tryd.ntmps158
    go_wp2_with (first
      | (refine wAlloc plT (H : SH Nil w _ []) rfl rfl ?_; clear H; intro w1 H)
      | (refine wAlloc plT (H : SH Nil w _ [_]) rfl rfl ?_; clear H; intro w2 H)
      | (refine wAlloc plT (H : SH Nil w _ [_, _]) rfl rfl ?_; clear H; intro w3 H)
      | (refine wLoad plT PL.none H 1 rfl (List.take_of_length_le (by rw [List.drop_zero]; exact Nat.le_of_eq PL.none.len)) _ rfl rfl rfl ?_)
      | (refine wStore plT PL.none H 2 rfl PL.none.len _ _ rfl rfl rfl rfl ?_; clear H; intro w6 H))
    refine bodyPost_ret (results_cell_tmp rfl _ (H.va 2 rfl) rfl _ Tryd.underlying188 rfl (PL.info _)) rfl ?_
    exact ⟨by rw [HBAD.out.1, HBAD.out.2]; rfl, H.below⟩
end Go.Proofs.YticfcelbnkiopaaDoor

namespace Go.Proofs.YticfcelbnkiopaaDoor
set_option maxRecDepth 100000
open Go.RowKit

theorem strB {w : World} {v : Value} {xs : List UInt8} (h : RB w v xs) : (convert 22 9 v).run Tryd.prog w = .ok (.string (str xs)) w :=
  RR.string (P := Tryd.prog) h Tryd.underlying22 Tryd.underlying5 Tryd.underlying9

def nxt (acc k c : Nat) : Nat := (acc + c % 128 * 128 ^ k) % 18446744073709551616
theorem nxt_eq (acc k c : Nat) : IntKind.u64.wrap ((acc : Int) + IntKind.u64.wrap ((c : Int) % 128 * 2 ^ (7 * k))) = ((nxt acc k c : Nat) : Int) := by
  have hp : (2 : Nat) ^ (7 * k) = 128 ^ k := by rw [Nat.pow_mul]
  have e1 : ((c : Int) % 128 * 2 ^ (7 * k)) = ((c % 128 * 128 ^ k : Nat) : Int) := by
    rw [← hp]; simp
  rw [e1]
  unfold nxt
  generalize c % 128 * 128 ^ k = q
  simp only [IntKind.wrap, IntKind.bits, IntKind.signed, Bool.false_and, Bool.false_eq_true, if_false]
  omega
theorem nxt_w (acc k c : Nat) : W64 (nxt acc k c) := by unfold W64 nxt; exact Nat.mod_lt _ (by omega)

theorem short_iff (xs : List UInt8) (acc k : Nat) (c : UInt8) (hk : k < xs.length) (h10 : k < 10) (hc : xs[k] = c) (hlt : c.toNat < 128) (ht : tkGo (10 - k) k acc (xs.drop k) = tk xs) :
    (putL (nxt acc k c.toNat) = xs.take (k + 1) → tk xs = (0, nxt acc k c.toNat, k + 1)) ∧ (putL (nxt acc k c.toNat) ≠ xs.take (k + 1) → tk xs = (3, 0, 0)) := by
  rw [List.drop_eq_getElem_cons hk, show 10 - k = (10 - (k + 1)) + 1 by omega, tkGo, hc, if_pos hlt] at ht
  constructor
  · intro h
    have hx : xs = putL (nxt acc k c.toNat) ++ xs.drop (k + 1) := by rw [h, List.take_append_drop]
    have h1 := tk_put (nxt acc k c.toNat) (xs.drop (k + 1)) (nxt_w _ _ _)
    rw [← hx, h, List.length_take, Nat.min_eq_left (by omega)] at h1
    exact h1
  · intro h
    by_cases hs : shortB k c = true
    · rw [if_pos hs] at ht
      exfalso
      apply h
      have hE : tkE xs = 0 := by unfold tkE; rw [← ht]
      have hN : tkN xs = acc + c.toNat * 128 ^ k := by unfold tkN; rw [← ht]
      obtain ⟨h1, h2, h3⟩ := tk_ok xs hE
      have hn : nxt acc k c.toNat = tkN xs := by
        unfold nxt
        rw [Nat.mod_eq_of_lt (show c.toNat < 128 from hlt), ← hN]
        exact Nat.mod_eq_of_lt h2
      rw [hn]
      rw [← ht] at h3
      conv => rhs; rw [h1]
      simp only at h3
      rw [h3, List.take_left]
    · rw [if_neg hs] at ht
      exact ht.symm

end Go.Proofs.YticfcelbnkiopaaDoor

namespace Go.Proofs.YticfcelbnkiopaaDoor
set_option maxRecDepth 100000
open Go.RowKit

theorem ret3u {k : IntKind} {a b : Int} {x y : Value} (h : a = b) : Ending.returned (.tuple #[.int k a, x, y]) = .returned (.tuple #[.int k b, x, y]) := by rw [h]

set_option maxHeartbeats 400000 in
theorem rTake32_any (v : Value) (xs : List UInt8) (w : World) (hv : RB w v xs) :
    Calls Tryd.prog 95 #[v] w fun e w' => ∃ v', e = .returned (.tuple #[.int .u32 (if 4 ≤ xs.length then (get32 xs : Int) else 0), v', .int .i64 (if 4 ≤ xs.length then 0 else 2)]) ∧
      RB w' v' (if 4 ≤ xs.length then xs.drop 4 else []) ∧ Below w.heap.size w w' := by
  by_cases h4 : 4 ≤ xs.length
  · rw [if_pos h4, if_pos h4, if_pos h4]
    have h4' : (4 : Int) ≤ xs.length := by omega
    have hn : ¬ ((4 : Int) < 0) := by decide
    have hc := rTakeBytes_any v xs 4 w w hv (Below.refl _ _)
    simp only [hn, h4', ↓reduceIte] at hc
    clear hn
    go_enter Tryd.func95, Tryd.ntmps95
    go_wp2_with ((go_at_call 132; refine hc.mono ?_; clear hc; rintro e w1 ⟨v1, v2, rfl, ho1, ho2, hb1⟩; replace ho1 := ho1 _ hb1; replace ho2 := ho2 _ hb1))
    have hlen4 : (xs.take (4 : Int).toNat).length = 4 := by simp; omega
    obtain ⟨A1, c1, rfl, hc1, _, hcell1⟩ := ho1
    obtain ⟨ad, rfl, hcc⟩ := hcell1 (by omega)
    have hk : ∀ j (h : j < xs.length), j < 4 → w1.cell? (ad.add j) = some (.int .u8 (((xs.getD j 0).toNat : Nat) : Int)) := fun j h h' => by
      refine hcc j _ ?_
      rw [U8_all, List.getElem?_map, List.getElem?_take, if_pos (by simpa using h'), List.getElem?_eq_getElem h, List.getD_eq_getElem?_getD, List.getElem?_eq_getElem h]
      rfl
    have k0 := hk 0 (by omega) (by omega)
    rw [show ad.add 0 = ad from by simp [Addr.add]] at k0
    have k1 := hk 1 (by omega) (by omega)
    have k2 := hk 2 (by omega) (by omega)
    have k3 := hk 3 (by omega) (by omega)
    rw [show ad.add 1 = ⟨ad.block, ad.off + 1, none⟩ from rfl] at k1
    rw [show ad.add 2 = ⟨ad.block, ad.off + 2, none⟩ from rfl] at k2
    rw [show ad.add 3 = ⟨ad.block, ad.off + 3, none⟩ from rfl] at k3
    clear hk hcc hcell1
    rw [hlen4]
    generalize hb0 : xs.getD 0 0 = b0 at k0
    generalize hb1' : xs.getD 1 0 = b1 at k1
    generalize hb2 : xs.getD 2 0 = b2 at k2
    generalize hb3 : xs.getD 3 0 = b3 at k3
    have hg : get32 xs = b0.toNat + b1.toNat * 256 + b2.toNat * 65536 + b3.toNat * 16777216 := by unfold get32; rw [hb0, hb1', hb2, hb3]
    have HG := Lib.hid hg
    clear hb0 hb1' hb2 hb3 hg
    go_quiet (fail)
    go_wp2
    go_ret3
    have l0 := b0.toNat_lt
    have l1 := b1.toNat_lt
    have l2 := b2.toNat_lt
    have l3 := b3.toNat_lt
    exact ⟨_, by rw [HG.out]; exact ret3u (by omega), ho2.below (pw_below_drewN (Below.refl _ _) _), pw_below_drewN hb1 _⟩
  · rw [if_neg h4, if_neg h4, if_neg h4]
    have h4' : ¬ (4 : Int) ≤ xs.length := by omega
    have hn : ¬ ((4 : Int) < 0) := by decide
    have hc := rTakeBytes_any v xs 4 w w hv (Below.refl _ _)
    simp only [hn, h4', ↓reduceIte] at hc
    clear hn h4'
    go_enter Tryd.func95, Tryd.ntmps95
    go_wp2_with ((go_at_call 132; refine hc.mono ?_; clear hc; rintro e w1 ⟨v1, v2, rfl, ho1, ho2, hb1⟩))
    go_ret3
    exact ⟨_, rfl, RR.nil _, hb1⟩

end Go.Proofs.YticfcelbnkiopaaDoor

namespace Go.Proofs.YticfcelbnkiopaaDoor
set_option maxRecDepth 100000
open Go.RowKit
set_option linter.unusedSimpArgs false
set_option linter.unusedVariables false

/-- The hash so far. -/
def hashK (xs : List UInt8) (k : Nat) : List UInt8 := xs.take k ++ List.replicate (32 - k) 0
theorem hashK_len (xs : List UInt8) (k : Nat) (h : k ≤ 32) (hl : 32 ≤ xs.length) : (hashK xs k).length = 32 := by simp [hashK]; omega
theorem hashK_set (xs : List UInt8) (k : Nat) (h : k < 32) (hl : 32 ≤ xs.length) (T : List Value) : lay ((hashK xs k).map cb ++ T) k [cb (xs.getD k 0)] = (hashK xs (k + 1)).map cb ++ T := by
  have e0 : 32 - k = (32 - (k + 1)) + 1 := by omega
  have e1 : ((xs.take k).map cb).length = k := by rw [List.length_map, List.length_take]; omega
  have e2 : xs.take (k + 1) = xs.take k ++ [xs.getD k 0] := by rw [List.take_succ_eq_append_getElem (by omega), List.getD_eq_getElem?_getD, List.getElem?_eq_getElem (by omega)]; rfl
  rw [hashK, hashK, e0, e2, List.replicate_succ, List.map_append, List.append_assoc, lay, List.take_left' e1, List.length_singleton, ← List.drop_drop, List.drop_left' e1, List.map_cons, List.cons_append, List.drop_succ_cons, List.drop_zero]
  simp
theorem two_built (x y : UInt32) : Program.built Tryd.prog 31 [(0, u32 x), (1, u32 y)] = some [u32 x, u32 y].toArray := rfl

theorem PT.lay33b (p : PT) (m n : UInt32) : lay p.cells 33 [u32 m, u32 n] = (PT.mk p.hash p.hl p.birth m n).cells := by
  have e : p.cells.take 33 = p.hash.map cb ++ [u32 p.birth] := by
    rw [PT.cells, List.take_append, List.length_map, p.hl, List.take_of_length_le (by simp [p.hl])]
    rfl
  have e2 : p.cells.drop 35 = [] := List.drop_of_length_le (by rw [PT.len]; omega)
  rw [lay, e, show 33 + [u32 m, u32 n].length = 35 from rfl, e2, List.append_nil, List.append_assoc]
  rfl

theorem two_one {a b : UInt32} : ∀ v ∈ [u32 a, u32 b], v.oneCell' = true := by
  intro v hv
  rcases List.mem_cons.mp hv with rfl | hv
  · rfl
  · rw [List.mem_singleton.mp hv]; rfl
set_option maxHeartbeats 1600000 in
set_option maxRecDepth 100000 in
theorem rDecode_any (v : Value) (xs : List UInt8) (w : World) (hv : RB w v xs) (hl : xs.length ≤ 1000000000) :
    Calls Tryd.prog 96 #[v] w fun e w' => e = .returned (.tuple #[(decP xs).val, .int .i64 (decE xs : Int)]) ∧ Below w.heap.size w w' := by
  obtain ⟨A, c, rfl, hc⟩ := id hv.len
  have H := SH.start Nil w
  by_cases h44 : xs.length < 44
  · have hE : decE xs = 2 := by rw [decE, if_pos h44]
    have hP : decP xs = PT.hole := by rw [decP, hE, if_neg (by decide)]
    rw [hE, hP]
    have h44' : (xs.length : Int) < 44 := by omega
    clear hE hP h44
    go_enter Tryd.func96, Tryd.ntmps96
    go_wp2_with (first
      | (refine wAlloc ptT H rfl rfl ?_; clear H; intro w1 H)
      | (refine wZero ptT rfl rfl ?_)
      | (refine wStore ptT PT.hole H 0 rfl PT.hole.len _ _ rfl rfl rfl rfl ?_; clear H; intro w2 H))
    refine bodyPost_ret (results_cell_tmp rfl _ (H.va 0 rfl) rfl _ Tryd.underlying33 rfl (PT.info _)) rfl ?_
    exact ⟨rfl, H.below⟩
  · have h44' : (44 : Int) ≤ (xs.length : Int) := by omega
    obtain ⟨ad, rfl, hcc⟩ := RB.at0 hv (by omega)
    have hcB : ∀ k, k < xs.length → w.cell? (ad.add k) = some (cb (xs.getD k 0)) := fun k hk => by
      refine hcc k _ ?_
      rw [List.getElem?_map, List.getD_eq_getElem?_getD, List.getElem?_eq_getElem hk]
      rfl
    have cut : ∀ (n : Nat), n ≤ 44 → ∃ A2, (∀ W, (Instr.slice 22 (.slice (some ad) xs.length c) (some (.int .i64 (n : Int))) none none).run Tryd.prog W = .ok (.slice A2 (xs.length - n) (c - n)) W) ∧ ∀ w', Below w.heap.size w w' → RB w' (.slice A2 (xs.length - n) (c - n)) (xs.drop n) := fun n hn => by
      obtain ⟨A2, g4, g5, g6, g7⟩ := cutB (some ad) c xs n xs.length (by omega) (Nat.le_refl _) hc
      refine ⟨A2, fun W => g5 .i64 W rfl, fun w' hb => ?_⟩
      have := g7 w' (hv.below hb)
      rw [List.take_of_length_le (Nat.le_refl _)] at this
      exact this
    obtain ⟨A1, hk1', hr1⟩ := cut 32 (by omega)
    have hk1 : ∀ W, (Instr.slice 22 (.slice (some ad) xs.length c) (some (.int .i64 32)) none none).run Tryd.prog W = .ok (.slice A1 (xs.length - 32) (c - 32)) W := hk1'
    clear hk1'
    obtain ⟨A2, hk2', hr2⟩ := cut 36 (by omega)
    have hk2 : ∀ W, (Instr.slice 22 (.slice (some ad) xs.length c) (some (.int .i64 36)) none none).run Tryd.prog W = .ok (.slice A2 (xs.length - 36) (c - 36)) W := hk2'
    clear hk2'
    obtain ⟨A3, hk3', hr3⟩ := cut 40 (by omega)
    have hk3 : ∀ W, (Instr.slice 22 (.slice (some ad) xs.length c) (some (.int .i64 40)) none none).run Tryd.prog W = .ok (.slice A3 (xs.length - 40) (c - 40)) W := hk3'
    clear hk3'
    obtain ⟨r, hr⟩ : ∃ r, r = rawP xs := ⟨_, rfl⟩
    have hrb : UInt32.ofNat (get32 (xs.drop 32)) = r.birth := by rw [hr]; rfl
    have hra : UInt32.ofNat (get32 (xs.drop 36)) = r.a0 := by rw [hr]; rfl
    have hrc : UInt32.ofNat (get32 (xs.drop 40)) = r.a1 := by rw [hr]; rfl
    have tk : ∀ n, n ≤ 40 → ∀ W v, RB W v (xs.drop n) → Calls Tryd.prog 95 #[v] W fun e w' => ∃ v', e = .returned (.tuple #[.int .u32 ((UInt32.ofNat (get32 (xs.drop n))).toNat : Int), v', .int .i64 0]) ∧ True ∧ Below W.heap.size W w' := fun n hn W v h => by
      have h1 := rTake32_any v (xs.drop n) W h
      have h4 : 4 ≤ (xs.drop n).length := by rw [List.length_drop]; omega
      rw [if_pos h4, if_pos h4, ← g32] at h1
      exact h1.mono fun e w' ⟨v', h2, _, h3⟩ => ⟨v', h2, trivial, h3⟩
    have c1 := tk 32 (by omega)
    have c2 := tk 36 (by omega)
    have c3 := tk 40 (by omega)
    rw [hrb] at c1
    rw [hra] at c2
    rw [hrc] at c3
    have hrh : r.hash = hashK xs 32 := by rw [hr, rawP_hash xs (by omega)]; simp [hashK]
    have hl32 : 32 ≤ xs.length := by omega
    have HCB := Lib.hid hcB
    have HR := Lib.hid hr
    have HRH := Lib.hid hrh
    have C1 := Lib.hid c1
    have C2 := Lib.hid c2
    have C3 := Lib.hid c3
    have cM0 : ∀ W, Calls Tryd.prog 86 #[.agg (ptT.enc r).toArray] W fun e w' => e = .returned (.bool r.may) ∧ Below W.heap.size W w' := fun W => rMay_any r W
    obtain ⟨q0, hq0⟩ : ∃ q, q = PT.mk r.hash r.hl 0 0 0 := ⟨_, rfl⟩
    obtain ⟨q1, hq1⟩ : ∃ q, q = PT.mk r.hash r.hl r.birth 0 0 := ⟨_, rfl⟩
    have h0 : (hashK xs 32).map cb ++ [u32 0, u32 0, u32 0] = q0.cells := by rw [hq0, PT.cells, ← HRH.out]
    have hl1 : lay q0.cells 32 [u32 r.birth] = q1.cells := by rw [PT.lay32, hq0, hq1]
    have hl2 : lay q1.cells 33 [u32 r.a0, u32 r.a1] = r.cells := by rw [PT.lay33b, hq1]
    have H0 := Lib.hid h0
    have HL1 := Lib.hid hl1
    have HL2 := Lib.hid hl2
    clear h0 hl1 hl2 hq0 hq1
    clear hcB hr hrh tk c1 c2 c3 hrb hra hrc cut hcc hv hc
    go_enter Tryd.func96, Tryd.ntmps96
    go_wp2_with (first
      | (refine wVar ptT PT.hole (H : SH Nil w _ [_]) rfl 4 _ rfl rfl rfl rfl rfl ?_; clear H; intro w2 H)
      | (refine wAlloc ptT (H : SH Nil w _ []) rfl rfl ?_; clear H; intro w1 H)
      | (refine wZero ptT rfl rfl ?_))
    go_loopw [5] (fun v5 wr => ∃ (k : Nat), v5 = .int .i64 (k : Int) ∧ k ≤ 32 ∧ SH Nil w wr [.blk w1.heap.size 33 ((hashK xs k).map cb ++ [u32 0, u32 0, u32 0]), .blk w.heap.size 33 PT.hole.cells]) (fun i _ => 32 - (intOf i).toNat)
    case atStart => exact ⟨0, rfl, by omega, H⟩
    case round =>
      obtain ⟨k, rfl, hk, HS⟩ := hrel
      clear H
      by_cases h32 : k < 32
      · have hki : (k : Int) < 32 := by omega
        have hkx : (k : Int) < (xs.length : Int) := by omega
        have hcell := cell_below HS.below (HCB.out k (by omega))
        have hset := hashK_set xs k h32 hl32 [u32 0, u32 0, u32 0]
        have hll := hashK_len xs k (by omega) hl32
        generalize xs.getD k 0 = x at hcell hset
        have HSET := Lib.hid hset
        have HLL := Lib.hid hll
        clear hset hll
        go_wp2_with (first
          | (refine wCell 5 (cb x) (by kernel_rfl) rfl rfl HS 0 (off := k) rfl (by rw [List.length_append, List.length_map, HLL.out]; simp; omega) _ HSET.out _ _ rfl rfl rfl rfl ?_; clear HS; intro w3 HS))
        go_roundw
        case rel => exact ⟨k + 1, by go_num, by omega, HS⟩
        case measure => simp [intOf] <;> omega
      · obtain rfl : k = 32 := by omega
        have H := HS
        rw [H0.out] at H
        clear HS hk h32
        by_cases hgt : 44 < xs.length
        · have hgt' : (44 : Int) < (xs.length : Int) := by omega
          have hE : decE xs = 3 := by rw [decE, if_neg h44, if_pos (.inl hgt)]
          have hP : decP xs = PT.hole := by rw [decP, hE, if_neg (by decide)]
          have HE := Lib.hid hE
          have HP := Lib.hid hP
          have cM := cM0
          clear hE hP cM0
          go_wp2_with (first
            | (go_at_call 95; (with_reducible refine (C1.out _ _ (hr1 _ H.below)).mono ?_); rintro e w4 ⟨v4, rfl, -, hb4⟩; replace H := H.step hb4; clear hb4)
            | (go_at_call 95; (with_reducible refine (C2.out _ _ (hr2 _ H.below)).mono ?_); rintro e w5 ⟨v5, rfl, -, hb4⟩; replace H := H.step hb4; clear hb4)
            | (go_at_call 95; (with_reducible refine (C3.out _ _ (hr3 _ H.below)).mono ?_); rintro e w6 ⟨v6, rfl, -, hb4⟩; replace H := H.step hb4; clear hb4)
            | (refine wCell 30 (u32 r.birth) (by kernel_rfl) rfl rfl H 0 (off := 32) rfl (by rw [PT.len]; decide) q1.cells HL1.out _ _ rfl rfl rfl rfl ?_; clear H; intro w7 H)
            | (refine stepV (exec_buildL 31 [(0, .tmp 54), (1, .tmp 55)] rfl [(0, u32 r.a0), (1, u32 r.a1)] rfl [u32 r.a0, u32 r.a1] (two_built _ _)) rfl ?_)
            | (refine wLayV 31 [u32 r.a0, u32 r.a1] two_one (by kernel_rfl) H 0 (off := 33) rfl (by rw [PT.len]; exact Nat.le_refl 35) r.cells HL2.out _ _ rfl rfl rfl rfl ?_; clear H; intro w8 H)
            | (refine wLoad ptT r H 0 rfl (List.take_of_length_le (by rw [List.drop_zero]; exact Nat.le_of_eq r.len)) _ rfl rfl rfl ?_)
            | (go_at_call 86; (with_reducible refine (cM _).mono ?_); rintro e w9 ⟨rfl, hb9⟩; replace H := H.step hb9; clear hb9)
            | (refine wZero ptT rfl rfl ?_)
            | (refine wStore ptT PT.hole H 1 rfl PT.hole.len _ _ rfl rfl rfl rfl ?_; clear H; intro w2 H))
          refine bodyPost_ret (results_cell_tmp rfl _ (H.va 1 rfl) rfl _ Tryd.underlying33 rfl (PT.info _)) rfl ?_
          exact ⟨by rw [HE.out, HP.out]; rfl, H.below⟩
        · have hgt' : (xs.length : Int) ≤ 44 := by omega
          have hgd : decide ((44 : Int) < (xs.length : Int)) = false := by simp; omega
          cases hm : r.may with
          | false =>
            have hE : decE xs = 3 := by rw [decE, if_neg h44, if_pos (.inr (by rw [← HR.out]; exact hm))]
            have hP : decP xs = PT.hole := by rw [decP, hE, if_neg (by decide)]
            have HE := Lib.hid hE
            have HP := Lib.hid hP
            have cM := cM0
            rw [hm] at cM
            clear hE hP cM0 hm
            go_wp2_with (first
              | (go_at_call 95; (with_reducible refine (C1.out _ _ (hr1 _ H.below)).mono ?_); rintro e w4 ⟨v4, rfl, -, hb4⟩; replace H := H.step hb4; clear hb4)
              | (go_at_call 95; (with_reducible refine (C2.out _ _ (hr2 _ H.below)).mono ?_); rintro e w5 ⟨v5, rfl, -, hb4⟩; replace H := H.step hb4; clear hb4)
              | (go_at_call 95; (with_reducible refine (C3.out _ _ (hr3 _ H.below)).mono ?_); rintro e w6 ⟨v6, rfl, -, hb4⟩; replace H := H.step hb4; clear hb4)
              | (refine wCell 30 (u32 r.birth) (by kernel_rfl) rfl rfl H 0 (off := 32) rfl (by rw [PT.len]; decide) q1.cells HL1.out _ _ rfl rfl rfl rfl ?_; clear H; intro w7 H)
              | (refine stepV (exec_buildL 31 [(0, .tmp 54), (1, .tmp 55)] rfl [(0, u32 r.a0), (1, u32 r.a1)] rfl [u32 r.a0, u32 r.a1] (two_built _ _)) rfl ?_)
              | (refine wLayV 31 [u32 r.a0, u32 r.a1] two_one (by kernel_rfl) H 0 (off := 33) rfl (by rw [PT.len]; exact Nat.le_refl 35) r.cells HL2.out _ _ rfl rfl rfl rfl ?_; clear H; intro w8 H)
              | (refine wLoad ptT r H 0 rfl (List.take_of_length_le (by rw [List.drop_zero]; exact Nat.le_of_eq r.len)) _ rfl rfl rfl ?_)
              | (go_at_call 86; (with_reducible refine (cM _).mono ?_); rintro e w9 ⟨rfl, hb9⟩; replace H := H.step hb9; clear hb9)
              | (refine wZero ptT rfl rfl ?_)
              | (refine wStore ptT PT.hole H 1 rfl PT.hole.len _ _ rfl rfl rfl rfl ?_; clear H; intro w2 H))
            refine bodyPost_ret (results_cell_tmp rfl _ (H.va 1 rfl) rfl _ Tryd.underlying33 rfl (PT.info _)) rfl ?_
            exact ⟨by rw [HE.out, HP.out]; rfl, H.below⟩
          | true =>
            have hE : decE xs = 0 := by rw [decE, if_neg h44, if_neg (by rw [← HR.out, hm]; simp; omega)]
            have hP : decP xs = r := by rw [decP, if_pos hE, HR.out]
            have HE := Lib.hid hE
            have HP := Lib.hid hP
            have cM := cM0
            rw [hm] at cM
            clear hE hP cM0 hm
            go_wp2_with (first
              | (go_at_call 95; (with_reducible refine (C1.out _ _ (hr1 _ H.below)).mono ?_); rintro e w4 ⟨v4, rfl, -, hb4⟩; replace H := H.step hb4; clear hb4)
              | (go_at_call 95; (with_reducible refine (C2.out _ _ (hr2 _ H.below)).mono ?_); rintro e w5 ⟨v5, rfl, -, hb4⟩; replace H := H.step hb4; clear hb4)
              | (go_at_call 95; (with_reducible refine (C3.out _ _ (hr3 _ H.below)).mono ?_); rintro e w6 ⟨v6, rfl, -, hb4⟩; replace H := H.step hb4; clear hb4)
              | (refine wCell 30 (u32 r.birth) (by kernel_rfl) rfl rfl H 0 (off := 32) rfl (by rw [PT.len]; decide) q1.cells HL1.out _ _ rfl rfl rfl rfl ?_; clear H; intro w7 H)
              | (refine stepV (exec_buildL 31 [(0, .tmp 54), (1, .tmp 55)] rfl [(0, u32 r.a0), (1, u32 r.a1)] rfl [u32 r.a0, u32 r.a1] (two_built _ _)) rfl ?_)
              | (refine wLayV 31 [u32 r.a0, u32 r.a1] two_one (by kernel_rfl) H 0 (off := 33) rfl (by rw [PT.len]; exact Nat.le_refl 35) r.cells HL2.out _ _ rfl rfl rfl rfl ?_; clear H; intro w8 H)
              | (refine wLoad ptT r H 0 rfl (List.take_of_length_le (by rw [List.drop_zero]; exact Nat.le_of_eq r.len)) _ rfl rfl rfl ?_)
              | (go_at_call 86; (with_reducible refine (cM _).mono ?_); rintro e w9 ⟨rfl, hb9⟩; replace H := H.step hb9; clear hb9)
              | (refine wZero ptT rfl rfl ?_)
              | (refine wStore ptT r H 1 rfl PT.hole.len _ _ rfl rfl rfl rfl ?_; clear H; intro w2 H))
            refine bodyPost_ret (results_cell_tmp rfl _ (H.va 1 rfl) rfl _ Tryd.underlying33 rfl (PT.info _)) rfl ?_
            exact ⟨by rw [HE.out, HP.out]; rfl, H.below⟩
end Go.Proofs.YticfcelbnkiopaaDoor

namespace Go.Proofs.YticfcelbnkiopaaDoor
set_option maxRecDepth 100000
open Go.RowKit
set_option linter.unusedSimpArgs false
set_option linter.unusedVariables false

theorem u32n (b : List UInt8) : (UInt32.ofNat (get32 b)).toNat = get32 b := by have := g32 b; omega
theorem enc_raw (xs : List UInt8) (h : xs.length = 44) : encL (rawP xs) = xs := by
  have e0 : (rawP xs).birth.toNat = get32 (xs.drop 32) := u32n _
  have e1 : (rawP xs).a0.toNat = get32 (xs.drop 36) := u32n _
  have e2 : (rawP xs).a1.toNat = get32 (xs.drop 40) := u32n _
  have p0 := put32_get (xs.drop 32) (by rw [List.length_drop]; omega)
  have p1 := put32_get (xs.drop 36) (by rw [List.length_drop]; omega)
  have p2 := put32_get (xs.drop 40) (by rw [List.length_drop]; omega)
  rw [List.drop_drop] at p0 p1 p2
  have p3 : xs.drop (40 + 4) = [] := List.drop_of_length_le (by omega)
  rw [p3, List.append_nil] at p2
  rw [encL, rawP_hash xs (by omega), e0, e1, e2, p2, List.append_assoc, List.append_assoc, p1, p0, List.take_append_drop]
theorem enc_dec (xs : List UInt8) (h : decE xs = 0) : xs.length = 44 ∧ decP xs = rawP xs ∧ encL (decP xs) = xs := by
  have hl : xs.length = 44 := by
    unfold decE at h
    split at h
    · omega
    · split at h
      · omega
      · rename_i h1 h2
        have : ¬ 44 < xs.length := fun h3 => h2 (.inl h3)
        omega
  have hp : decP xs = rawP xs := by rw [decP, if_pos h]
  exact ⟨hl, hp, by rw [hp]; exact enc_raw xs hl⟩
/-- The pointers of a node's bytes, if all are right. -/
def pls (xs : List UInt8) : PL := ⟨(List.range 4).map fun i => decP (chunk xs i), by simp⟩
theorem node_pls (xs : List UInt8) (h : xs.length = 256) (h1 : ∀ i < 4, decE (chunk xs i) = 0) : nodeL (pls xs) = xs.take 176 ++ List.replicate 80 0 := by
  have e : (pls xs).1.flatMap encL = xs.take 176 := by
    show ((List.range 4).map fun i => decP (chunk xs i)).flatMap encL = _
    simp only [List.range_succ, List.range_zero, List.nil_append, List.map_append, List.map_cons, List.map_nil, List.flatMap_append, List.flatMap_cons, List.flatMap_nil, List.append_nil, List.cons_append,
      (enc_dec _ (h1 0 (by omega))).2.2, (enc_dec _ (h1 1 (by omega))).2.2, (enc_dec _ (h1 2 (by omega))).2.2, (enc_dec _ (h1 3 (by omega))).2.2]
    simp only [chunk, Nat.zero_mul, Nat.one_mul, List.drop_zero, Nat.reduceMul]
    have s : ∀ a b : Nat, xs.take a ++ (xs.drop a).take b = xs.take (a + b) := fun a b => by rw [List.take_add]
    rw [← List.append_assoc, ← List.append_assoc, s 44 44, s 88 44, s 132 44]
  rw [nodeL, e]
theorem node_eq (xs : List UInt8) (h : xs.length = 256) (h1 : ∀ i < 4, decE (chunk xs i) = 0) : (nodeL (pls xs) == xs) = rdOK xs := by
  rw [node_pls xs h h1, Bool.eq_iff_iff, beq_iff_eq]
  have hd : (xs.drop 176).length = 80 := by rw [List.length_drop]; omega
  constructor
  · intro e
    refine rd_good xs h h1 fun j hj => ?_
    have e2 : xs.drop 176 = List.replicate 80 0 := by
      rw [← e, List.drop_left' (by rw [List.length_take]; omega)]
    rw [e2, List.getD_eq_getElem?_getD, List.getElem?_replicate, if_pos hj]
    rfl
  · intro e
    have e2 : xs.drop 176 = List.replicate 80 0 := by
      refine List.ext_getElem? fun j => ?_
      rw [List.getElem?_replicate]
      split
      · rename_i hj
        simp only [rdOK, Bool.and_eq_true, decide_eq_true_eq, List.all_eq_true, List.mem_range, beq_iff_eq] at e
        have := e.2 j hj
        rw [List.getD_eq_getElem?_getD, List.getElem?_eq_getElem (by omega)] at this
        rw [List.getElem?_eq_getElem (by omega)]
        exact congrArg some this
      · rename_i hj
        exact List.getElem?_eq_none (by omega)
    rw [← e2, List.take_append_drop]
theorem rd_pls (xs : List UInt8) (h : rdOK xs = true) : rdL xs = pls xs ∧ rdE xs = 0 := by simp [rdL, rdE, pls, h]
theorem preP_pls (xs : List UInt8) : (preP xs 4).flatMap PT.cells = (pls xs).cells := by simp [preP, pls, PL.cells]

end Go.Proofs.YticfcelbnkiopaaDoor

namespace Go.Proofs.YticfcelbnkiopaaDoor
set_option maxRecDepth 100000
open Go.RowKit Go.Shelf
set_option linter.unusedSimpArgs false
set_option linter.unusedVariables false

def trimLay_ren : Go.Shelf.Ren := ⟨fun | 6 => 130 | 10 => 148 | 9 => 147 | 11 => 149 | 13 => 151 | 12 => 150 | 15 => 153 | 14 => 152 | 16 => 163 | 19 => 166 | 18 => 165 | 17 => 164 | 21 => 170 | 20 => 169 | n => n, fun | 22 => 22 | 9 => 9 | 3 => 3 | 4 => 4 | 5 => 5 | 28 => 228 | 27 => 227 | 0 => 0 | 31 => 231 | 21 => 21 | 33 => 243 | 36 => 249 | 37 => 162 | 40 => 252 | 39 => 251 | n => n, fun | 0 => 1 | 1 => 2 | n => n⟩
theorem trimLay : SlLaysV.n6 Tryd.prog trimLay_ren where
  mixed := by kernel_rfl
  f6 := Tryd.func130.trans (congrArg some (by kernel_rfl))
  f9 := Tryd.func147.trans (congrArg some (by kernel_rfl))
  f10 := Tryd.func148.trans (congrArg some (by kernel_rfl))
  f11 := Tryd.func149.trans (congrArg some (by kernel_rfl))
  f12 := Tryd.func150.trans (congrArg some (by kernel_rfl))
  f13 := Tryd.func151.trans (congrArg some (by kernel_rfl))
  f14 := Tryd.func152.trans (congrArg some (by kernel_rfl))
  f15 := Tryd.func153.trans (congrArg some (by kernel_rfl))
  f16 := Tryd.func163.trans (congrArg some (by kernel_rfl))
  f17 := Tryd.func164.trans (congrArg some (by kernel_rfl))
  f18 := Tryd.func165.trans (congrArg some (by kernel_rfl))
  f19 := Tryd.func166.trans (congrArg some (by kernel_rfl))
  f20 := Tryd.func169.trans (congrArg some (by kernel_rfl))
  f21 := Tryd.func170.trans (congrArg some (by kernel_rfl))
  t0 := Tryd.underlying0
  a0 := Tryd.isAgg0
  z0 := Tryd.sizeOf0
  v0 := Tryd.zeroValue0
  t3 := Tryd.underlying3
  a3 := Tryd.isAgg3
  z3 := Tryd.sizeOf3
  v3 := Tryd.zeroValue3
  t4 := Tryd.underlying4
  a4 := Tryd.isAgg4
  z4 := Tryd.sizeOf4
  v4 := Tryd.zeroValue4
  t5 := Tryd.underlying5
  a5 := Tryd.isAgg5
  z5 := Tryd.sizeOf5
  v5 := Tryd.zeroValue5
  t9 := Tryd.underlying9
  a9 := Tryd.isAgg9
  z9 := Tryd.sizeOf9
  v9 := Tryd.zeroValue9
  t21 := Tryd.underlying21
  a21 := Tryd.isAgg21
  z21 := Tryd.sizeOf21
  v21 := Tryd.zeroValue21
  t22 := Tryd.underlying22
  a22 := Tryd.isAgg22
  z22 := Tryd.sizeOf22
  v22 := Tryd.zeroValue22
  t27 := Tryd.underlying227
  a27 := Tryd.isAgg227
  z27 := Tryd.sizeOf227
  t28 := Tryd.underlying228
  a28 := Tryd.isAgg228
  z28 := Tryd.sizeOf228
  v28 := Tryd.zeroValue228
  t31 := Tryd.underlying231
  a31 := Tryd.isAgg231
  z31 := Tryd.sizeOf231
  v31 := Tryd.zeroValue231
  t33 := Tryd.underlying243
  a33 := Tryd.isAgg243
  z33 := Tryd.sizeOf243
  v33 := Tryd.zeroValue243
  t36 := Tryd.underlying249
  a36 := Tryd.isAgg249
  z36 := Tryd.sizeOf249
  t37 := Tryd.underlying162
  a37 := Tryd.isAgg162
  z37 := Tryd.sizeOf162
  v37 := Tryd.zeroValue162
  t39 := Tryd.underlying251
  a39 := Tryd.isAgg251
  z39 := Tryd.sizeOf251
  v39 := Tryd.zeroValue251
  t40 := Tryd.underlying252
  a40 := Tryd.isAgg252
  z40 := Tryd.sizeOf252
  v40 := Tryd.zeroValue252
theorem trim_none (l : List UInt8) : (Lib.trimS l [0]).length = 0 ↔ l.all (· == 0) = true := by
  have hd : ∀ l : List UInt8, l.dropWhile ([0].contains ·) = [] ↔ l.all (· == 0) = true := fun l => by
    induction l with
    | nil => simp
    | cons x l ih =>
      rw [List.dropWhile_cons, List.all_cons]
      by_cases hx : x = 0
      · subst hx
        rw [if_pos (by simp)]
        simpa using ih
      · rw [if_neg (by simp; exact hx)]
        simp [hx]
  rw [List.length_eq_zero_iff, Lib.trimS, Lib.trimLeftS, hd, Lib.trimRightS, List.all_reverse]
  constructor
  · intro h
    have h2 : (l.reverse.dropWhile ([0].contains ·)) = [] := by
      cases hq : l.reverse.dropWhile ([0].contains ·) with
      | nil => rfl
      | cons x xs =>
        have h3 := List.head_dropWhile_not ([0].contains ·) (l := l.reverse) (by rw [hq]; simp)
        simp only [hq, List.head_cons] at h3
        rw [hq, List.all_cons, Bool.and_eq_true] at h
        have h4 := h.1
        rw [beq_iff_eq] at h4
        subst h4
        simp at h3
    rw [hd, List.all_reverse] at h2
    exact h2
  · intro h
    have h2 := (hd l.reverse).2 (by rw [List.all_reverse]; exact h)
    rw [h2]; rfl
theorem trimS_le (l : List UInt8) : (Lib.trimS l [0]).length ≤ (Lib.trimRightS l [0]).length := by
  rw [Lib.trimS, Lib.trimLeftS]
  exact (List.dropWhile_sublist _).length_le
theorem cell_spot {w : World} {ad : Addr} {v : Value} (h : w.cell? ad = some v) : ad = ⟨ad.block, ad.off, none⟩ := by
  obtain ⟨b, o, s⟩ := ad
  cases s with
  | none => rfl
  | some k =>
    exfalso
    unfold World.cell? at h
    split at h
    · simp at h
    · cases h
theorem RB.bytesAt {w : World} {A : Option Addr} {n c : Nat} {xs : List UInt8} (h : RB w (.slice A n c) xs) : Lib.BytesAt w A n xs := fun hp => by
  obtain ⟨A', c', e, -⟩ := h.len
  injection e with e1 e2 e3
  subst e2
  obtain ⟨ad, rfl, hc⟩ := RB.byte h hp
  have h0 := hc 0 hp
  have hs := cell_spot h0
  rw [show ad.add 0 = ad from rfl] at hs
  refine ⟨ad.block, ad.off, by rw [hs], fun i hi => ?_⟩
  have k := hc i hi
  rw [hs, Addr.add_mid] at k
  exact k
theorem Trim_any (A0 : Option Addr) (n c : Nat) (xs : List UInt8) (w : World) (hv : RB w (.slice A0 n c) xs) (hc : c ≤ 9223372036854775807) :
    Calls Tryd.prog 130 #[.slice A0 n c, .string ⟨#[0]⟩] w fun e w' => ∃ A k c', e = .returned (.slice A k c') ∧ (decide ((0 : Int) < (k : Int)) = !(xs.all (· == 0))) ∧ (((k : Int) == 0) = xs.all (· == 0)) ∧ Below w.heap.size w w' := by
  obtain ⟨A, c', e, hle⟩ := hv.len
  injection e with e1 e2 e3
  subst e2 e3
  rcases Nat.eq_zero_or_pos xs.length with h0 | h0
  · have hx : xs = [] := List.eq_nil_of_length_eq_zero h0
    subst hx
    refine (Any.bytes_Trim_none trimLay _ _ _ w).mono fun e w' ⟨h1, h2⟩ => ?_
    subst h2
    exact ⟨none, 0, 0, h1, by simp, by simp, Below.refl _ _⟩
  · refine (Any.bytes_Trim_one trimLay _ xs.length c xs 0 w rfl hle hc (RB.bytesAt hv) h0 (by decide)).mono fun e w' ⟨h1, q, h2⟩ => ?_
    subst h2
    have h3 := trimS_le xs
    have h4 := trim_none xs
    have hb : Below w.heap.size w (w.drewN q) := ⟨rfl, rfl, rfl, Nat.le_refl _, fun _ _ => rfl⟩
    have hk : ∀ k : Nat, k = (Lib.trimS xs [0]).length → (decide ((0 : Int) < (k : Int)) = !(xs.all (· == 0))) ∧ (((k : Int) == 0) = xs.all (· == 0)) := fun k hk => by
      cases ha : xs.all (· == 0) with
      | true =>
        rw [ha] at h4
        have : k = 0 := by rw [hk]; exact h4.2 rfl
        subst this
        simp
      | false =>
        have : k ≠ 0 := fun e => by rw [e] at hk; have := h4.1 hk.symm; rw [ha] at this; cases this
        exact ⟨by simp; omega, by simp; omega⟩
    unfold Lib.leftV at h1
    split at h1
    · rename_i hz
      exact ⟨none, 0, 0, h1, (hk 0 (by omega)).1, (hk 0 (by omega)).2, hb⟩
    · unfold Lib.fromV at h1
      split at h1
      · exact ⟨_, _, _, h1, (hk _ (by omega)).1, (hk _ (by omega)).2, hb⟩
      · exact ⟨_, _, _, h1, (hk _ (by omega)).1, (hk _ (by omega)).2, hb⟩
theorem Equal_any (v1 v2 : Value) (xs ys : List UInt8) (w : World) (h1 : RB w v1 xs) (h2 : RB w v2 ys) : Calls Tryd.prog 90 #[v1, v2] w fun e w' => e = .returned (.bool (xs == ys)) ∧ Below w.heap.size w w' := by
  have H := SH.start Nil w
  obtain ⟨A1, c1, rfl, -⟩ := h1.len
  obtain ⟨A2, c2, rfl, -⟩ := h2.len
  have RO := HOLD.rdCons h1 (HOLD.rdOne h2)
  clear h1 h2
  go_enter Tryd.func90, Tryd.ntmps90
  go_wp2_with (first
    | ((with_reducible refine gConv ?_); first | (refine aStr H _ rfl rfl rfl ?_) | (refine aStrR RO H _ rfl rfl rfl ?_)))
  go_ret
  exact ⟨rfl, H.below⟩
end Go.Proofs.YticfcelbnkiopaaDoor

namespace Go.Proofs.YticfcelbnkiopaaDoor
set_option maxRecDepth 100000
open Go.RowKit
set_option linter.unusedSimpArgs false
set_option linter.unusedVariables false

set_option maxHeartbeats 1600000 in
theorem isZero_any (A : Option Addr) (n c : Nat) (xs : List UInt8) (w : World) (hv : RB w (.slice A n c) xs) (hc : c ≤ 9223372036854775807) : Calls Tryd.prog 93 #[.slice A n c] w fun e w' => e = .returned (.bool (xs.all (· == 0))) ∧ Below w.heap.size w w' := by
  have H := SH.start Nil w
  have RO := HOLD.rdOne hv
  have HT := Lib.hid (fun W (h : RB W (.slice A n c) xs) => Trim_any A n c xs W h hc)
  clear hv
  go_enter Tryd.func93, Tryd.ntmps93
  go_wp2_with (first
    | (go_at_call 130; (with_reducible refine (HT.out _ ((H.old RO).rd _)).mono ?_); rintro e w' ⟨A1, k1, c1, rfl, hk1, hk2, hb⟩; replace H := H.step hb; clear hb))
  go_ret
  exact ⟨rfl, H.below⟩
set_option maxHeartbeats 1600000 in
theorem HasPrefix_any (A A2 : Option Addr) (n c n2 c2 : Nat) (xs ys : List UInt8) (w : World) (h1 : RB w (.slice A n c) xs) (h2 : RB w (.slice A2 n2 c2) ys) (hn : ys.length ≤ xs.length) : Calls Tryd.prog 129 #[.slice A n c, .slice A2 n2 c2] w fun e w' => e = .returned (.bool (xs.take ys.length == ys)) ∧ Below w.heap.size w w' := by
  have H := SH.start Nil w
  have RO := HOLD.rdCons h1 (HOLD.rdOne h2)
  obtain ⟨_, _, e1, hle⟩ := h1.len
  injection e1 with ea e1 e3
  subst ea e1 e3
  obtain ⟨_, _, e2, -⟩ := h2.len
  injection e2 with eb e2 e4
  subst eb e2 e4
  have hi : (ys.length : Int) ≤ (xs.length : Int) := by omega
  have hge : ((ys.length : Int) ≤ (xs.length : Int)) = True := eq_true hi
  obtain ⟨A3, -, -, g3, g4⟩ := cutB A c xs 0 ys.length (by omega) hn hle
  have g5 := fun (kl : IntKind) (W : World) => g3 kl W rfl
  have HE := Lib.hid (fun W (h : RB W (.slice A xs.length c) xs) (k : RB W (.slice A2 ys.length c2) ys) => Equal_any (.slice A3 ys.length c) (.slice A2 ys.length c2) (xs.take ys.length) ys W (by have := g4 W h; rw [List.drop_zero, Nat.sub_zero, Nat.sub_zero] at this; exact this) k)
  clear h1 h2 g3 g4 hn
  go_enter Tryd.func129, Tryd.ntmps129
  go_wp2_with (first
    | (go_at_call 90; (with_reducible refine (HE.out _ ((H.old RO).rd _) ((H.old RO).rd _)).mono ?_); rintro e w' ⟨rfl, hb⟩; replace H := H.step hb; clear hb))
  go_ret
  exact ⟨rfl, H.below⟩
set_option maxHeartbeats 1600000 in
theorem CutPrefix_any (A A2 : Option Addr) (n c n2 c2 : Nat) (xs ys : List UInt8) (w : World) (h1 : RB w (.slice A n c) xs) (h2 : RB w (.slice A2 n2 c2) ys) (hn : ys.length ≤ xs.length) :
    Calls Tryd.prog 91 #[.slice A n c, .slice A2 n2 c2] w fun e w' => ∃ A' n' c' , e = .returned (.tuple #[.slice A' n' c', .bool (xs.take ys.length == ys)]) ∧ (∀ W, RB W (.slice A n c) xs → RB W (.slice A' n' c') (if (xs.take ys.length == ys) = true then xs.drop ys.length else xs)) ∧ Below w.heap.size w w' := by
  have H := SH.start Nil w
  have RO := HOLD.rdCons h1 (HOLD.rdOne h2)
  have HH := Lib.hid (fun W h k => HasPrefix_any A A2 n c n2 c2 xs ys W h k hn)
  obtain ⟨_, _, e1, hle⟩ := h1.len
  injection e1 with ea e1 e3
  subst ea e1 e3
  obtain ⟨_, _, e2, -⟩ := h2.len
  injection e2 with eb e2 e4
  subst eb e2 e4
  obtain ⟨A3, -, g2, -, g4⟩ := cutB A c xs ys.length xs.length hn (Nat.le_refl _) hle
  have g5 := fun (kl : IntKind) (W : World) => g2 kl W rfl
  have G4 := Lib.hid g4
  clear h1 h2 g2 g4
  cases hq : (xs.take ys.length == ys) with
  | true =>
    rw [hq] at HH
    go_enter Tryd.func91, Tryd.ntmps91
    go_wp2_with (first
      | (go_at_call 129; (with_reducible refine (HH.out _ ((H.old RO).rd _) ((H.old RO).rd _)).mono ?_); rintro e w' ⟨rfl, hb⟩; replace H := H.step hb; clear hb))
    go_ret2
    refine ⟨_, _, _, rfl, fun W h => ?_, H.below⟩
    have := G4.out W h
    rw [List.take_length] at this
    exact this
  | false =>
    rw [hq] at HH
    go_enter Tryd.func91, Tryd.ntmps91
    go_wp2_with (first
      | (go_at_call 129; (with_reducible refine (HH.out _ ((H.old RO).rd _) ((H.old RO).rd _)).mono ?_); rintro e w' ⟨rfl, hb⟩; replace H := H.step hb; clear hb))
    go_ret2
    exact ⟨_, _, _, rfl, fun W h => h, H.below⟩
end Go.Proofs.YticfcelbnkiopaaDoor

namespace Go.Proofs.YticfcelbnkiopaaDoor
set_option maxRecDepth 100000
open Go.RowKit
set_option linter.unusedSimpArgs false
set_option linter.unusedVariables false

theorem OR.cap {α : Type} {T : Ty α} {w : World} {base : Nat} {A : Option Addr} {n c : Nat} {xs : List α} (h : OR T w base (.slice A n c) xs) : c ≤ 9223372036854775807 := by
  rcases h.2 with ⟨h1, h2⟩ | ⟨g, cap, cur, hv, _, _, _, h3, _⟩
  · injection h1 with _ _ e; omega
  · injection hv with _ _ e
    subst e
    exact h3
/-- What stands in a label's bytes. -/
def lbTxg (b : List UInt8) : UInt32 := UInt32.ofNat (get32 (b.drop 4))
def lbRoot (b : List UInt8) : List UInt8 := (b.take 52).drop 8
def lbMap (b : List UInt8) : List UInt8 := (b.take 116).drop 52
def lbZero (b : List UInt8) : List UInt8 := (b.take 224).drop 116
def lbGood (b : List UInt8) : Bool := (b.take 4 == [67, 65, 85, 84]) && (decE (lbRoot b) == 0) && (lbZero b).all (· == 0)
def lbE (b : List UInt8) : Int := if b.length ≠ 256 then 3 else if (shaL (b.take 224) == b.drop 224) = false then 14 else if lbGood b = true then 0 else 3
def decLU (b : List UInt8) : UInt32 := if lbE b = 0 then lbTxg b else 0
def decLP (b : List UInt8) : PT := if lbE b = 0 then decP (lbRoot b) else PT.hole
def decLM (b : List UInt8) : List UInt8 := if lbE b = 0 then lbMap b else []
theorem lbC_zero : lbC 0 PT.hole (.slice none 0 0) = lbC (decLU []) (decLP []) (.slice none 0 0) := rfl
theorem lb_cases (b : List UInt8) : b.length ≠ 256 ∨ (b.length = 256 ∧ (shaL (b.take 224) == b.drop 224) = false) ∨ (b.length = 256 ∧ (shaL (b.take 224) == b.drop 224) = true ∧ lbGood b = false) ∨ (b.length = 256 ∧ (shaL (b.take 224) == b.drop 224) = true ∧ lbGood b = true) := by
  by_cases h : b.length = 256
  · cases h1 : (shaL (b.take 224) == b.drop 224) with
    | false => exact .inr (.inl ⟨h, rfl⟩)
    | true =>
      cases h2 : lbGood b with
      | false => exact .inr (.inr (.inl ⟨h, rfl, rfl⟩))
      | true => exact .inr (.inr (.inr ⟨h, rfl, rfl⟩))
  · exact .inl h
theorem lb_short {b : List UInt8} (h : b.length ≠ 256) : lbE b = 3 := by rw [lbE, if_pos h]
theorem lb_sum {b : List UInt8} (h : b.length = 256) (h1 : (shaL (b.take 224) == b.drop 224) = false) : lbE b = 14 := by rw [lbE, if_neg (by omega), if_pos h1]
theorem lb_bad {b : List UInt8} (h : b.length = 256) (h1 : (shaL (b.take 224) == b.drop 224) = true) (h2 : lbGood b = false) : lbE b = 3 := by rw [lbE, if_neg (by omega), if_neg (by rw [h1]; decide), if_neg (by rw [h2]; decide)]
theorem lb_good {b : List UInt8} (h : b.length = 256) (h1 : (shaL (b.take 224) == b.drop 224) = true) (h2 : lbGood b = true) : lbE b = 0 := by rw [lbE, if_neg (by omega), if_neg (by rw [h1]; decide), if_pos h2]
/-- What Decode tells. -/
def LabTold (b : List UInt8) (P : Value → Prop) (e : Ending) : Prop := ∃ A c, e = .returned (.tuple #[.agg (lbC (decLU b) (decLP b) (.slice A (decLM b).length c)).toArray, .int .i64 (lbE b)]) ∧ P (.slice A (decLM b).length c)
theorem LabTold.bad {b : List UInt8} {P : Value → Prop} (h : lbE b ≠ 0) (hp : P (.slice none 0 0)) : LabTold b P (.returned (.tuple #[.agg (lbC 0 PT.hole (.slice none 0 0)).toArray, .int .i64 (lbE b)])) := by
  have e1 : decLU b = 0 := if_neg h
  have e2 : decLP b = PT.hole := if_neg h
  have e3 : decLM b = [] := if_neg h
  exact ⟨none, 0, by rw [e1, e2, e3]; rfl, by rw [e3]; exact hp⟩
theorem decLM_bad {b : List UInt8} (h : lbE b ≠ 0) : decLM b = [] := if_neg h
theorem pieces (b : List UInt8) (h : b.length = 256) : (b.take 224).length = 224 ∧ (lbRoot b).length = 44 ∧ (lbMap b).length = 64 ∧ (lbZero b).length = 108 ∧ (b.drop 224).length = 32 ∧ (b.drop 4).length = 252 := by
  simp only [lbRoot, lbMap, lbZero, List.length_drop, List.length_take, h]; decide
theorem lab_zero_built (parts : List (Nat × Value)) : Program.built Tryd.prog 80 parts = Instr.fill (([(0, 1), (1, 35), (36, 1)] : List (Nat × Nat)).toArray[·]?) (lbC 0 PT.hole (.slice none 0 0)).toArray parts := by rfl
theorem lay_zero1 (a : Value) (l : List Value) (b : Value) : lay (a :: l) 0 [b] = b :: l := by simp [lay]
theorem lab_built (u : UInt32) (p : PT) (A : Option Addr) (n c : Nat) : Program.built Tryd.prog 80 [(0, u32 u), (1, .agg p.cells.toArray), (2, .slice A n c)] = some (lbC u p (.slice A n c)).toArray := by
  have l1 : lay (lbC 0 PT.hole (.slice none 0 0)) 0 [u32 u] = lbC u PT.hole (.slice none 0 0) := lay_zero1 _ _ _
  have l2 : lay (lbC u PT.hole (.slice none 0 0)) 1 p.cells = lbC u p (.slice none 0 0) := by
    rw [lay, lbC, lbC, p.len, List.take_succ_cons, List.take_zero, show 1 + 35 = 35 + 1 from rfl, List.drop_succ_cons, List.drop_left' PT.hole.len]; rfl
  have l3 : lay (lbC u p (.slice none 0 0)) 36 [.slice A n c] = lbC u p (.slice A n c) := by
    rw [lay, lbC, lbC, show 36 = 35 + 1 from rfl, List.take_succ_cons, List.take_left' p.len, List.drop_of_length_le (by rw [List.length_cons, List.length_append, p.len]; simp)]; simp
  rw [lab_zero_built, fill_cons _ _ _ _ _ 0 1 [u32 u] rfl rfl rfl (by rw [lbC_len]; omega), l1, fill_cons _ _ _ _ _ 1 35 p.cells rfl rfl p.len (by rw [lbC_len]; omega), l2, fill_cons _ _ _ _ _ 36 1 [.slice A n c] rfl rfl rfl (by rw [lbC_len]; omega), l3, Instr.fill]
set_option maxHeartbeats 3200000 in
theorem labDecode_any (A : Option Addr) (n c : Nat) (b : List UInt8) (w : World) (hv : RB w (.slice A n c) b) (hc : c ≤ 9223372036854775807) :
    Calls Tryd.prog 40 #[.slice A n c] w fun e w' => LabTold b (fun v => OB w' w.heap.size v (decLM b)) e ∧ Below w.heap.size w w' := by
  have H := SH.start Nil w
  have RO := HOLD.rdOne hv
  obtain ⟨_, _, e1, hle⟩ := hv.len
  injection e1 with ea e1 e3
  subst ea e1 e3
  rcases lb_cases b with h | ⟨h, hs⟩ | ⟨h, hs, hg⟩ | ⟨h, hs, hg⟩
  · have hne : ((b.length : Int) != 256) = true := by simp; omega
    have hne1 : ((b.length : Int) == 256) = false := beq_eq_false_iff_ne.mpr (by omega)
    have hE := lb_short h
    have HB := Lib.hid (fun w' : World => LabTold.bad (b := b) (P := fun v => OB w' w.heap.size v (decLM b)) (by rw [hE]; decide) (by rw [decLM_bad (by rw [hE]; decide)]; exact OB.none _ _))
    rw [hE] at HB
    clear hE hv
    go_enter Tryd.func40, Tryd.ntmps40
    go_wp2_with (first
      | ((with_reducible refine gDst 2 ?_); refine aAlloc H rfl rfl ?_; clear H; intro b2 w2 H)
      | ((with_reducible refine gDst 4 ?_); refine aAlloc H rfl rfl ?_; clear H; intro b4 w4 H)
      | ((with_reducible refine gDst 7 ?_); refine aAlloc H rfl rfl ?_; clear H; intro b7 w7 H)
      | ((with_reducible refine gBuild ?_); refine aZero rfl rfl ?_)
      | ((with_reducible refine gStore ?_); (first | (refine aStore H _ _ rfl rfl rfl (by (first | exact ⟨rfl, rfl⟩ | exact ⟨by decide, rfl⟩ | (simp []; done) | (constructor <;> simp [] <;> omega))) (by first | rfl | simp [List.all_append, one_all]) rfl ?_) | (refine aLay H _ _ rfl rfl rfl (by (first | exact ⟨rfl, rfl⟩ | exact ⟨by decide, rfl⟩ | (simp []; done) | (constructor <;> simp [] <;> omega))) (by first | rfl | simp [List.all_append, one_all]) (by simp only [lay, List.take_succ_cons, List.take_zero, List.drop_succ_cons, List.drop_zero, List.nil_append, List.cons_append, List.length_cons, List.length_nil, Nat.zero_add, Nat.reduceAdd]; rfl) rfl ?_)); clear H; intro w' H; try dsimp only at H)
      | ((with_reducible refine gConv ?_); first | (refine aStr H _ rfl rfl rfl ?_) | (refine aStrR RO H _ rfl rfl rfl ?_)))
    refine bodyPost_ret (res_cell_tmp rfl _ H.hold rfl rfl) rfl ?_
    exact ⟨HB.out _, H.below⟩
  all_goals
    obtain ⟨p1, p2, p3, p4, p5, p6⟩ := pieces b h
    obtain ⟨A1, -, -, k1, r1⟩ := cutB A c b 0 224 (by omega) (by omega) hle
    obtain ⟨A2, -, k2, -, r2⟩ := cutB A c b 224 b.length (by omega) (Nat.le_refl _) hle
    obtain ⟨A3, k3, -, -, r3⟩ := cutB A c b 8 52 (by omega) (by omega) hle
    obtain ⟨A4, k4, -, -, r4⟩ := cutB A c b 116 224 (by omega) (by omega) hle
    obtain ⟨A5, k5, -, -, r5⟩ := cutB A c b 52 116 (by omega) (by omega) hle
    have k1' := fun (kl : IntKind) (W : World) => k1 kl W rfl
    have k2' := fun (kl : IntKind) (W : World) => k2 kl W rfl
    rw [List.take_length] at r2
    rw [h] at k1' k2' k3 k4 k5 r1 r2 r3 r4 r5 RO hv
    simp only [Nat.reduceSub, Nat.sub_zero, List.drop_zero] at k1' k2' k3 k4 k5 r1 r2 r3 r4 r5
    push_cast at k1' k2' k3 k4 k5
    change ∀ w, _ → RB w _ (lbRoot b) at r3
    change ∀ w, _ → RB w _ (lbZero b) at r4
    change ∀ w, _ → RB w _ (lbMap b) at r5
    have HS := Lib.hid (fun W (h : RB W (.slice A 256 c) b) => Sum_any (.slice A1 224 c) (b.take 224) W (r1 W h) (by rw [p1]; decide))
    have HSL := Lib.hid (show ((shaL (b.take 224)).map cb).length = 32 by rw [List.length_map, shaL_len])
    have HSN := Lib.hid (shaL_len (b.take 224))
    have HQ := Lib.hid (fun v W (k : RB W v (shaL (b.take 224))) (h : RB W (.slice A 256 c) b) => Equal_any v (.slice A2 32 (c - 224)) _ _ W k (r2 W h))
    rw [hs] at HQ
    rw [h]
    clear k1 k2
  · have hE := lb_sum h hs
    have HB := Lib.hid (fun w' : World => LabTold.bad (b := b) (P := fun v => OB w' w.heap.size v (decLM b)) (by rw [hE]; decide) (by rw [decLM_bad (by rw [hE]; decide)]; exact OB.none _ _))
    rw [hE] at HB
    clear hE hv r1 r2 r3 r4 r5 k3 k4 k5 hs h hle
    go_enter Tryd.func40, Tryd.ntmps40
    go_wp2_with (first
      | ((with_reducible refine gSto (.tmp 4) (.tmp 18) ?_); refine aStore H _ _ rfl rfl rfl ⟨by rfl, HSL.out⟩ (one_all _) rfl ?_; clear H; intro w' H; (try dsimp only at H))
      | (go_at_call 24; (with_reducible refine (HS.out _ ((H.old RO).rd _)).mono ?_); rintro e w' ⟨rfl, hb⟩; replace H := H.step hb; clear hb)
      | ((with_reducible refine gDst 2 ?_); refine aAlloc H rfl rfl ?_; clear H; intro b2 w2 H)
      | ((with_reducible refine gDst 4 ?_); refine aAlloc H rfl rfl ?_; clear H; intro b4 w4 H)
      | ((with_reducible refine gDst 7 ?_); refine aAlloc H rfl rfl ?_; clear H; intro b7 w7 H)
      | ((with_reducible refine gBuild ?_); refine aZero rfl rfl ?_)
      | ((with_reducible refine gStore ?_); (first | (refine aStore H _ _ rfl rfl rfl (by (first | exact ⟨rfl, rfl⟩ | exact ⟨by decide, rfl⟩ | (simp []; done) | (constructor <;> simp [] <;> omega))) (by first | rfl | simp [List.all_append, one_all]) rfl ?_) | (refine aLay H _ _ rfl rfl rfl (by (first | exact ⟨rfl, rfl⟩ | exact ⟨by decide, rfl⟩ | (simp []; done) | (constructor <;> simp [] <;> omega))) (by first | rfl | simp [List.all_append, one_all]) (by simp only [lay, List.take_succ_cons, List.take_zero, List.drop_succ_cons, List.drop_zero, List.nil_append, List.cons_append, List.length_cons, List.length_nil, Nat.zero_add, Nat.reduceAdd]; rfl) rfl ?_)); clear H; intro w' H; try dsimp only at H)
      | ((with_reducible refine gConv ?_); first | (refine aStr H _ rfl rfl rfl ?_) | (refine aStrR RO H _ rfl rfl rfl ?_)))
    refine startA (fun i => false) (by kernel_rfl) (fun wS hS => ?_)
    replace H := H.drew
    rw [← hS] at H
    have HH := H.hold
    have HR := H.old RO
    have HS0 : Below wS.heap.size wS wS := Below.refl _ _
    clear hS
    refine takeP 0 rfl (by kernel_rfl) (by kernel_rfl) (by kernel_rfl) (by kernel_rfl) (fun _ _ _ h => h) rfl (v := ?_) ?_ ?_
    rotate_left
    · intro w'; go_simp; (try with_reducible rfl)
    (try simp only [Act.put, List.setIfInBounds_toArray, List.set_cons_zero, List.set_cons_succ])
    refine takeP 1 rfl (by kernel_rfl) (by kernel_rfl) (by kernel_rfl) (by kernel_rfl) (fun _ _ _ h => h) rfl (v := ?_) ?_ ?_
    rotate_left
    · intro w'; go_simp; (try with_reducible rfl)
    (try simp only [Act.put, List.setIfInBounds_toArray, List.set_cons_zero, List.set_cons_succ])
    refine takeP 2 rfl (by kernel_rfl) (by kernel_rfl) (by kernel_rfl) (by kernel_rfl) (fun _ _ _ h => h) rfl (v := ?_) ?_ ?_
    rotate_left
    · intro w'; go_simp; (try with_reducible rfl)
    (try simp only [Act.put, List.setIfInBounds_toArray, List.set_cons_zero, List.set_cons_succ])
    refine stepL 3 rfl (by kernel_rfl) rfl (fun K hK => ?_)
    (go_simp; (with_reducible refine ((HQ.out _ _ ((H.hold.va (b := b4)).rbn 32 HSN.out (by decide)) ((H.old RO).rd _))).mono ?_); rintro e w' ⟨rfl, hb⟩; replace H := H.step hb; replace HS0 := below_two HS0 HS0.size hb; clear hb; refine hK.out _ _ (fun _ _ => HS0) ?_; clear K hK)
    (try simp only [Act.put, List.setIfInBounds_toArray, List.set_cons_zero, List.set_cons_succ])
    refine takeP 4 rfl (by kernel_rfl) (by kernel_rfl) (by kernel_rfl) (by kernel_rfl) (fun _ _ _ h => h) rfl (v := ?_) ?_ ?_
    rotate_left
    · intro w'; go_simp; (try with_reducible rfl)
    (try simp only [Act.put, List.setIfInBounds_toArray, List.set_cons_zero, List.set_cons_succ])
    refine doneL (by kernel_rfl) ?_
    go_wp2_with (first
      | ((with_reducible refine gDst 2 ?_); refine aAlloc H rfl rfl ?_; clear H; intro b2 w2 H)
      | ((with_reducible refine gDst 4 ?_); refine aAlloc H rfl rfl ?_; clear H; intro b4 w4 H)
      | ((with_reducible refine gDst 7 ?_); refine aAlloc H rfl rfl ?_; clear H; intro b7 w7 H)
      | ((with_reducible refine gBuild ?_); refine aZero rfl rfl ?_)
      | ((with_reducible refine gStore ?_); (first | (refine aStore H _ _ rfl rfl rfl (by (first | exact ⟨rfl, rfl⟩ | exact ⟨by decide, rfl⟩ | (simp []; done) | (constructor <;> simp [] <;> omega))) (by first | rfl | simp [List.all_append, one_all]) rfl ?_) | (refine aLay H _ _ rfl rfl rfl (by (first | exact ⟨rfl, rfl⟩ | exact ⟨by decide, rfl⟩ | (simp []; done) | (constructor <;> simp [] <;> omega))) (by first | rfl | simp [List.all_append, one_all]) (by simp only [lay, List.take_succ_cons, List.take_zero, List.drop_succ_cons, List.drop_zero, List.nil_append, List.cons_append, List.length_cons, List.length_nil, Nat.zero_add, Nat.reduceAdd]; rfl) rfl ?_)); clear H; intro w' H; try dsimp only at H)
      | ((with_reducible refine gConv ?_); first | (refine aStr H _ rfl rfl rfl ?_) | (refine aStrR RO H _ rfl rfl rfl ?_)))
    refine bodyPost_ret (res_cell_tmp rfl _ H.hold rfl rfl) rfl ?_
    exact ⟨HB.out _, H.below⟩
  all_goals
    have hcp : ∀ A2 c2 W, RB W (.slice A 256 c) b → RB W (.slice A2 4 c2) [67, 65, 85, 84] → Calls Tryd.prog 91 #[.slice A 256 c, .slice A2 4 c2] W fun e w' => ∃ A' n' c', e = .returned (.tuple #[.slice A' n' c', .bool (b.take 4 == [67, 65, 85, 84])]) ∧ (∀ W, RB W (.slice A 256 c) b → RB W (.slice A' n' c') (if (b.take 4 == [67, 65, 85, 84]) = true then b.drop 4 else b)) ∧ Below W.heap.size W w' := fun A2 c2 W h k => CutPrefix_any A A2 256 c 4 c2 b [67, 65, 85, 84] W h k (by rw [‹b.length = 256›]; decide)
    have hdp : ∀ W, RB W (.slice A 256 c) b → Calls Tryd.prog 92 #[.slice A3 44 (c - 8)] W fun e w' => e = .returned (.tuple #[.agg (decP (lbRoot b)).cells.toArray, .int .i64 (decE (lbRoot b) : Int)]) ∧ Below W.heap.size W w' := fun W h => Decode_any (.slice A3 44 (c - 8)) (lbRoot b) W (r3 W h) (by rw [p2]; decide)
    have HZ := Lib.hid (fun W (h : RB W (.slice A 256 c) b) => isZero_any A4 108 (c - 116) (lbZero b) W (r4 W h) (by omega))
    have HPL := Lib.hid (decP (lbRoot b)).len
    have HPO := Lib.hid (PT.one (decP (lbRoot b)))
    have HC := Lib.hid hcp
    have HP := Lib.hid hdp
    clear hcp hdp
  · have hE := lb_bad h hs hg
    have HB := Lib.hid (fun w' : World => LabTold.bad (b := b) (P := fun v => OB w' w.heap.size v (decLM b)) (by rw [hE]; decide) (by rw [decLM_bad (by rw [hE]; decide)]; exact OB.none _ _))
    rw [hE] at HB
    have hg3 : (b.take 4 == [67, 65, 85, 84]) = false ∨ ((b.take 4 == [67, 65, 85, 84]) = true ∧ ((decE (lbRoot b) : Int) != 0) = true) ∨ ((b.take 4 == [67, 65, 85, 84]) = true ∧ ((decE (lbRoot b) : Int) != 0) = false ∧ (lbZero b).all (· == 0) = false) := by
      rw [lbGood] at hg
      cases g1 : (b.take 4 == [67, 65, 85, 84]) with
      | false => exact .inl rfl
      | true =>
        rw [g1] at hg
        by_cases g2 : decE (lbRoot b) = 0
        · rw [g2] at hg ⊢
          exact .inr (.inr ⟨rfl, rfl, by simpa using hg⟩)
        · exact .inr (.inl ⟨rfl, by simp; omega⟩)
    generalize decP (lbRoot b) = p at *
    generalize (decE (lbRoot b) : Int) = de at *
    clear hE hv r1 r2 r3 r4 r5 hs h hle hg
    generalize (b.take 4 == [67, 65, 85, 84]) = ok at *
    generalize (lbZero b).all (· == 0) = z at *
    rcases hg3 with rfl | ⟨rfl, g2⟩ | ⟨rfl, g2, rfl⟩
    all_goals
      go_enter Tryd.func40, Tryd.ntmps40
      go_wp2_with (first
        | ((with_reducible refine gSto (.tmp 4) (.tmp 18) ?_); refine aStore H _ _ rfl rfl rfl ⟨by rfl, HSL.out⟩ (one_all _) rfl ?_; clear H; intro w' H; (try dsimp only at H))
        | (go_at_call 24; (with_reducible refine (HS.out _ ((H.old RO).rd _)).mono ?_); rintro e w' ⟨rfl, hb⟩; replace H := H.step hb; clear hb)
        | ((with_reducible refine gDst 2 ?_); refine aAlloc H rfl rfl ?_; clear H; intro b2 w2 H)
        | ((with_reducible refine gDst 4 ?_); refine aAlloc H rfl rfl ?_; clear H; intro b4 w4 H)
        | ((with_reducible refine gDst 7 ?_); refine aAlloc H rfl rfl ?_; clear H; intro b7 w7 H)
        | ((with_reducible refine gBuild ?_); refine aZero rfl rfl ?_)
        | ((with_reducible refine gStore ?_); (first | (refine aStore H _ _ rfl rfl rfl (by (first | exact ⟨rfl, rfl⟩ | exact ⟨by decide, rfl⟩ | (simp []; done) | (constructor <;> simp [] <;> omega))) (by first | rfl | simp [List.all_append, one_all]) rfl ?_) | (refine aLay H _ _ rfl rfl rfl (by (first | exact ⟨rfl, rfl⟩ | exact ⟨by decide, rfl⟩ | (simp []; done) | (constructor <;> simp [] <;> omega))) (by first | rfl | simp [List.all_append, one_all]) (by simp only [lay, List.take_succ_cons, List.take_zero, List.drop_succ_cons, List.drop_zero, List.nil_append, List.cons_append, List.length_cons, List.length_nil, Nat.zero_add, Nat.reduceAdd]; rfl) rfl ?_)); clear H; intro w' H; try dsimp only at H)
        | ((with_reducible refine gConv ?_); first | (refine aStr H _ rfl rfl rfl ?_) | (refine aStrR RO H _ rfl rfl rfl ?_)))
      refine startA (fun i => false) (by kernel_rfl) (fun wS hS => ?_)
      replace H := H.drew
      rw [← hS] at H
      have HH := H.hold
      have HR := H.old RO
      have HS0 : Below wS.heap.size wS wS := Below.refl _ _
      clear hS
      refine takeP 0 rfl (by kernel_rfl) (by kernel_rfl) (by kernel_rfl) (by kernel_rfl) (fun _ _ _ h => h) rfl (v := ?_) ?_ ?_
      rotate_left
      · intro w'; go_simp; (try with_reducible rfl)
      (try simp only [Act.put, List.setIfInBounds_toArray, List.set_cons_zero, List.set_cons_succ])
      refine takeP 1 rfl (by kernel_rfl) (by kernel_rfl) (by kernel_rfl) (by kernel_rfl) (fun _ _ _ h => h) rfl (v := ?_) ?_ ?_
      rotate_left
      · intro w'; go_simp; (try with_reducible rfl)
      (try simp only [Act.put, List.setIfInBounds_toArray, List.set_cons_zero, List.set_cons_succ])
      refine takeP 2 rfl (by kernel_rfl) (by kernel_rfl) (by kernel_rfl) (by kernel_rfl) (fun _ _ _ h => h) rfl (v := ?_) ?_ ?_
      rotate_left
      · intro w'; go_simp; (try with_reducible rfl)
      (try simp only [Act.put, List.setIfInBounds_toArray, List.set_cons_zero, List.set_cons_succ])
      refine stepL 3 rfl (by kernel_rfl) rfl (fun K hK => ?_)
      (go_simp; (with_reducible refine ((HQ.out _ _ ((H.hold.va (b := b4)).rbn 32 HSN.out (by decide)) ((H.old RO).rd _))).mono ?_); rintro e w' ⟨rfl, hb⟩; replace H := H.step hb; replace HS0 := below_two HS0 HS0.size hb; clear hb; refine hK.out _ _ (fun _ _ => HS0) ?_; clear K hK)
      (try simp only [Act.put, List.setIfInBounds_toArray, List.set_cons_zero, List.set_cons_succ])
      refine takeP 4 rfl (by kernel_rfl) (by kernel_rfl) (by kernel_rfl) (by kernel_rfl) (fun _ _ _ h => h) rfl (v := ?_) ?_ ?_
      rotate_left
      · intro w'; go_simp; (try with_reducible rfl)
      (try simp only [Act.put, List.setIfInBounds_toArray, List.set_cons_zero, List.set_cons_succ])
      refine doneL (by kernel_rfl) ?_
      go_wp2_with (first
        | ((with_reducible refine gSto (.tmp 7) (.tmp 36) ?_); refine aStore H _ _ rfl rfl rfl ⟨by rfl, HPL.out⟩ (List.all_eq_true.2 HPO.out) rfl ?_; clear H; intro w' H; (try dsimp only at H))
        | ((with_reducible refine gDst 28 ?_); refine aConst [67, 65, 85, 84] 4 rfl rfl (by decide) H _ rfl rfl rfl ?_; clear H; intro A28 w28 H; (try dsimp only at H))
        | (go_at_call 91; (with_reducible refine (HC.out _ _ _ ((H.old RO).rd _) (H.hold.rd _)).mono ?_); rintro e w' ⟨A6, n6, c6, rfl, hr6, hb⟩; replace H := H.step hb; clear hb)
        | (go_at_call 92; (with_reducible refine (HP.out _ ((H.old RO).rd _)).mono ?_); rintro e w' ⟨rfl, hb⟩; replace H := H.step hb; clear hb)
        | (go_at_call 93; (with_reducible refine (HZ.out _ ((H.old RO).rd _)).mono ?_); rintro e w' ⟨rfl, hb⟩; replace H := H.step hb; clear hb)
        | ((with_reducible refine gDst 2 ?_); refine aAlloc H rfl rfl ?_; clear H; intro b2 w2 H)
        | ((with_reducible refine gDst 4 ?_); refine aAlloc H rfl rfl ?_; clear H; intro b4 w4 H)
        | ((with_reducible refine gDst 7 ?_); refine aAlloc H rfl rfl ?_; clear H; intro b7 w7 H)
        | ((with_reducible refine gBuild ?_); refine aZero rfl rfl ?_)
        | ((with_reducible refine gStore ?_); (first | (refine aStore H _ _ rfl rfl rfl (by (first | exact ⟨rfl, rfl⟩ | exact ⟨by decide, rfl⟩ | (simp []; done) | (constructor <;> simp [] <;> omega))) (by first | rfl | simp [List.all_append, one_all]) rfl ?_) | (refine aLay H _ _ rfl rfl rfl (by (first | exact ⟨rfl, rfl⟩ | exact ⟨by decide, rfl⟩ | (simp []; done) | (constructor <;> simp [] <;> omega))) (by first | rfl | simp [List.all_append, one_all]) (by simp only [lay, List.take_succ_cons, List.take_zero, List.drop_succ_cons, List.drop_zero, List.nil_append, List.cons_append, List.length_cons, List.length_nil, Nat.zero_add, Nat.reduceAdd]; rfl) rfl ?_)); clear H; intro w' H; try dsimp only at H)
        | ((with_reducible refine gConv ?_); first | (refine aStr H _ rfl rfl rfl ?_) | (refine aStrR RO H _ rfl rfl rfl ?_)))
      refine bodyPost_ret (res_cell_tmp rfl _ H.hold rfl rfl) rfl ?_
      exact ⟨HB.out _, H.below⟩
  · have hE := lb_good h hs hg
    have e1 : decLU b = lbTxg b := if_pos hE
    have e2 : decLP b = decP (lbRoot b) := if_pos hE
    have e3 : decLM b = lbMap b := if_pos hE
    unfold LabTold
    rw [hE, e1, e2, e3, p3]
    rw [lbGood, Bool.and_eq_true, Bool.and_eq_true, beq_iff_eq (a := decE _)] at hg
    obtain ⟨⟨g1, g2⟩, g3⟩ := hg
    rw [g2] at HP
    rw [g3] at HZ
    rw [g1] at HC
    have HT := Lib.hid (fun A2 n2 c2 W (k : RB W (.slice A2 n2 c2) (b.drop 4)) => Take32_ge (.slice A2 n2 c2) (b.drop 4) W k (by rw [p6]; decide) (by rw [p6]; decide))
    have HCL := Lib.hid (fun W (h : RB W (.slice A 256 c) b) => slice_at p3 (Clone_any (.slice A5 64 (c - 52)) (lbMap b) W (r5 W h) (by rw [p3]; decide)))
    generalize decP (lbRoot b) = p at *
    have HLB := Lib.hid (lab_built (lbTxg b) p)
    have HLL := Lib.hid (lbC_len (lbTxg b) p)
    have HLO := Lib.hid (fun A n c => lbC_one (lbTxg b) p (.slice A n c) rfl)
    change Hid (∀ A2 n2 c2 W, RB W (.slice A2 n2 c2) (b.drop 4) → Calls Tryd.prog 94 #[.slice A2 n2 c2] W fun e w' => ∃ v', e = .returned (.tuple #[u32 (lbTxg b), v', .int .i64 0]) ∧ OB w' W.heap.size v' ((b.drop 4).drop 4) ∧ Below W.heap.size W w') at HT
    generalize lbTxg b = u at *
    clear hE e1 e2 e3 hv r1 r2 r3 r4 r5 hs h hle
    go_enter Tryd.func40, Tryd.ntmps40
    go_wp2_with (first
      | ((with_reducible refine gSto (.tmp 4) (.tmp 18) ?_); refine aStore H _ _ rfl rfl rfl ⟨by rfl, HSL.out⟩ (one_all _) rfl ?_; clear H; intro w' H; (try dsimp only at H))
      | (go_at_call 24; (with_reducible refine (HS.out _ ((H.old RO).rd _)).mono ?_); rintro e w' ⟨rfl, hb⟩; replace H := H.step hb; clear hb)
      | ((with_reducible refine gDst 2 ?_); refine aAlloc H rfl rfl ?_; clear H; intro b2 w2 H)
      | ((with_reducible refine gDst 4 ?_); refine aAlloc H rfl rfl ?_; clear H; intro b4 w4 H)
      | ((with_reducible refine gDst 7 ?_); refine aAlloc H rfl rfl ?_; clear H; intro b7 w7 H)
      | ((with_reducible refine gBuild ?_); refine aZero rfl rfl ?_)
      | ((with_reducible refine gStore ?_); (first | (refine aStore H _ _ rfl rfl rfl (by (first | exact ⟨rfl, rfl⟩ | exact ⟨by decide, rfl⟩ | (simp []; done) | (constructor <;> simp [] <;> omega))) (by first | rfl | simp [List.all_append, one_all]) rfl ?_) | (refine aLay H _ _ rfl rfl rfl (by (first | exact ⟨rfl, rfl⟩ | exact ⟨by decide, rfl⟩ | (simp []; done) | (constructor <;> simp [] <;> omega))) (by first | rfl | simp [List.all_append, one_all]) (by simp only [lay, List.take_succ_cons, List.take_zero, List.drop_succ_cons, List.drop_zero, List.nil_append, List.cons_append, List.length_cons, List.length_nil, Nat.zero_add, Nat.reduceAdd]; rfl) rfl ?_)); clear H; intro w' H; try dsimp only at H)
      | ((with_reducible refine gConv ?_); first | (refine aStr H _ rfl rfl rfl ?_) | (refine aStrR RO H _ rfl rfl rfl ?_)))
    refine startA (fun i => false) (by kernel_rfl) (fun wS hS => ?_)
    replace H := H.drew
    rw [← hS] at H
    have HH := H.hold
    have HR := H.old RO
    have HS0 : Below wS.heap.size wS wS := Below.refl _ _
    clear hS
    refine takeP 0 rfl (by kernel_rfl) (by kernel_rfl) (by kernel_rfl) (by kernel_rfl) (fun _ _ _ h => h) rfl (v := ?_) ?_ ?_
    rotate_left
    · intro w'; go_simp; (try with_reducible rfl)
    (try simp only [Act.put, List.setIfInBounds_toArray, List.set_cons_zero, List.set_cons_succ])
    refine takeP 1 rfl (by kernel_rfl) (by kernel_rfl) (by kernel_rfl) (by kernel_rfl) (fun _ _ _ h => h) rfl (v := ?_) ?_ ?_
    rotate_left
    · intro w'; go_simp; (try with_reducible rfl)
    (try simp only [Act.put, List.setIfInBounds_toArray, List.set_cons_zero, List.set_cons_succ])
    refine takeP 2 rfl (by kernel_rfl) (by kernel_rfl) (by kernel_rfl) (by kernel_rfl) (fun _ _ _ h => h) rfl (v := ?_) ?_ ?_
    rotate_left
    · intro w'; go_simp; (try with_reducible rfl)
    (try simp only [Act.put, List.setIfInBounds_toArray, List.set_cons_zero, List.set_cons_succ])
    refine stepL 3 rfl (by kernel_rfl) rfl (fun K hK => ?_)
    (go_simp; (with_reducible refine ((HQ.out _ _ ((H.hold.va (b := b4)).rbn 32 HSN.out (by decide)) ((H.old RO).rd _))).mono ?_); rintro e w' ⟨rfl, hb⟩; replace H := H.step hb; replace HS0 := below_two HS0 HS0.size hb; clear hb; refine hK.out _ _ (fun _ _ => HS0) ?_; clear K hK)
    (try simp only [Act.put, List.setIfInBounds_toArray, List.set_cons_zero, List.set_cons_succ])
    refine takeP 4 rfl (by kernel_rfl) (by kernel_rfl) (by kernel_rfl) (by kernel_rfl) (fun _ _ _ h => h) rfl (v := ?_) ?_ ?_
    rotate_left
    · intro w'; go_simp; (try with_reducible rfl)
    (try simp only [Act.put, List.setIfInBounds_toArray, List.set_cons_zero, List.set_cons_succ])
    refine doneL (by kernel_rfl) ?_
    go_wp2_with (first
      | ((with_reducible refine gSto (.tmp 7) (.tmp 36) ?_); refine aStore H _ _ rfl rfl rfl ⟨by rfl, HPL.out⟩ (List.all_eq_true.2 HPO.out) rfl ?_; clear H; intro w' H; (try dsimp only at H))
      | ((with_reducible refine gDst 28 ?_); refine aConst [67, 65, 85, 84] 4 rfl rfl (by decide) H _ rfl rfl rfl ?_; clear H; intro A28 w28 H; (try dsimp only at H))
      | (go_at_call 91; (with_reducible refine (HC.out _ _ _ ((H.old RO).rd _) (H.hold.rd _)).mono ?_); rintro e w' ⟨A6, n6, c6, rfl, hr6, hb⟩; replace H := H.step hb; clear hb)
      | (go_at_call 92; (with_reducible refine (HP.out _ ((H.old RO).rd _)).mono ?_); rintro e w' ⟨rfl, hb⟩; replace H := H.step hb; clear hb)
      | (go_at_call 93; (with_reducible refine (HZ.out _ ((H.old RO).rd _)).mono ?_); rintro e w' ⟨rfl, hb⟩; replace H := H.step hb; clear hb)
      | ((with_reducible refine gDst 2 ?_); refine aAlloc H rfl rfl ?_; clear H; intro b2 w2 H)
      | ((with_reducible refine gDst 4 ?_); refine aAlloc H rfl rfl ?_; clear H; intro b4 w4 H)
      | ((with_reducible refine gDst 7 ?_); refine aAlloc H rfl rfl ?_; clear H; intro b7 w7 H)
      | ((with_reducible refine gBuild ?_); refine aZero rfl rfl ?_)
      | ((with_reducible refine gStore ?_); (first | (refine aStore H _ _ rfl rfl rfl (by (first | exact ⟨rfl, rfl⟩ | exact ⟨by decide, rfl⟩ | (simp []; done) | (constructor <;> simp [] <;> omega))) (by first | rfl | simp [List.all_append, one_all]) rfl ?_) | (refine aLay H _ _ rfl rfl rfl (by (first | exact ⟨rfl, rfl⟩ | exact ⟨by decide, rfl⟩ | (simp []; done) | (constructor <;> simp [] <;> omega))) (by first | rfl | simp [List.all_append, one_all]) (by simp only [lay, List.take_succ_cons, List.take_zero, List.drop_succ_cons, List.drop_zero, List.nil_append, List.cons_append, List.length_cons, List.length_nil, Nat.zero_add, Nat.reduceAdd]; rfl) rfl ?_)); clear H; intro w' H; try dsimp only at H)
      | ((with_reducible refine gConv ?_); first | (refine aStr H _ rfl rfl rfl ?_) | (refine aStrR RO H _ rfl rfl rfl ?_)))
    go_wp2_with (first
      | (go_at_call 94; (with_reducible refine (HT.out _ _ _ _ (hr6 _ ((H.old RO).rd _))).mono ?_); rintro e w' ⟨v10, rfl, -, hb⟩; replace H := H.step hb; clear hb)
      | ((with_reducible refine gDst 2 ?_); refine aAlloc H rfl rfl ?_; clear H; intro b2 w2 H)
      | ((with_reducible refine gDst 4 ?_); refine aAlloc H rfl rfl ?_; clear H; intro b4 w4 H)
      | ((with_reducible refine gDst 7 ?_); refine aAlloc H rfl rfl ?_; clear H; intro b7 w7 H)
      | ((with_reducible refine gBuild ?_); refine aZero rfl rfl ?_)
      | ((with_reducible refine gStore ?_); (first | (refine aStore H _ _ rfl rfl rfl (by (first | exact ⟨rfl, rfl⟩ | exact ⟨by decide, rfl⟩ | (simp []; done) | (constructor <;> simp [] <;> omega))) (by first | rfl | simp [List.all_append, one_all]) rfl ?_) | (refine aLay H _ _ rfl rfl rfl (by (first | exact ⟨rfl, rfl⟩ | exact ⟨by decide, rfl⟩ | (simp []; done) | (constructor <;> simp [] <;> omega))) (by first | rfl | simp [List.all_append, one_all]) (by simp only [lay, List.take_succ_cons, List.take_zero, List.drop_succ_cons, List.drop_zero, List.nil_append, List.cons_append, List.length_cons, List.length_nil, Nat.zero_add, Nat.reduceAdd]; rfl) rfl ?_)); clear H; intro w' H; try dsimp only at H)
      | ((with_reducible refine gConv ?_); first | (refine aStr H _ rfl rfl rfl ?_) | (refine aStrR RO H _ rfl rfl rfl ?_)))
    refine startA (fun i => i == 6) (by kernel_rfl) (fun wS hS => ?_)
    replace H := H.drew
    rw [← hS] at H
    have HH := H.hold
    have HR := H.old RO
    have HS0 : Below wS.heap.size wS wS := Below.refl _ _
    clear hS
    refine takeP 0 rfl (by kernel_rfl) (by kernel_rfl) (by kernel_rfl) (by kernel_rfl) (fun _ _ _ h => h) rfl (v := ?_) ?_ ?_
    rotate_left
    · intro w'; go_simp; (try with_reducible rfl)
    (try simp only [Act.put, List.setIfInBounds_toArray, List.set_cons_zero, List.set_cons_succ])
    refine takeL 1 HS0 rfl (by kernel_rfl) (by kernel_rfl) (by kernel_rfl) (by kernel_rfl) (by kernel_rfl) (fun _ _ _ h => h) rfl (v := ?_) ?_ ?_
    rotate_left
    · intro w' hw'; refine Eq.trans (xLoad (HH.below hw') _ rfl rfl (part_all HPL.out) HPL.out) ?_; with_reducible rfl
    (try simp only [Act.put, List.setIfInBounds_toArray, List.set_cons_zero, List.set_cons_succ])
    refine takeP 2 rfl (by kernel_rfl) (by kernel_rfl) (by kernel_rfl) (by kernel_rfl) (fun _ _ _ h => h) rfl (v := ?_) ?_ ?_
    rotate_left
    · intro w'; go_simp; (try with_reducible rfl)
    (try simp only [Act.put, List.setIfInBounds_toArray, List.set_cons_zero, List.set_cons_succ])
    refine takeP 3 rfl (by kernel_rfl) (by kernel_rfl) (by kernel_rfl) (by kernel_rfl) (fun _ _ _ h => h) rfl (v := ?_) ?_ ?_
    rotate_left
    · intro w'; go_simp; (try with_reducible rfl)
    (try simp only [Act.put, List.setIfInBounds_toArray, List.set_cons_zero, List.set_cons_succ])
    refine stepL 4 rfl (by kernel_rfl) rfl (fun K hK => ?_)
    (go_simp; (with_reducible refine ((HCL.out _ ((H.old RO).rd _))).mono ?_); rintro e w' ⟨A61, c61, rfl, ho, hb⟩; replace H := H.pushRow hb ho; clear ho; replace HS0 := below_two HS0 HS0.size hb; clear hb; refine hK.out _ _ (fun _ _ => HS0) ?_; clear K hK)
    (try simp only [Act.put, List.setIfInBounds_toArray, List.set_cons_zero, List.set_cons_succ])
    refine takeL 5 HS0 rfl (by kernel_rfl) (by kernel_rfl) (by kernel_rfl) (by kernel_rfl) (by kernel_rfl) (fun _ _ _ h => h) rfl (v := ?_) ?_ ?_
    rotate_left
    · intro w' hw'; refine Eq.trans (exec_buildL 80 [(0, .tmp 57), (1, .tmp 58), (2, .tmp 61)] rfl [(0, u32 u), (1, .agg p.cells.toArray), (2, .slice A61 64 c61)] rfl _ (HLB.out A61 64 c61)) ?_; with_reducible rfl
    (try simp only [Act.put, List.setIfInBounds_toArray, List.set_cons_zero, List.set_cons_succ])
    refine stepL 6 rfl (by kernel_rfl) rfl (fun K hK => ?_)
    (refine oStore H _ _ rfl rfl rfl ⟨by rfl, HLL.out _⟩ (HLO.out _ _ _) ?_; clear H; intro w' H; (try dsimp only at H); refine hK.out _ _ (fun h => by cases h) ?_; clear K hK HS0)
    (try simp only [Act.put, List.setIfInBounds_toArray, List.set_cons_zero, List.set_cons_succ])
    refine takeP 7 rfl (by kernel_rfl) (by kernel_rfl) (by kernel_rfl) (by kernel_rfl) (fun _ _ _ h => h) rfl (v := ?_) ?_ ?_
    rotate_left
    · intro w'; go_simp; (try with_reducible rfl)
    (try simp only [Act.put, List.setIfInBounds_toArray, List.set_cons_zero, List.set_cons_succ])
    refine doneL (by kernel_rfl) ?_
    go_wp2
    refine bodyPost_ret (res_cell_tmp rfl _ H.hold rfl (HLL.out _)) rfl ?_
    exact ⟨⟨A61, c61, rfl, H.ow _⟩, H.below⟩
end Go.Proofs.YticfcelbnkiopaaDoor
