/- Layer 28: bytes that stand for themselves, of both. -/
import Derived.Test.YtfnneneaalaagaaSqz2
namespace Go.Proofs.Ytfnneneaalaagaa
open Go.RowKit
set_option linter.unusedSimpArgs false
set_option linter.unusedVariables false

def plainL (b : List UInt8) : List UInt8 := if b.length = 0 then [] else UInt8.ofNat (min b.length 128 - 1) :: (b.take 128 ++ plainL (b.drop 128))
termination_by b.length
decreasing_by rw [List.length_drop]; omega
theorem plainL_nil : plainL [] = [] := by rw [plainL]; simp
theorem plainL_step (b : List UInt8) (m : Nat) (h : 0 < b.length) (hm : m = min b.length 128) : plainL b = [UInt8.ofNat (m - 1)] ++ (b.take m ++ plainL (b.drop m)) := by
  subst hm
  rw [plainL, if_neg (by omega)]
  rcases Nat.lt_or_ge 128 b.length with h2 | h2
  · rw [Nat.min_eq_right (by omega)]; rfl
  · rw [Nat.min_eq_left (by omega), List.take_of_length_le h2, List.drop_of_length_le h2, List.take_of_length_le (Nat.le_refl _), List.drop_of_length_le (Nat.le_refl _)]; rfl
theorem plainL_len : ∀ (n : Nat) (b : List UInt8), b.length = n → (plainL b).length ≤ 2 * n := by
  intro n
  induction n using Nat.strongRecOn with
  | _ n ih =>
    intro b hb
    rcases Nat.eq_zero_or_pos n with h0 | h0
    · have := List.eq_nil_of_length_eq_zero (hb.trans h0); subst this; rw [plainL_nil]; simp
    · rw [plainL_step b _ (by omega) rfl]
      have := ih (b.drop (min b.length 128)).length (by rw [List.length_drop]; omega) _ rfl
      rw [List.length_drop] at this
      simp only [List.length_append, List.length_singleton, List.length_take]
      omega
/-- A row that reads so in all worlds that came of w by changes of F's blocks. -/
def KR (F : Nat → Prop) (w : World) (v : Value) (xs : List UInt8) : Prop := ∀ w', Chg F w w' → RB w' v xs
theorem cutK {F : Nat → Prop} {w : World} (A : Option Addr) (c : Nat) (xs : List UInt8) (h : KR F w (.slice A xs.length c) xs) (hc : xs.length ≤ c) (i j : Nat) (hij : i ≤ j) (hj : j ≤ xs.length) :
    ∃ A', (∀ (kl kh : IntKind) (W : World), (Instr.slice 22 (.slice A xs.length c) (some (.int kl (i : Int))) (some (.int kh (j : Int))) none).run Try.prog W = .ok (.slice A' (j - i) (c - i)) W) ∧
      (∀ (kl : IntKind) (W : World), j = xs.length → (Instr.slice 22 (.slice A xs.length c) (some (.int kl (i : Int))) none none).run Try.prog W = .ok (.slice A' (xs.length - i) (c - i)) W) ∧
      (∀ (kh : IntKind) (W : World), i = 0 → (Instr.slice 22 (.slice A xs.length c) none (some (.int kh (j : Int))) none).run Try.prog W = .ok (.slice A' j c) W) ∧
      KR F w (.slice A' (j - i) (c - i)) ((xs.take j).drop i) := by
  obtain ⟨A', h1, h2, h3, h4⟩ := cutB A c xs i j hij hj hc
  exact ⟨A', h1, h2, h3, fun w' hw => h4 w' (h w' hw)⟩
def byteI (n : Nat) : Int := ((UInt8.ofNat n).toNat : Int)
theorem byte_wrap (m : Nat) (h : 0 < m) (h2 : m ≤ 128) : IntKind.u8.wrap ((m : Int) - 1) = ((UInt8.ofNat (m - 1)).toNat : Int) := by
  rw [UInt8.toNat_ofNat', Nat.mod_eq_of_lt (by omega)]
  simp [IntKind.wrap, IntKind.bits, IntKind.signed]
  omega

def relP (os bs : List UInt8) (F : Nat → Prop) (w : World) (v0 v1 : Value) (wr : World) : Prop := ∃ (A : Option Addr) (n c : Nat) (done rest : List UInt8), n = rest.length ∧ v1 = .slice A n c ∧ rest.length ≤ c ∧ KR F w (.slice A rest.length c) rest ∧ Hid (done ++ plainL rest = plainL bs) ∧ rest.length ≤ 1000000 ∧ done.length + 2 * rest.length ≤ 2000000 ∧ SH F w wr [.row B8 v0 (os ++ done)]
def lenV' : Value → Nat
  | .slice _ n _ => n
  | _ => 0
set_option maxHeartbeats 1600000 in
set_option maxRecDepth 100000 in
theorem plain_any (vo vb : Value) (os bs : List UInt8) (w : World) (ho : OB w 0 vo os) (hb : KR (rowF vo) w vb bs) (hl : os.length ≤ 1000000) (hl2 : bs.length ≤ 1000000) :
    Calls Try.prog 40 #[vo, vb] w fun e w' => ∃ v', e = .returned v' ∧ SH (rowF vo) w w' [.row B8 v' (os ++ plainL bs)] := by
  obtain ⟨A, c, rfl, hc⟩ := (hb w (Chg.refl _ _)).len
  have H := SH.row B8 ho
  have HO := hb
  generalize rowF vo = F at H hb
  clear ho HO
  go_enter Try.func40, Try.ntmps40
  go_wp2
  go_loopw [0, 1] (fun v0 v1 wr => relP os bs F w v0 v1 wr) (fun _ v _ => lenV' v)
  case atStart => exact ⟨A, _, c, [], bs, rfl, rfl, hc, hb, by rfl, hl2, by simp; omega, by rw [List.append_nil]; exact H⟩
  case round =>
    obtain ⟨A, n, c, done, rest, rfl, rfl, hc, HKR, HD, hl3, hl4, HS⟩ := hrel
    clear H hb
    by_cases hp : 0 < rest.length
    · have hp' : (0 : Int) < (rest.length : Int) := by omega
      by_cases h128 : rest.length ≤ 128
      · have h128' : (rest.length : Int) ≤ 128 := by omega
        obtain ⟨A1, _, _, hcut1, hr1⟩ := cutK A c rest HKR hc 0 rest.length (by omega) (by omega)
        obtain ⟨A2, _, hcut2, _, hr2⟩ := cutK A c rest HKR hc rest.length rest.length (by omega) (Nat.le_refl _)
        have hk1 : ∀ W, (Instr.slice 22 (.slice A rest.length c) none (some (.int .i64 (rest.length : Int))) none).run Try.prog W = .ok (.slice A1 rest.length c) W := fun W => hcut1 .i64 W rfl
        have hk2 : ∀ W, (Instr.slice 22 (.slice A rest.length c) (some (.int .i64 (rest.length : Int))) none none).run Try.prog W = .ok (.slice A2 (rest.length - rest.length) (c - rest.length)) W := fun W => hcut2 .i64 W rfl
        rw [List.drop_zero, Nat.sub_zero, Nat.sub_zero] at hr1
        rw [List.take_of_length_le (Nat.le_refl _)] at hr2
        have hst := plainL_step rest rest.length hp (by omega)
        have hlen : (rest.take rest.length).length = rest.length := by rw [List.length_take]; omega
        have hd2 : (done ++ ([UInt8.ofNat (rest.length - 1)] ++ rest.take rest.length)) ++ plainL (rest.drop rest.length) = plainL bs := by
          rw [← HD.out, hst]
          simp only [List.append_assoc]
        have HD2 := Lib.hid hd2
        clear hd2
        have hld : (rest.drop rest.length).length = rest.length - rest.length := List.length_drop
        have hwr := byte_wrap rest.length (by omega) (by omega)
        have hw64 : IntKind.i64.wrap ((rest.length : Int) - 1) = (rest.length : Int) - 1 := by rw [IntKind.wrap_i64]; omega
        have hlo : (os ++ done).length ≤ 3000000 := by rw [List.length_append]; omega
        have hl2 : ((os ++ done) ++ [UInt8.ofNat (rest.length - 1)]).length ≤ 3000001 := by rw [List.length_append, List.length_singleton]; omega
        have HLO := Lib.hid hlo
        have HL2 := Lib.hid hl2
        have HLEN := Lib.hid hlen
        have H := HS.drew
        clear hst hcut1 hcut2 hlo hl2 hlen HS
        go_wp2
        refine startS (fun _ => True) (by kernel_rfl) trivial ?_
        refine takeS 0 trivial rfl (by kernel_rfl) (by kernel_rfl) (by kernel_rfl) (fun _ _ _ h => h) rfl (v := ?_) ?_ ?_
        rotate_left
        · intro w' hw'; clear hw'; go_simp; (try with_reducible rfl)
        (try simp only [Act.put, List.setIfInBounds_toArray, List.set_cons_zero, List.set_cons_succ])
        refine takeS 1 trivial rfl (by kernel_rfl) (by kernel_rfl) (by kernel_rfl) (fun _ _ _ h => h) rfl (v := ?_) ?_ ?_
        rotate_left
        · intro w' hw'; clear hw'; go_simp; (try with_reducible rfl)
        (try simp only [Act.put, List.setIfInBounds_toArray, List.set_cons_zero, List.set_cons_succ])
        refine takeS 2 trivial rfl (by kernel_rfl) (by kernel_rfl) (by kernel_rfl) (fun _ _ _ h => h) rfl (v := ?_) ?_ ?_
        rotate_left
        · intro w' hw'; clear hw'; go_simp; (try with_reducible rfl)
        (try simp only [Act.put, List.setIfInBounds_toArray, List.set_cons_zero, List.set_cons_succ])
        refine takeS 3 trivial rfl (by kernel_rfl) (by kernel_rfl) (by kernel_rfl) (fun _ _ _ h => h) rfl (v := ?_) ?_ ?_
        rotate_left
        · intro w' hw'; clear hw'; go_simp; (try with_reducible rfl)
        (try simp only [Act.put, List.setIfInBounds_toArray, List.set_cons_zero, List.set_cons_succ])
        refine takeS 6 trivial rfl (by kernel_rfl) (by kernel_rfl) (by kernel_rfl) (fun _ _ _ h => h) rfl (v := ?_) ?_ ?_
        rotate_left
        · intro w' hw'; clear hw'; go_simp; (try with_reducible rfl)
        (try simp only [Act.put, List.setIfInBounds_toArray, List.set_cons_zero, List.set_cons_succ])
        refine takeS 7 trivial rfl (by kernel_rfl) (by kernel_rfl) (by kernel_rfl) (fun _ _ _ h => h) rfl (v := ?_) ?_ ?_
        rotate_left
        · intro w' hw'; clear hw'; go_simp; (try with_reducible rfl)
        (try simp only [Act.put, List.setIfInBounds_toArray, List.set_cons_zero, List.set_cons_succ])
        refine takeS 8 trivial rfl (by kernel_rfl) (by kernel_rfl) (by kernel_rfl) (fun _ _ _ h => h) rfl (v := ?_) ?_ ?_
        rotate_left
        · intro w' hw'; clear hw'; go_simp; (try with_reducible rfl)
        (try simp only [Act.put, List.setIfInBounds_toArray, List.set_cons_zero, List.set_cons_succ])
        refine stepS' 4 rfl (by kernel_rfl) rfl (fun K hK => ?_)
        (go_simp; refine hK.out _ _ trivial ?_; clear K hK)
        (try simp only [Act.put, List.setIfInBounds_toArray, List.set_cons_zero, List.set_cons_succ])
        refine stepS' 5 rfl (by kernel_rfl) rfl (fun K hK => ?_)
        (refine oAppLit sB [UInt8.ofNat (rest.length - 1)] #[.int .u8 ((UInt8.ofNat (rest.length - 1)).toNat : Int)] rfl (by simp) 1 rfl H 0 rfl (by show ((os ++ done).length + 1) * 1 ≤ _; have := HLO.out; omega) _ _ rfl rfl rfl ?_; clear H; intro v2 w2 H; refine hK.out _ _ trivial ?_; clear K hK)
        (try simp only [Act.put, List.setIfInBounds_toArray, List.set_cons_zero, List.set_cons_succ])
        refine stepS' 9 rfl (by kernel_rfl) rfl (fun K hK => ?_)
        (refine oAppend sB H 0 rfl _ (rest.take rest.length) (hr1 _ H.chg) (by rw [HLEN.out]; show (_ + _) * 1 ≤ _; have := HL2.out; omega) _ _ rfl rfl rfl ?_; clear H; intro v3 w3 H; refine hK.out _ _ trivial ?_; clear K hK)
        (try simp only [Act.put, List.setIfInBounds_toArray, List.set_cons_zero, List.set_cons_succ])
        refine takeS 10 trivial rfl (by kernel_rfl) (by kernel_rfl) (by kernel_rfl) (fun _ _ _ h => h) rfl (v := ?_) ?_ ?_
        rotate_left
        · intro w' hw'; clear hw'; go_simp; (try with_reducible rfl)
        (try simp only [Act.put, List.setIfInBounds_toArray, List.set_cons_zero, List.set_cons_succ])
        refine doneS (by kernel_rfl) ?_
        go_wp2
        go_roundw
        case rel => first | exact ⟨_, _, _, _, rest.drop rest.length, hld.symm, by first | rfl | rw [Nat.sub_self], by rw [hld]; omega, by rw [hld]; exact hr2, HD2, by rw [hld]; omega, by have := HLEN.out; simp only [List.length_append, List.length_singleton, this, hld]; omega, by have h := H; simp only [List.append_assoc] at h ⊢; exact h⟩ | exact ⟨_, _, ⟨_, _, _, _, rest.drop rest.length, hld.symm, by first | rfl | rw [Nat.sub_self], by rw [hld]; omega, by rw [hld]; exact hr2, HD2, by rw [hld]; omega, by have := HLEN.out; simp only [List.length_append, List.length_singleton, this, hld]; omega, by have h := H; simp only [List.append_assoc] at h ⊢; exact h⟩, rfl, rfl⟩
        case measure => simp [lenV']; omega
      · have h128' : ¬ (rest.length : Int) ≤ 128 := by omega
        obtain ⟨A1, _, _, hcut1, hr1⟩ := cutK A c rest HKR hc 0 128 (by omega) (by omega)
        obtain ⟨A2, _, hcut2, _, hr2⟩ := cutK A c rest HKR hc 128 rest.length (by omega) (Nat.le_refl _)
        have hk1 : ∀ W, (Instr.slice 22 (.slice A rest.length c) none (some (.int .i64 128)) none).run Try.prog W = .ok (.slice A1 128 c) W := fun W => hcut1 .i64 W rfl
        have hk2 : ∀ W, (Instr.slice 22 (.slice A rest.length c) (some (.int .i64 128)) none none).run Try.prog W = .ok (.slice A2 (rest.length - 128) (c - 128)) W := fun W => hcut2 .i64 W rfl
        rw [List.drop_zero, Nat.sub_zero, Nat.sub_zero] at hr1
        rw [List.take_of_length_le (Nat.le_refl _)] at hr2
        have hst := plainL_step rest 128 hp (by omega)
        have hlen : (rest.take 128).length = 128 := by rw [List.length_take]; omega
        have hd2 : (done ++ ([UInt8.ofNat (128 - 1)] ++ rest.take 128)) ++ plainL (rest.drop 128) = plainL bs := by
          rw [← HD.out, hst]
          simp only [List.append_assoc]
        have HD2 := Lib.hid hd2
        clear hd2
        have hld : (rest.drop 128).length = rest.length - 128 := List.length_drop
        have hwr := byte_wrap 128 (by omega) (by omega)
        have hw64 : IntKind.i64.wrap ((128 : Int) - 1) = (128 : Int) - 1 := by rw [IntKind.wrap_i64]; omega
        have hlo : (os ++ done).length ≤ 3000000 := by rw [List.length_append]; omega
        have hl2 : ((os ++ done) ++ [UInt8.ofNat (128 - 1)]).length ≤ 3000001 := by rw [List.length_append, List.length_singleton]; omega
        have HLO := Lib.hid hlo
        have HL2 := Lib.hid hl2
        have HLEN := Lib.hid hlen
        have H := HS.drew
        clear hst hcut1 hcut2 hlo hl2 hlen HS
        go_wp2
        refine startS (fun _ => True) (by kernel_rfl) trivial ?_
        refine takeS 0 trivial rfl (by kernel_rfl) (by kernel_rfl) (by kernel_rfl) (fun _ _ _ h => h) rfl (v := ?_) ?_ ?_
        rotate_left
        · intro w' hw'; clear hw'; go_simp; (try with_reducible rfl)
        (try simp only [Act.put, List.setIfInBounds_toArray, List.set_cons_zero, List.set_cons_succ])
        refine takeS 1 trivial rfl (by kernel_rfl) (by kernel_rfl) (by kernel_rfl) (fun _ _ _ h => h) rfl (v := ?_) ?_ ?_
        rotate_left
        · intro w' hw'; clear hw'; go_simp; (try with_reducible rfl)
        (try simp only [Act.put, List.setIfInBounds_toArray, List.set_cons_zero, List.set_cons_succ])
        refine takeS 2 trivial rfl (by kernel_rfl) (by kernel_rfl) (by kernel_rfl) (fun _ _ _ h => h) rfl (v := ?_) ?_ ?_
        rotate_left
        · intro w' hw'; clear hw'; go_simp; (try with_reducible rfl)
        (try simp only [Act.put, List.setIfInBounds_toArray, List.set_cons_zero, List.set_cons_succ])
        refine takeS 3 trivial rfl (by kernel_rfl) (by kernel_rfl) (by kernel_rfl) (fun _ _ _ h => h) rfl (v := ?_) ?_ ?_
        rotate_left
        · intro w' hw'; clear hw'; go_simp; (try with_reducible rfl)
        (try simp only [Act.put, List.setIfInBounds_toArray, List.set_cons_zero, List.set_cons_succ])
        refine takeS 6 trivial rfl (by kernel_rfl) (by kernel_rfl) (by kernel_rfl) (fun _ _ _ h => h) rfl (v := ?_) ?_ ?_
        rotate_left
        · intro w' hw'; clear hw'; go_simp; (try with_reducible rfl)
        (try simp only [Act.put, List.setIfInBounds_toArray, List.set_cons_zero, List.set_cons_succ])
        refine takeS 7 trivial rfl (by kernel_rfl) (by kernel_rfl) (by kernel_rfl) (fun _ _ _ h => h) rfl (v := ?_) ?_ ?_
        rotate_left
        · intro w' hw'; clear hw'; go_simp; (try with_reducible rfl)
        (try simp only [Act.put, List.setIfInBounds_toArray, List.set_cons_zero, List.set_cons_succ])
        refine takeS 8 trivial rfl (by kernel_rfl) (by kernel_rfl) (by kernel_rfl) (fun _ _ _ h => h) rfl (v := ?_) ?_ ?_
        rotate_left
        · intro w' hw'; clear hw'; go_simp; (try with_reducible rfl)
        (try simp only [Act.put, List.setIfInBounds_toArray, List.set_cons_zero, List.set_cons_succ])
        refine stepS' 4 rfl (by kernel_rfl) rfl (fun K hK => ?_)
        (go_simp; refine hK.out _ _ trivial ?_; clear K hK)
        (try simp only [Act.put, List.setIfInBounds_toArray, List.set_cons_zero, List.set_cons_succ])
        refine stepS' 5 rfl (by kernel_rfl) rfl (fun K hK => ?_)
        (refine oAppLit sB [UInt8.ofNat (128 - 1)] #[.int .u8 127] rfl (by simp) 1 rfl H 0 rfl (by show ((os ++ done).length + 1) * 1 ≤ _; have := HLO.out; omega) _ _ rfl rfl rfl ?_; clear H; intro v2 w2 H; refine hK.out _ _ trivial ?_; clear K hK)
        (try simp only [Act.put, List.setIfInBounds_toArray, List.set_cons_zero, List.set_cons_succ])
        refine stepS' 9 rfl (by kernel_rfl) rfl (fun K hK => ?_)
        (refine oAppend sB H 0 rfl _ (rest.take 128) (hr1 _ H.chg) (by rw [HLEN.out]; show (_ + _) * 1 ≤ _; have := HL2.out; omega) _ _ rfl rfl rfl ?_; clear H; intro v3 w3 H; refine hK.out _ _ trivial ?_; clear K hK)
        (try simp only [Act.put, List.setIfInBounds_toArray, List.set_cons_zero, List.set_cons_succ])
        refine takeS 10 trivial rfl (by kernel_rfl) (by kernel_rfl) (by kernel_rfl) (fun _ _ _ h => h) rfl (v := ?_) ?_ ?_
        rotate_left
        · intro w' hw'; clear hw'; go_simp; (try with_reducible rfl)
        (try simp only [Act.put, List.setIfInBounds_toArray, List.set_cons_zero, List.set_cons_succ])
        refine doneS (by kernel_rfl) ?_
        go_wp2
        go_roundw
        case rel => first | exact ⟨_, _, _, _, rest.drop 128, hld.symm, by first | rfl | rw [Nat.sub_self], by rw [hld]; omega, by rw [hld]; exact hr2, HD2, by rw [hld]; omega, by have := HLEN.out; simp only [List.length_append, List.length_singleton, this, hld]; omega, by have h := H; simp only [List.append_assoc] at h ⊢; exact h⟩ | exact ⟨_, _, ⟨_, _, _, _, rest.drop 128, hld.symm, by first | rfl | rw [Nat.sub_self], by rw [hld]; omega, by rw [hld]; exact hr2, HD2, by rw [hld]; omega, by have := HLEN.out; simp only [List.length_append, List.length_singleton, this, hld]; omega, by have h := H; simp only [List.append_assoc] at h ⊢; exact h⟩, rfl, rfl⟩
        case measure => simp [lenV']; omega
    · obtain rfl : rest = [] := List.eq_nil_of_length_eq_zero (by omega)
      have hd := HD.out
      rw [plainL_nil, List.append_nil] at hd
      rw [hd] at HS
      clear hd HD
      go_wp2
      go_ret
      exact ⟨_, rfl, HS⟩

def relQ (bs : List UInt8) (w : World) (v3 v4 : Value) (wr : World) : Prop := ∃ (k : Nat) (done : List UInt8), v4 = .int .i64 (128 * (k : Int)) ∧ 128 * k ≤ bs.length + 128 ∧ Hid (done ++ plainL (bs.drop (128 * k)) = plainL bs) ∧ done.length ≤ 2 * (128 * k) ∧ SH Nil w wr [.row B8 v3 done]
set_option maxHeartbeats 1600000 in
set_option maxRecDepth 100000 in
theorem rplain_any (vb : Value) (bs : List UInt8) (w : World) (hb : RB w vb bs) (hl2 : bs.length ≤ 1000000) :
    Calls Try.prog 42 #[vb] w fun e w' => ∃ v', e = .returned v' ∧ OB w' w.heap.size v' (plainL bs) ∧ Below w.heap.size w w' := by
  obtain ⟨A, c, rfl, hc⟩ := id hb.len
  have H := (SH.start Nil w).pushRow (alloc_belowAt w (.cells #[] 5)) (OB.lit w w.heap.size [] #[] rfl (Nat.le_refl _) (by simp))
  go_enter Try.func42, Try.ntmps42
  go_wp2
  go_loopw [3, 4] (fun v3 v4 wr => relQ bs w v3 v4 wr) (fun _ v _ => (bs.length + 200 - (intOf v)).toNat)
  case atStart => exact ⟨0, [], rfl, by omega, by rfl, by simp, H⟩
  case round =>
    obtain ⟨k, done, rfl, hk, HD, hld, HS⟩ := hrel
    clear H
    by_cases hp : 128 * k < bs.length
    · have hp' : 128 * (k : Int) < (bs.length : Int) := by omega
      obtain ⟨m, hm⟩ : ∃ m, m = min (bs.length - 128 * k) 128 := ⟨_, rfl⟩
      have hdl : (bs.drop (128 * k)).length = bs.length - 128 * k := List.length_drop
      have hst := plainL_step (bs.drop (128 * k)) m (by omega) (by omega)
      obtain ⟨A1, hcut1, _, _, hr1⟩ := cutB A c bs (128 * k) (128 * k + m) (by omega) (by omega) hc
      have hk1 : ∀ W, (Instr.slice 22 (.slice A bs.length c) (some (.int .i64 (128 * (k : Int)))) (some (.int .i64 (128 * (k : Int) + (m : Int)))) none).run Try.prog W = .ok (.slice A1 m (c - 128 * k)) W := fun W => by
        have := hcut1 .i64 .i64 W
        rw [show 128 * k + m - 128 * k = m by omega] at this
        push_cast at this
        exact this
      have hr2 := hr1 w hb
      rw [List.drop_take, show 128 * k + m - 128 * k = m by omega] at hr2
      have hlen : ((bs.drop (128 * k)).take m).length = m := by rw [List.length_take]; omega
      have hd2 : (done ++ ([UInt8.ofNat (m - 1)] ++ (bs.drop (128 * k)).take m)) ++ plainL (bs.drop (128 * (k + 1))) = plainL bs := by
        have e : (bs.drop (128 * k)).drop m = bs.drop (128 * (k + 1)) := by
          rw [List.drop_drop]
          rcases Nat.lt_or_ge m 128 with h | h
          · rw [List.drop_of_length_le (by omega), List.drop_of_length_le (by omega)]
          · congr 1; omega
        rw [← HD.out, hst, e]
        simp only [List.append_assoc]
      have HD2 := Lib.hid hd2
      have hwr := byte_wrap m (by omega) (by omega)
      have hw64 : IntKind.i64.wrap ((m : Int) - 1) = (m : Int) - 1 := by rw [IntKind.wrap_i64]; omega
      have hmin : min (128 * (k : Int) + 128) (bs.length : Int) = 128 * (k : Int) + (m : Int) := by omega
      have hm0 : m ≤ 128 := by omega
      have HLEN := Lib.hid hlen
      have hdn : done.length ≤ 2000000 := by omega
      clear hst hcut1 hd2 hr1 hlen hdl
      generalize (bs.drop (128 * k)).take m = T at hr2 HD2 HLEN
      have hsp : (128 * (k : Int) + 128 ≤ (bs.length : Int) ∧ m = 128) ∨ (¬ 128 * (k : Int) + 128 ≤ (bs.length : Int) ∧ (bs.length : Int) = 128 * (k : Int) + (m : Int)) := by omega
      rcases hsp with ⟨hx, rfl⟩ | ⟨hx, hmm⟩
      · have hk2 : ∀ W, (Instr.slice 22 (.slice A bs.length c) (some (.int .i64 (128 * (k : Int)))) (some (.int .i64 (128 * (k : Int) + 128))) none).run Try.prog W = .ok (.slice A1 128 (c - 128 * k)) W := hk1
        clear hk1 hw64 hwr hm hmin
        go_wp2_with (first
          | (at_builtin; refine wAppLit sB [UInt8.ofNat (128 - 1)] #[.int .u8 127] rfl (by simp) 1 rfl HS 0 rfl (by show (done.length + 1) * 1 ≤ _; omega) _ _ rfl rfl rfl rfl ?_; clear HS; intro v5 w5 HS)
          | (at_builtin; refine wAppend sB HS 0 rfl _ T (hr2.below HS.below) (by rw [HLEN.out, List.length_append]; show (done.length + 1 + _) * 1 ≤ _; omega) _ _ rfl rfl rfl rfl ?_; clear HS; intro v6 w6 HS))
        go_roundw
        case rel => first | exact ⟨k + 1, _, by go_num, by omega, HD2, by have := HLEN.out; simp only [List.length_append, List.length_singleton, this]; omega, by have h := HS; simp only [List.append_assoc] at h ⊢; exact h⟩ | exact ⟨_, _, ⟨k + 1, _, by go_num, by omega, HD2, by have := HLEN.out; simp only [List.length_append, List.length_singleton, this]; omega, by have h := HS; simp only [List.append_assoc] at h ⊢; exact h⟩, rfl, rfl⟩
        case measure => simp [intOf]; omega
      · have hk2 : ∀ W, (Instr.slice 22 (.slice A bs.length c) (some (.int .i64 (128 * (k : Int)))) (some (.int .i64 (bs.length : Int))) none).run Try.prog W = .ok (.slice A1 m (c - 128 * k)) W := by rw [hmm]; exact hk1
        clear hk1 hm hmin hmm
        go_wp2_with (first
          | (at_builtin; refine wAppLit sB [UInt8.ofNat (m - 1)] #[.int .u8 ((UInt8.ofNat (m - 1)).toNat : Int)] rfl (by simp) 1 rfl HS 0 rfl (by show (done.length + 1) * 1 ≤ _; omega) _ _ rfl rfl rfl rfl ?_; clear HS; intro v5 w5 HS)
          | (at_builtin; refine wAppend sB HS 0 rfl _ T (hr2.below HS.below) (by rw [HLEN.out, List.length_append]; show (done.length + 1 + _) * 1 ≤ _; omega) _ _ rfl rfl rfl rfl ?_; clear HS; intro v6 w6 HS))
        go_roundw
        case rel => first | exact ⟨k + 1, _, by go_num, by omega, HD2, by have := HLEN.out; simp only [List.length_append, List.length_singleton, this]; omega, by have h := HS; simp only [List.append_assoc] at h ⊢; exact h⟩ | exact ⟨_, _, ⟨k + 1, _, by go_num, by omega, HD2, by have := HLEN.out; simp only [List.length_append, List.length_singleton, this]; omega, by have h := HS; simp only [List.append_assoc] at h ⊢; exact h⟩, rfl, rfl⟩
        case measure => simp [intOf]; omega
    · have hp' : ¬ 128 * (k : Int) < (bs.length : Int) := by omega
      have hd := HD.out
      rw [List.drop_of_length_le (by omega), plainL_nil, List.append_nil] at hd
      rw [hd] at HS
      clear hd HD
      go_wp2
      go_ret
      exact ⟨_, rfl, HS.orow 0 rfl, HS.below⟩
end Go.Proofs.Ytfnneneaalaagaa
