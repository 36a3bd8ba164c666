/- The package num: numbers and strings of bytes. -/
import Derived.Test.YtfnneneaalaagaaBase
import Derived.Test.YtfnneneaalaagaaBits
import Derived.Test.YtfnneneaalaagaaNumLaw
namespace Go.Proofs.Ytfnneneaalaagaa
open Go.RowKit

theorem hid_out {p : Prop} (h : Go.RowKit.Hid p) : p := h
set_option maxHeartbeats 400000 in
theorem grown_any (v : Value) (xs : List UInt8) (room : Nat) (w : World) (hv : RB w v xs) (hl : xs.length ≤ 16777216) (hr : room ≤ 100) :
    Calls Try.prog 68 #[v, .int .i64 (room : Int)] w fun e w' => ∃ v', e = .returned v' ∧ OB w' w.heap.size v' xs ∧ Below w.heap.size w w' := by
  obtain ⟨A, c, rfl, hc, hm, hcell⟩ := hv
  obtain ⟨i0, hi, hz0, hz1, hz2⟩ := info_parts Try.info_u8
  have hmk : (Instr.makeSlice 22 (.int .i64 (xs.length : Int)) (.int .i64 ((xs.length : Int) + (room : Int)))).run Try.prog w = .ok (.slice (some ⟨w.heap.size, 0, none⟩) xs.length (xs.length + room)) (w.alloc (.cells (madeCells #[.int .u8 0] (xs.length + room)) 5)) := by
    have h := run_make (P := Try.prog) w 22 5 i0 (.int .u8 0) Try.underlying22 hi hz0 .i64 .i64 (xs.length : Int) ((xs.length : Int) + (room : Int)) (by omega) (by omega) (by rw [hz2]; omega) (by omega)
    have e1 : ((xs.length : Int)).toNat = xs.length := by omega
    have e2 : ((xs.length : Int) + (room : Int)).toNat = xs.length + room := by omega
    rw [e1, e2, hz1, Nat.mul_one] at h
    exact h
  have hcs : ((B8).all xs).length = Nat.min xs.length xs.length := by rw [Ty.all_length]; simp [show B8.sz = 1 from rfl]
  have HK : Go.RowKit.Hid ((madeCells #[.int .u8 0] (xs.length + room)).toList = List.replicate (xs.length + room) (.int .u8 0)) := toList_madeCells_one _ _
  have HG : Go.RowKit.Hid ((w.alloc (.cells (madeCells #[.int .u8 0] (xs.length + room)) 5)).heap[w.heap.size]? = some (.cells (List.replicate (xs.length + room) (.int .u8 0)).toArray 5 (0, 0))) := by
    show _ = _
    rw [heap_alloc_new, ← toList_madeCells_one]
  have HS : Go.RowKit.Hid (0 < ((B8).all xs).length → (some ⟨w.heap.size, 0, none⟩ : Option Addr) = some ⟨w.heap.size, 0, none⟩ ∧ ∃ ad, A = some ad ∧ ∀ j v, ((B8).all xs)[j]? = some v → (w.alloc (.cells (madeCells #[.int .u8 0] (xs.length + room)) 5)).cell? (ad.add j) = some v) := by
    intro hp
    rw [Ty.all_length] at hp; simp only [show B8.sz = 1 from rfl, Nat.mul_one] at hp
    obtain ⟨ad, rfl, hcc⟩ := hcell hp
    exact ⟨rfl, ad, rfl, fun j u hu => cell_below ((Below.refl _ _).alloc (Nat.le_refl _) _) (hcc j u hu)⟩
  have HF : 0 + ((B8).all xs).length ≤ (List.replicate (xs.length + room) (Value.int .u8 0)).length := by rw [Ty.all_length]; simp [show B8.sz = 1 from rfl]
  have HO : ∀ u ∈ B8.all xs, u.oneCell' = true := Ty.all_oneCell xs
  have HL : (B8.all xs).length = xs.length := by rw [Ty.all_length]; simp [show B8.sz = 1 from rfl]
  have HL' := Lib.hid HL
  clear HL
  go_enter Try.func68, Try.ntmps68
  go_wp2_with (refine wpList_copy_splice rfl (.tmp 13) (.tmp 14) _ _ rfl 5 Try.underlying22 (by kernel_rfl) _ _ _ _ _ _ rfl rfl w.heap.size 0 (List.replicate (xs.length + room) (.int .u8 0)) 5 (by exact HG.out) ((B8).all xs) hcs (by exact HS.out) (by exact HF) (by exact HO) w.heap.size w (by exact (Below.refl _ _).alloc (Nat.le_refl _) _) (Nat.le_refl _) ?_; intro w1 hg1 hb1)
  go_ret
  refine ⟨_, rfl, ⟨?_, .inr ⟨w.heap.size, xs.length + room, _, rfl, Nat.le_refl _, hg1.out, by omega, by simp [maxLen]; omega, ?_, ?_⟩⟩, hb1⟩
  · rw [Ty.all_length]
  · rw [List.size_toArray, length_splice _ _ _ (by rw [HL'.out]; simp)]; simp [show B8.sz = 1 from rfl]
  · simp [splice, show B8.sz = 1 from rfl, HL'.out]

set_option maxHeartbeats 400000 in
set_option maxRecDepth 100000 in
theorem Put_any (v : Value) (xs : List UInt8) (n : Nat) (w : World) (hv : RB w v xs) (hl : xs.length ≤ 16777216) (hn : W64 n) :
    Calls Try.prog 39 #[v, .int .u64 (n : Int)] w fun e w' => ∃ v', e = .returned v' ∧ OB w' w.heap.size v' (xs ++ putL n) ∧ Below w.heap.size w w' := by
  go_enter Try.func39, Try.ntmps39
  go_wp2_with (go_at_call 68; refine (grown_any v xs 10 _ hv hl (by omega)).mono ?_; rintro e w1 ⟨v1, rfl, ho1, hb1⟩)
  go_loopw [5, 1] (fun v5 v1 wr => ∃ (pre : List UInt8) (m : Nat), v1 = .int .u64 (m : Int) ∧ OB wr w.heap.size v5 (xs ++ pre) ∧ Below w.heap.size w wr ∧ pre ++ putL m = putL n) (fun _ i _ => (intOf i).toNat)
  case atStart => exact ⟨[], n, rfl, by simpa using ho1, hb1, rfl⟩
  case round =>
    obtain ⟨pre, m, rfl, ho, hb, hp⟩ := hrel
    have HP := Lib.hid hp
    clear hp
    have hB : w.heap.size ≤ wr.heap.size := hb.size
    have hlen : (xs ++ pre).length ≤ 1000000000 := by have h1 := congrArg List.length HP.out; have h2 := putL_len64 n hn; simp at h1 ⊢; omega
    by_cases h128 : 128 ≤ m
    · have h128' : (128 : Int) ≤ (m : Int) := by omega
      go_wp2_with (at_builtin; refine appB w.heap.size (.tmp 12) (.tmp 16) _ _ (UInt8.ofNat (m % 128 + 128)) _ ho hb hB hlen (or128 m) rfl rfl rfl rfl ?_; intro v2 w2 ho2 hb2 hg2 hat2 hs2)
      go_roundw
      case rel => exact ⟨pre ++ [UInt8.ofNat (m % 128 + 128)], m / 128, by go_num, by rw [← List.append_assoc]; exact ho2, hb2, by rw [← HP.out, putL.eq_1 m, if_neg (by omega), List.append_assoc]; rfl⟩
      case measure => simp [intOf]; omega
    · have h128' : (m : Int) < 128 := by omega
      go_wp2_with (at_builtin; refine appB w.heap.size (.tmp 18) (.tmp 21) _ _ (UInt8.ofNat m) _ ho hb hB hlen (by first | exact low8 m | exact low8' m (by omega)) rfl rfl rfl rfl ?_; intro v2 w2 ho2 hb2 hg2 hat2 hs2)
      go_ret
      exact ⟨_, rfl, by rw [← HP.out, putL.eq_1 m, if_pos (by omega), ← List.append_assoc]; exact ho2, hb2⟩

theorem drewB {B : Nat} {w w1 : World} (h : Below B w w1) : Below B w w1.drew := h.drew
theorem RB.drew {w : World} {v : Value} {xs : List UInt8} (h : RB w v xs) : RB w.drew v xs := h.below (Below.refl _ _).drew
theorem OB.drew {w : World} {base : Nat} {v : Value} {xs : List UInt8} (h : OB w base v xs) : OB w.drew base v xs := OR.below h (Below.refl _ _).drew

set_option maxHeartbeats 400000 in
theorem Clone_any (v : Value) (xs : List UInt8) (w : World) (hv : RB w v xs) (hl : xs.length ≤ 1000000000) :
    Calls Try.prog 46 #[v] w fun e w' => ∃ v', e = .returned v' ∧ OB w' w.heap.size v' xs ∧ Below w.heap.size w w' := by
  have hq := fun (w : World) (a : Option Addr) (n c n2 c2 : Nat) => Lib.run_eql_slice_nil (P := Try.prog) w 22 5 a n c n2 c2 Try.underlying22
  obtain ⟨A, c, rfl, hc, hm, hcell⟩ := id hv
  cases A with
  | none =>
    have h0 : xs.length = 0 := by
      rcases Nat.eq_zero_or_pos xs.length with h | h
      · exact h
      · obtain ⟨ad, h, _⟩ := hcell h; cases h
    obtain rfl := List.eq_nil_of_length_eq_zero h0
    go_enter Try.func46, Try.ntmps46
    go_wp2
    go_ret
    exact ⟨_, rfl, OR.nil _ _, Below.refl _ _⟩
  | some ad =>
    clear hcell
    have hb1 : Below w.heap.size w (w.alloc (.cells #[] 5)) := (Below.refl _ _).alloc (Nat.le_refl _) _
    have ho1 : OB (w.alloc (.cells #[] 5)) w.heap.size (.slice (some ⟨w.heap.size, 0, none⟩) 0 0) [] := OB.lit w w.heap.size [] #[] rfl (Nat.le_refl _) (by simp)
    have hr1 := hv.below hb1
    go_enter Try.func46, Try.ntmps46
    go_wp2_with (at_builtin; refine appBs w.heap.size (.tmp 5) (.tmp 6) _ _ [] xs ho1 hr1 hb1 (by simp) (by simp) hl rfl rfl rfl rfl ?_; intro v2 w2 ho2 hb2 hg2 hat2 hs2)
    go_ret
    exact ⟨_, rfl, by simpa using ho2, hb2⟩

theorem W64_len {xs : List UInt8} (h : xs.length ≤ 16777216) : W64 xs.length := by unfold W64; omega

set_option maxHeartbeats 400000 in
theorem isShort_any (i : Nat) (c : UInt8) (w : World) :
    Calls Try.prog 69 #[.int .i64 (i : Int), .int .u8 (c.toNat : Int)] w fun e w' => e = .returned (.bool (shortB i c)) ∧ w' = w := by
  have e1 : ((i : Int) == 0) = (i == 0) := by rw [Bool.eq_iff_iff]; simp
  have e2 : ((c.toNat : Int) != 0) = (c != 0) := by rw [Bool.eq_iff_iff]; simp [← UInt8.toNat_inj]
  have e3 : ((c.toNat : Int) == 1) = (c == 1) := by rw [Bool.eq_iff_iff]; simp [← UInt8.toNat_inj]; omega
  have e4 : decide ((i : Int) < 9) = decide (i < 9) := by rw [Bool.eq_iff_iff]; simp; omega
  unfold shortB
  cases h1 : (i == 0) <;> cases h2 : (c != 0) <;> cases h3 : (c == 1) <;> cases h4 : decide (i < 9) <;>
  (rw [h1] at e1; rw [h2] at e2; rw [h3] at e3; rw [h4] at e4
   go_enter Try.func69, Try.ntmps69
   go_wp2
   go_ret
   exact ⟨rfl, rfl⟩)

set_option maxHeartbeats 400000 in
theorem TakeBytes_any (v : Value) (xs : List UInt8) (n : Int) (w : World) (hv : RB w v xs) (hl : xs.length ≤ 1000000000) :
    Calls Try.prog 70 #[v, .int .i64 n] w fun e w' => ∃ v1 v2, e = .returned (.tuple #[v1, v2, .int .i64 (if n < 0 then 1 else if n ≤ xs.length then 0 else 2)]) ∧
      OB w' w.heap.size v1 (if n < 0 then [] else if n ≤ xs.length then xs.take n.toNat else []) ∧ OB w' w.heap.size v2 (if n < 0 then [] else if n ≤ xs.length then xs.drop n.toNat else []) ∧ (v1.ownBlock = none ∨ v1.ownBlock ≠ v2.ownBlock) ∧ Below w.heap.size w w' := by
  obtain ⟨A, c, rfl, hc⟩ := hv.len
  by_cases h0 : n < 0
  · rw [if_pos h0, if_pos h0, if_pos h0]
    go_enter Try.func70, Try.ntmps70
    go_wp2
    go_ret3
    exact ⟨_, _, rfl, OR.nil _ _, OR.nil _ _, (.inl rfl), Below.refl _ _⟩
  · rw [if_neg h0, if_neg h0, if_neg h0]
    have h0' : 0 ≤ n := by omega
    by_cases h1 : n ≤ xs.length
    · rw [if_pos h1, if_pos h1, if_pos h1]
      obtain ⟨m, rfl⟩ := Int.eq_ofNat_of_zero_le h0'
      have hm : m ≤ xs.length := by omega
      obtain ⟨A1, hcut1, hcut2, hcut3, hr1⟩ := cutB A c xs 0 m (by omega) hm hc
      obtain ⟨A2, hcut4, hcut5, hcut6, hr2⟩ := cutB A c xs m xs.length hm (Nat.le_refl _) hc
      have hk1 := fun W => hcut3 .i64 W rfl
      have hk2 := fun W => hcut5 .i64 W rfl
      have hq1 := hr1 w hv
      have hq2 := hr2 w hv
      simp only [Nat.sub_zero, List.drop_zero] at hq1
      rw [List.take_of_length_le (Nat.le_refl _)] at hq2
      clear hcut1 hcut2 hcut3 hcut4 hcut5 hcut6 hr1 hr2
      go_enter Try.func70, Try.ntmps70
      go_wp2
      go_region_held3 (fun _ => True) (trivial) (first
        | (go_at_call 46; refine (Clone_any _ (xs.take m) _ (RB.drew hq1) (by simp; omega)).mono ?_; rintro e w1 ⟨v1, rfl, ho1, hb1⟩)
        | (go_at_call 46; refine (Clone_any _ (xs.drop m) _ ((RB.drew hq2).below hb1) (by simp; omega)).mono ?_; rintro e w2 ⟨v2, rfl, ho2, hb2⟩)
        | fail)
      go_wp2
      go_ret3
      exact ⟨v1, v2, rfl, OR.below ho1 hb2, OR.lower ho2 hb1.size, OR.apart ho1 ho2, below_two (drewB (Below.refl _ _) |>.trans hb1) hb1.size hb2⟩
    · rw [if_neg h1, if_neg h1, if_neg h1]
      have h1' : (xs.length : Int) < n := by omega
      go_enter Try.func70, Try.ntmps70
      go_wp2
      go_ret3
      exact ⟨_, _, rfl, OR.nil _ _, OR.nil _ _, (.inl rfl), Below.refl _ _⟩

end Go.Proofs.Ytfnneneaalaagaa
